/- Queue: does, walked. -/
import Derived.Test.YtgaikacjophngaaAE
namespace Go.Proofs.Ytgaikacjophngaa
open Go.RowKit

theorem Told.only {S : Nat → Prop} {w w1 w2 : World} {A1 : Option Addr} {g1 : Nat} {pos : List Int} (h : Rd w1 g1 A1 (iv pos)) (k : Only S w1 w2) (hs : ∀ i, S i → i < w.heap.size) (hg : w.heap.size ≤ g1) : Rd w2 g1 A1 (iv pos) :=
  h.only k (fun e => by have := hs _ e; omega)

set_option maxRecDepth 100000 in
set_option maxHeartbeats 8000000 in
theorem does_any (B : Nat) (b rb chans n : Nat) (d c k l u p : Int) (pos : List Int) (Ao : Option Addr) (co : Nat) (w : World) (h : Some2 B w b rb chans n) (hn : n ≤ 1000) (hB : B ≤ w.heap.size) (hr : ∀ G, ∃ gs, Rd w gs Ao (iv pos) ∧ (gs < B ∨ G ≤ gs)) (hpl : pos.length ≤ 1000000) :
    Calls Try.prog 17 #[.pointer (some ⟨b, 0, none⟩), .pointer (some ⟨rb, 0, none⟩), .agg #[.int .i64 d, .int .i64 c, .int .i64 k, .int .i64 l, .int .i64 u, .int .i64 p, .slice Ao pos.length co]] w
      fun e w' => e = .returned (.bool true) ∧ Some2 B w' b rb chans (n + 1) ∧ Only (fun i => B ≤ i) w w' := by
  obtain ⟨P, P', A, cap, g, rl, h, hrl⟩ := h
  have hs := h.sharp
  have hlt : ∀ i, (P i ∧ i < w.heap.size) ∨ (P' i ∧ i < w.heap.size) → i < w.heap.size := fun i hi => by rcases hi with hi | hi <;> exact hi.2
  have hbase := hs.base
  generalize hP1 : (fun i => P i ∧ i < w.heap.size) = P1 at hs
  generalize hP1' : (fun i => P' i ∧ i < w.heap.size) = P1' at hs
  have hlt : ∀ i, P1 i ∨ P1' i → i < w.heap.size := by rw [← hP1, ← hP1']; exact hlt
  have hbase : ∀ i, P1 i ∨ P1' i → B ≤ i := by rw [← hP1, ← hP1']; exact hbase
  clear hP1 hP1' h
  have HS := Lib.hid hs
  have HLT := Lib.hid hlt
  have HBASE := Lib.hid hbase
  have HRR := Lib.hid hr
  clear hs hlt hbase hr
  have hd : d = 0 ∨ d = 1 ∨ d = 2 ∨ d = 3 ∨ d = 4 ∨ d = 5 ∨ d = 6 ∨ (d ≠ 0 ∧ d ≠ 1 ∧ d ≠ 2 ∧ d ≠ 3 ∧ d ≠ 4 ∧ d ≠ 5 ∧ d ≠ 6) := by omega
  rcases hd with rfl | rfl | rfl | rfl | rfl | rfl | rfl | ⟨d0, d1, d2, d3, d4, d5, d6⟩
  · have HA := Lib.hid (At.new w 33 #[.int .i64 0, .int .i64 c, .int .i64 k, .int .i64 l, .int .i64 u, .int .i64 p, .slice Ao pos.length co])
    have hOA := (Only.refl (fun _ => False) w).alloc (.cells #[.int .i64 0, .int .i64 c, .int .i64 k, .int .i64 l, .int .i64 u, .int .i64 p, .slice Ao pos.length co] 33)
    have HOA := Lib.hid hOA
    have HSA := Lib.hid (HS.out.quiet hOA)
    have hsz : (w.alloc (.cells #[.int .i64 0, .int .i64 c, .int .i64 k, .int .i64 l, .int .i64 u, .int .i64 p, .slice Ao pos.length co] 33)).heap.size = w.heap.size + 1 := by simp
    have HSZ := Lib.hid hsz
    have hltA : ∀ i, P1 i ∨ P1' i → i < (w.alloc (.cells #[.int .i64 0, .int .i64 c, .int .i64 k, .int .i64 l, .int .i64 u, .int .i64 p, .slice Ao pos.length co] 33)).heap.size := fun i hi => by have := HLT.out i hi; omega
    have HLTA := Lib.hid hltA
    clear hOA hsz hltA
    have e0 : (w.alloc (.cells #[.int .i64 0, .int .i64 c, .int .i64 k, .int .i64 l, .int .i64 u, .int .i64 p, .slice Ao pos.length co] 33)).cell? ⟨w.heap.size, 0, none⟩ = some (.int .i64 0) := HA.out.cell 0
    have e1 : (w.alloc (.cells #[.int .i64 0, .int .i64 c, .int .i64 k, .int .i64 l, .int .i64 u, .int .i64 p, .slice Ao pos.length co] 33)).cell? ⟨w.heap.size, 1, none⟩ = some (.int .i64 c) := HA.out.cell 1
    have e2 : (w.alloc (.cells #[.int .i64 0, .int .i64 c, .int .i64 k, .int .i64 l, .int .i64 u, .int .i64 p, .slice Ao pos.length co] 33)).cell? ⟨w.heap.size, 2, none⟩ = some (.int .i64 k) := HA.out.cell 2
    have e3 : (w.alloc (.cells #[.int .i64 0, .int .i64 c, .int .i64 k, .int .i64 l, .int .i64 u, .int .i64 p, .slice Ao pos.length co] 33)).cell? ⟨w.heap.size, 3, none⟩ = some (.int .i64 l) := HA.out.cell 3
    have e4 : (w.alloc (.cells #[.int .i64 0, .int .i64 c, .int .i64 k, .int .i64 l, .int .i64 u, .int .i64 p, .slice Ao pos.length co] 33)).cell? ⟨w.heap.size, 4, none⟩ = some (.int .i64 u) := HA.out.cell 4
    have e5 : (w.alloc (.cells #[.int .i64 0, .int .i64 c, .int .i64 k, .int .i64 l, .int .i64 u, .int .i64 p, .slice Ao pos.length co] 33)).cell? ⟨w.heap.size, 5, none⟩ = some (.int .i64 p) := HA.out.cell 5
    have e6 : (w.alloc (.cells #[.int .i64 0, .int .i64 c, .int .i64 k, .int .i64 l, .int .i64 u, .int .i64 p, .slice Ao pos.length co] 33)).cell? ⟨w.heap.size, 6, none⟩ = some (.slice Ao pos.length co) := HA.out.cell 6
    obtain ⟨gs, hrd, hgs⟩ := HRR.out w.heap.size
    obtain ⟨z, hput⟩ := puts (HSA.out.quiet ((Only.refl _ _).drew)) (by show B ≤ (w.alloc (.cells #[.int .i64 0, .int .i64 c, .int .i64 k, .int .i64 l, .int .i64 u, .int .i64 p, .slice Ao pos.length co] 33)).heap.size; have := HSZ.out; omega) (fun i hi => HLTA.out i hi) c k l u p pos Ao co gs ((hrd.only HOA.out id).only (S := fun _ => False) ((Only.refl _ _).drew) id) (fun e => by have h1 := HLT.out _ (.inl e); have h2 := HBASE.out _ (.inl e); omega) hpl (by omega)
    have HPUT := Lib.hid hput
    have zz : (z == z) = true := by simp
    clear hput hrd hgs
    go_enter Try.func17, Try.ntmps17
    go_wp2_with (fail)
    refine wp_region_held_drew (S := (fun W => (W.cell? ⟨w.heap.size, 1, none⟩ = some (.int .i64 c) ∧ W.cell? ⟨w.heap.size, 2, none⟩ = some (.int .i64 k) ∧ W.cell? ⟨w.heap.size, 3, none⟩ = some (.int .i64 l)) ∧ (W.cell? ⟨w.heap.size, 4, none⟩ = some (.int .i64 u) ∧ W.cell? ⟨w.heap.size, 5, none⟩ = some (.int .i64 p) ∧ W.cell? ⟨w.heap.size, 6, none⟩ = some (.slice Ao pos.length co)))) (by kernel_rfl) ?_ (fun hHeld => ?_)
    · exact ⟨⟨e1, e2, e3⟩, e4, e5, e6⟩
    refine wpAnyH_take (i := 0) (oi := { dst := some 20, op := Op.move (Operand.tmp 0), type := 25, pos := "law.go:48", after := #[], guard := none }) (v := ?_) rfl (by kernel_rfl) (by kernel_rfl) (by kernel_rfl) (fun _ _ _ h => h) (Or.inl ⟨by rfl, ?_⟩) (by assumption) ?_
    rotate_left
    · (intro w hSw; (try dsimp only at hSw); (try obtain ⟨hSa, hSb⟩ := hSw); go_simp; try with_reducible rfl)
    try simp only [Act.put, List.setIfInBounds_toArray, List.set_cons_zero, List.set_cons_succ]
    refine wpAnyH_take (i := 1) (oi := { dst := some 21, op := Op.fieldAddr 33 (Operand.tmp 5) 1, type := 0, pos := "law.go:48", after := #[], guard := none }) (v := ?_) rfl (by kernel_rfl) (by kernel_rfl) (by kernel_rfl) (fun _ _ _ h => h) (Or.inl ⟨by rfl, ?_⟩) (by assumption) ?_
    rotate_left
    · (intro w hSw; (try dsimp only at hSw); (try obtain ⟨hSa, hSb⟩ := hSw); go_simp; try with_reducible rfl)
    try simp only [Act.put, List.setIfInBounds_toArray, List.set_cons_zero, List.set_cons_succ]
    refine wpAnyH_take (i := 2) (oi := { dst := some 22, op := Op.load 3 (Operand.tmp 21), type := 3, pos := "law.go:48", after := #[{ on := 1, ground := Ground.data }], guard := none }) (v := ?_) rfl (by kernel_rfl) (by kernel_rfl) (by kernel_rfl) (fun _ _ _ h => h) (Or.inl ⟨by rfl, ?_⟩) (by assumption) ?_
    rotate_left
    · (intro w hSw; (try dsimp only at hSw); (try obtain ⟨hSa, hSb⟩ := hSw); go_simp; try with_reducible rfl)
    try simp only [Act.put, List.setIfInBounds_toArray, List.set_cons_zero, List.set_cons_succ]
    refine wpAnyH_take (i := 3) (oi := { dst := some 23, op := Op.fieldAddr 33 (Operand.tmp 5) 2, type := 0, pos := "law.go:48", after := #[], guard := none }) (v := ?_) rfl (by kernel_rfl) (by kernel_rfl) (by kernel_rfl) (fun _ _ _ h => h) (Or.inl ⟨by rfl, ?_⟩) (by assumption) ?_
    rotate_left
    · (intro w hSw; (try dsimp only at hSw); (try obtain ⟨hSa, hSb⟩ := hSw); go_simp; try with_reducible rfl)
    try simp only [Act.put, List.setIfInBounds_toArray, List.set_cons_zero, List.set_cons_succ]
    refine wpAnyH_take (i := 4) (oi := { dst := some 24, op := Op.load 31 (Operand.tmp 23), type := 31, pos := "law.go:48", after := #[{ on := 3, ground := Ground.data }], guard := none }) (v := ?_) rfl (by kernel_rfl) (by kernel_rfl) (by kernel_rfl) (fun _ _ _ h => h) (Or.inl ⟨by rfl, ?_⟩) (by assumption) ?_
    rotate_left
    · (intro w hSw; (try dsimp only at hSw); (try obtain ⟨hSa, hSb⟩ := hSw); go_simp; try with_reducible rfl)
    try simp only [Act.put, List.setIfInBounds_toArray, List.set_cons_zero, List.set_cons_succ]
    refine wpAnyH_take (i := 6) (oi := { dst := some 26, op := Op.move (Operand.tmp 1), type := 40, pos := "law.go:48", after := #[], guard := none }) (v := ?_) rfl (by kernel_rfl) (by kernel_rfl) (by kernel_rfl) (fun _ _ _ h => h) (Or.inl ⟨by rfl, ?_⟩) (by assumption) ?_
    rotate_left
    · (intro w hSw; (try dsimp only at hSw); (try obtain ⟨hSa, hSb⟩ := hSw); go_simp; try with_reducible rfl)
    try simp only [Act.put, List.setIfInBounds_toArray, List.set_cons_zero, List.set_cons_succ]
    refine wpAnyH_take (i := 7) (oi := { dst := some 27, op := Op.fieldAddr 33 (Operand.tmp 5) 1, type := 0, pos := "law.go:48", after := #[], guard := none }) (v := ?_) rfl (by kernel_rfl) (by kernel_rfl) (by kernel_rfl) (fun _ _ _ h => h) (Or.inl ⟨by rfl, ?_⟩) (by assumption) ?_
    rotate_left
    · (intro w hSw; (try dsimp only at hSw); (try obtain ⟨hSa, hSb⟩ := hSw); go_simp; try with_reducible rfl)
    try simp only [Act.put, List.setIfInBounds_toArray, List.set_cons_zero, List.set_cons_succ]
    refine wpAnyH_take (i := 8) (oi := { dst := some 28, op := Op.load 3 (Operand.tmp 27), type := 3, pos := "law.go:48", after := #[{ on := 7, ground := Ground.data }], guard := none }) (v := ?_) rfl (by kernel_rfl) (by kernel_rfl) (by kernel_rfl) (fun _ _ _ h => h) (Or.inl ⟨by rfl, ?_⟩) (by assumption) ?_
    rotate_left
    · (intro w hSw; (try dsimp only at hSw); (try obtain ⟨hSa, hSb⟩ := hSw); go_simp; try with_reducible rfl)
    try simp only [Act.put, List.setIfInBounds_toArray, List.set_cons_zero, List.set_cons_succ]
    refine wpAnyH_take (i := 9) (oi := { dst := some 29, op := Op.fieldAddr 33 (Operand.tmp 5) 2, type := 0, pos := "law.go:48", after := #[], guard := none }) (v := ?_) rfl (by kernel_rfl) (by kernel_rfl) (by kernel_rfl) (fun _ _ _ h => h) (Or.inl ⟨by rfl, ?_⟩) (by assumption) ?_
    rotate_left
    · (intro w hSw; (try dsimp only at hSw); (try obtain ⟨hSa, hSb⟩ := hSw); go_simp; try with_reducible rfl)
    try simp only [Act.put, List.setIfInBounds_toArray, List.set_cons_zero, List.set_cons_succ]
    refine wpAnyH_take (i := 10) (oi := { dst := some 30, op := Op.load 31 (Operand.tmp 29), type := 31, pos := "law.go:48", after := #[{ on := 9, ground := Ground.data }], guard := none }) (v := ?_) rfl (by kernel_rfl) (by kernel_rfl) (by kernel_rfl) (fun _ _ _ h => h) (Or.inl ⟨by rfl, ?_⟩) (by assumption) ?_
    rotate_left
    · (intro w hSw; (try dsimp only at hSw); (try obtain ⟨hSa, hSb⟩ := hSw); go_simp; try with_reducible rfl)
    try simp only [Act.put, List.setIfInBounds_toArray, List.set_cons_zero, List.set_cons_succ]
    refine wpAnyH_ready (rs := [5]) (by kernel_rfl) (by simp) ?_
    refine AllReadyH.cons (o := { dst := some 25, op := Op.call { callee := Callee.value (Operand.func 10), args := #[Operand.tmp 20, Operand.tmp 22, Operand.tmp 24], argTypes := #[25, 3, 31] }, type := 26, pos := "law.go:48", after := #[{ on := 0, ground := Ground.data }, { on := 2, ground := Ground.data }, { on := 4, ground := Ground.data }], guard := none }) rfl (fun K hK => ?_) AllReadyH.nil
    go_simp
    (go_at_call 10; refine HPUT.out.mono ?_; rintro e wx ⟨rfl, hO1, hC2⟩; have hkeep := Lib.hid (show (fun W => (W.cell? ⟨w.heap.size, 1, none⟩ = some (.int .i64 c) ∧ W.cell? ⟨w.heap.size, 2, none⟩ = some (.int .i64 k) ∧ W.cell? ⟨w.heap.size, 3, none⟩ = some (.int .i64 l)) ∧ (W.cell? ⟨w.heap.size, 4, none⟩ = some (.int .i64 u) ∧ W.cell? ⟨w.heap.size, 5, none⟩ = some (.int .i64 p) ∧ W.cell? ⟨w.heap.size, 6, none⟩ = some (.slice Ao pos.length co))) wx from ⟨⟨(hO1.cell (p := ⟨w.heap.size, 1, none⟩) (by show w.heap.size < (w.alloc (.cells #[.int .i64 0, .int .i64 c, .int .i64 k, .int .i64 l, .int .i64 u, .int .i64 p, .slice Ao pos.length co] 33)).heap.size; simp) (fun e => by have := HLT.out _ (.inl e); simp at this)).trans e1, (hO1.cell (p := ⟨w.heap.size, 2, none⟩) (by show w.heap.size < (w.alloc (.cells #[.int .i64 0, .int .i64 c, .int .i64 k, .int .i64 l, .int .i64 u, .int .i64 p, .slice Ao pos.length co] 33)).heap.size; simp) (fun e => by have := HLT.out _ (.inl e); simp at this)).trans e2, (hO1.cell (p := ⟨w.heap.size, 3, none⟩) (by show w.heap.size < (w.alloc (.cells #[.int .i64 0, .int .i64 c, .int .i64 k, .int .i64 l, .int .i64 u, .int .i64 p, .slice Ao pos.length co] 33)).heap.size; simp) (fun e => by have := HLT.out _ (.inl e); simp at this)).trans e3⟩, (hO1.cell (p := ⟨w.heap.size, 4, none⟩) (by show w.heap.size < (w.alloc (.cells #[.int .i64 0, .int .i64 c, .int .i64 k, .int .i64 l, .int .i64 u, .int .i64 p, .slice Ao pos.length co] 33)).heap.size; simp) (fun e => by have := HLT.out _ (.inl e); simp at this)).trans e4, (hO1.cell (p := ⟨w.heap.size, 5, none⟩) (by show w.heap.size < (w.alloc (.cells #[.int .i64 0, .int .i64 c, .int .i64 k, .int .i64 l, .int .i64 u, .int .i64 p, .slice Ao pos.length co] 33)).heap.size; simp) (fun e => by have := HLT.out _ (.inl e); simp at this)).trans e5, (hO1.cell (p := ⟨w.heap.size, 6, none⟩) (by show w.heap.size < (w.alloc (.cells #[.int .i64 0, .int .i64 c, .int .i64 k, .int .i64 l, .int .i64 u, .int .i64 p, .slice Ao pos.length co] 33)).heap.size; simp) (fun e => by have := HLT.out _ (.inl e); simp at this)).trans e6⟩); have HO1 := Lib.hid hO1; have HC2 := Lib.hid hC2; clear hO1 hC2; try simp only [])
    refine hK.out _ _ ?_ (fun hHeld => ?_)
    · exact hkeep.out
    clear hK K
    try simp only [Act.put, List.setIfInBounds_toArray, List.set_cons_zero, List.set_cons_succ]
    refine wpAnyH_ready (rs := [11]) (by kernel_rfl) (by simp) ?_
    refine AllReadyH.cons (o := { dst := some 31, op := Op.call { callee := Callee.value (Operand.func 20), args := #[Operand.tmp 26, Operand.tmp 28, Operand.tmp 30], argTypes := #[40, 3, 31] }, type := 26, pos := "law.go:48", after := #[{ on := 6, ground := Ground.data }, { on := 8, ground := Ground.data }, { on := 10, ground := Ground.data }, { on := 5, ground := Ground.chain }], guard := none }) rfl (fun K hK => ?_) AllReadyH.nil
    go_simp
    (go_at_call 20; refine HC2.out.mono ?_; rintro e wy ⟨rfl, hO2, hS2⟩; have hkeep2 := Lib.hid (show (fun W => (W.cell? ⟨w.heap.size, 1, none⟩ = some (.int .i64 c) ∧ W.cell? ⟨w.heap.size, 2, none⟩ = some (.int .i64 k) ∧ W.cell? ⟨w.heap.size, 3, none⟩ = some (.int .i64 l)) ∧ (W.cell? ⟨w.heap.size, 4, none⟩ = some (.int .i64 u) ∧ W.cell? ⟨w.heap.size, 5, none⟩ = some (.int .i64 p) ∧ W.cell? ⟨w.heap.size, 6, none⟩ = some (.slice Ao pos.length co))) wy from ⟨⟨(hO2.cell (p := ⟨w.heap.size, 1, none⟩) (Nat.lt_of_lt_of_le (by show w.heap.size < (w.alloc (.cells #[.int .i64 0, .int .i64 c, .int .i64 k, .int .i64 l, .int .i64 u, .int .i64 p, .slice Ao pos.length co] 33)).heap.size; simp) HO1.out.size) (fun e => by have := HLT.out _ (.inr e); simp at this)).trans hkeep.out.1.1, (hO2.cell (p := ⟨w.heap.size, 2, none⟩) (Nat.lt_of_lt_of_le (by show w.heap.size < (w.alloc (.cells #[.int .i64 0, .int .i64 c, .int .i64 k, .int .i64 l, .int .i64 u, .int .i64 p, .slice Ao pos.length co] 33)).heap.size; simp) HO1.out.size) (fun e => by have := HLT.out _ (.inr e); simp at this)).trans hkeep.out.1.2.1, (hO2.cell (p := ⟨w.heap.size, 3, none⟩) (Nat.lt_of_lt_of_le (by show w.heap.size < (w.alloc (.cells #[.int .i64 0, .int .i64 c, .int .i64 k, .int .i64 l, .int .i64 u, .int .i64 p, .slice Ao pos.length co] 33)).heap.size; simp) HO1.out.size) (fun e => by have := HLT.out _ (.inr e); simp at this)).trans hkeep.out.1.2.2⟩, (hO2.cell (p := ⟨w.heap.size, 4, none⟩) (Nat.lt_of_lt_of_le (by show w.heap.size < (w.alloc (.cells #[.int .i64 0, .int .i64 c, .int .i64 k, .int .i64 l, .int .i64 u, .int .i64 p, .slice Ao pos.length co] 33)).heap.size; simp) HO1.out.size) (fun e => by have := HLT.out _ (.inr e); simp at this)).trans hkeep.out.2.1, (hO2.cell (p := ⟨w.heap.size, 5, none⟩) (Nat.lt_of_lt_of_le (by show w.heap.size < (w.alloc (.cells #[.int .i64 0, .int .i64 c, .int .i64 k, .int .i64 l, .int .i64 u, .int .i64 p, .slice Ao pos.length co] 33)).heap.size; simp) HO1.out.size) (fun e => by have := HLT.out _ (.inr e); simp at this)).trans hkeep.out.2.2.1, (hO2.cell (p := ⟨w.heap.size, 6, none⟩) (Nat.lt_of_lt_of_le (by show w.heap.size < (w.alloc (.cells #[.int .i64 0, .int .i64 c, .int .i64 k, .int .i64 l, .int .i64 u, .int .i64 p, .slice Ao pos.length co] 33)).heap.size; simp) HO1.out.size) (fun e => by have := HLT.out _ (.inr e); simp at this)).trans hkeep.out.2.2.2⟩); have HO2 := Lib.hid hO2; have HS2 := Lib.hid hS2; clear hO2 hS2; try simp only [])
    refine hK.out _ _ ?_ (fun hHeld => ?_)
    · exact hkeep2.out
    clear hK K
    try simp only [Act.put, List.setIfInBounds_toArray, List.set_cons_zero, List.set_cons_succ]
    refine wpAnyH_take (i := 12) (oi := { dst := some 32, op := Op.binOp BinOp.eql 26 (Operand.tmp 25) (Operand.tmp 31) 26, type := 4, pos := "law.go:48", after := #[{ on := 5, ground := Ground.data }, { on := 11, ground := Ground.data }], guard := none }) (v := ?_) rfl (by kernel_rfl) (by kernel_rfl) (by kernel_rfl) (fun _ _ _ h => h) (Or.inl ⟨by rfl, ?_⟩) (by assumption) ?_
    rotate_left
    · (intro w hSw; (try dsimp only at hSw); (try obtain ⟨hSa, hSb⟩ := hSw); go_simp; try with_reducible rfl)
    try simp only [Act.put, List.setIfInBounds_toArray, List.set_cons_zero, List.set_cons_succ]
    refine wpAnyH_take (i := 13) (oi := { dst := some 6, op := Op.assign (Operand.tmp 32), type := 4, pos := "law.go:48", after := #[{ on := 12, ground := Ground.data }, { on := 11, ground := Ground.chain }, { on := 0, ground := Ground.phase }, { on := 1, ground := Ground.phase }, { on := 2, ground := Ground.phase }, { on := 3, ground := Ground.phase }, { on := 4, ground := Ground.phase }, { on := 5, ground := Ground.phase }, { on := 6, ground := Ground.phase }, { on := 7, ground := Ground.phase }, { on := 8, ground := Ground.phase }, { on := 9, ground := Ground.phase }, { on := 10, ground := Ground.phase }, { on := 11, ground := Ground.phase }, { on := 12, ground := Ground.phase }], guard := none }) (v := ?_) rfl (by kernel_rfl) (by kernel_rfl) (by kernel_rfl) (fun _ _ _ h => h) (Or.inl ⟨by rfl, ?_⟩) (by assumption) ?_
    rotate_left
    · (intro w hSw; (try dsimp only at hSw); (try obtain ⟨hSa, hSb⟩ := hSw); go_simp; try with_reducible rfl)
    try simp only [Act.put, List.setIfInBounds_toArray, List.set_cons_zero, List.set_cons_succ]
    refine wpAnyH_done (by kernel_rfl) ?_ _
    go_wp2
    go_ret
    obtain ⟨Q, Q', A2, cap2, g2, rl2, hb, hl2⟩ := HS2.out
    exact ⟨by simp, hb.some (by omega), ((HOA.out.drew.mono (fun _ _ h => h.elim)).trans (HO1.out.mono (fun i _ e => HBASE.out i (.inl e)))).trans (HO2.out.mono (fun i _ e => HBASE.out i (.inr e)))⟩
  · have HA := Lib.hid (At.new w 33 #[.int .i64 1, .int .i64 c, .int .i64 k, .int .i64 l, .int .i64 u, .int .i64 p, .slice Ao pos.length co])
    have hOA := (Only.refl (fun _ => False) w).alloc (.cells #[.int .i64 1, .int .i64 c, .int .i64 k, .int .i64 l, .int .i64 u, .int .i64 p, .slice Ao pos.length co] 33)
    have HOA := Lib.hid hOA
    have HSA := Lib.hid (HS.out.quiet hOA)
    have hsz : (w.alloc (.cells #[.int .i64 1, .int .i64 c, .int .i64 k, .int .i64 l, .int .i64 u, .int .i64 p, .slice Ao pos.length co] 33)).heap.size = w.heap.size + 1 := by simp
    have HSZ := Lib.hid hsz
    have hltA : ∀ i, P1 i ∨ P1' i → i < (w.alloc (.cells #[.int .i64 1, .int .i64 c, .int .i64 k, .int .i64 l, .int .i64 u, .int .i64 p, .slice Ao pos.length co] 33)).heap.size := fun i hi => by have := HLT.out i hi; omega
    have HLTA := Lib.hid hltA
    clear hOA hsz hltA
    have e0 : (w.alloc (.cells #[.int .i64 1, .int .i64 c, .int .i64 k, .int .i64 l, .int .i64 u, .int .i64 p, .slice Ao pos.length co] 33)).cell? ⟨w.heap.size, 0, none⟩ = some (.int .i64 1) := HA.out.cell 0
    have e1 : (w.alloc (.cells #[.int .i64 1, .int .i64 c, .int .i64 k, .int .i64 l, .int .i64 u, .int .i64 p, .slice Ao pos.length co] 33)).cell? ⟨w.heap.size, 1, none⟩ = some (.int .i64 c) := HA.out.cell 1
    have e2 : (w.alloc (.cells #[.int .i64 1, .int .i64 c, .int .i64 k, .int .i64 l, .int .i64 u, .int .i64 p, .slice Ao pos.length co] 33)).cell? ⟨w.heap.size, 2, none⟩ = some (.int .i64 k) := HA.out.cell 2
    have e3 : (w.alloc (.cells #[.int .i64 1, .int .i64 c, .int .i64 k, .int .i64 l, .int .i64 u, .int .i64 p, .slice Ao pos.length co] 33)).cell? ⟨w.heap.size, 3, none⟩ = some (.int .i64 l) := HA.out.cell 3
    have e4 : (w.alloc (.cells #[.int .i64 1, .int .i64 c, .int .i64 k, .int .i64 l, .int .i64 u, .int .i64 p, .slice Ao pos.length co] 33)).cell? ⟨w.heap.size, 4, none⟩ = some (.int .i64 u) := HA.out.cell 4
    have e5 : (w.alloc (.cells #[.int .i64 1, .int .i64 c, .int .i64 k, .int .i64 l, .int .i64 u, .int .i64 p, .slice Ao pos.length co] 33)).cell? ⟨w.heap.size, 5, none⟩ = some (.int .i64 p) := HA.out.cell 5
    have e6 : (w.alloc (.cells #[.int .i64 1, .int .i64 c, .int .i64 k, .int .i64 l, .int .i64 u, .int .i64 p, .slice Ao pos.length co] 33)).cell? ⟨w.heap.size, 6, none⟩ = some (.slice Ao pos.length co) := HA.out.cell 6
    obtain ⟨gs, hrd, hgs⟩ := HRR.out w.heap.size
    obtain ⟨z, hput⟩ := puts (HSA.out.quiet ((Only.refl _ _).drew)) (by show B ≤ (w.alloc (.cells #[.int .i64 1, .int .i64 c, .int .i64 k, .int .i64 l, .int .i64 u, .int .i64 p, .slice Ao pos.length co] 33)).heap.size; have := HSZ.out; omega) (fun i hi => HLTA.out i hi) c k l u p pos Ao co gs ((hrd.only HOA.out id).only (S := fun _ => False) ((Only.refl _ _).drew) id) (fun e => by have h1 := HLT.out _ (.inl e); have h2 := HBASE.out _ (.inl e); omega) hpl (by omega)
    have HPUT := Lib.hid hput
    have zz : (z == z) = true := by simp
    clear hput hrd hgs
    go_enter Try.func17, Try.ntmps17
    go_wp2_with (fail)
    refine wp_region_held_drew (S := (fun W => (W.cell? ⟨w.heap.size, 1, none⟩ = some (.int .i64 c) ∧ W.cell? ⟨w.heap.size, 2, none⟩ = some (.int .i64 k) ∧ W.cell? ⟨w.heap.size, 3, none⟩ = some (.int .i64 l)) ∧ (W.cell? ⟨w.heap.size, 4, none⟩ = some (.int .i64 u) ∧ W.cell? ⟨w.heap.size, 5, none⟩ = some (.int .i64 p) ∧ W.cell? ⟨w.heap.size, 6, none⟩ = some (.slice Ao pos.length co)))) (by kernel_rfl) ?_ (fun hHeld => ?_)
    · exact ⟨⟨e1, e2, e3⟩, e4, e5, e6⟩
    refine wpAnyH_take (i := 0) (oi := { dst := some 20, op := Op.move (Operand.tmp 0), type := 25, pos := "law.go:48", after := #[], guard := none }) (v := ?_) rfl (by kernel_rfl) (by kernel_rfl) (by kernel_rfl) (fun _ _ _ h => h) (Or.inl ⟨by rfl, ?_⟩) (by assumption) ?_
    rotate_left
    · (intro w hSw; (try dsimp only at hSw); (try obtain ⟨hSa, hSb⟩ := hSw); go_simp; try with_reducible rfl)
    try simp only [Act.put, List.setIfInBounds_toArray, List.set_cons_zero, List.set_cons_succ]
    refine wpAnyH_take (i := 1) (oi := { dst := some 21, op := Op.fieldAddr 33 (Operand.tmp 5) 1, type := 0, pos := "law.go:48", after := #[], guard := none }) (v := ?_) rfl (by kernel_rfl) (by kernel_rfl) (by kernel_rfl) (fun _ _ _ h => h) (Or.inl ⟨by rfl, ?_⟩) (by assumption) ?_
    rotate_left
    · (intro w hSw; (try dsimp only at hSw); (try obtain ⟨hSa, hSb⟩ := hSw); go_simp; try with_reducible rfl)
    try simp only [Act.put, List.setIfInBounds_toArray, List.set_cons_zero, List.set_cons_succ]
    refine wpAnyH_take (i := 2) (oi := { dst := some 22, op := Op.load 3 (Operand.tmp 21), type := 3, pos := "law.go:48", after := #[{ on := 1, ground := Ground.data }], guard := none }) (v := ?_) rfl (by kernel_rfl) (by kernel_rfl) (by kernel_rfl) (fun _ _ _ h => h) (Or.inl ⟨by rfl, ?_⟩) (by assumption) ?_
    rotate_left
    · (intro w hSw; (try dsimp only at hSw); (try obtain ⟨hSa, hSb⟩ := hSw); go_simp; try with_reducible rfl)
    try simp only [Act.put, List.setIfInBounds_toArray, List.set_cons_zero, List.set_cons_succ]
    refine wpAnyH_take (i := 3) (oi := { dst := some 23, op := Op.fieldAddr 33 (Operand.tmp 5) 2, type := 0, pos := "law.go:48", after := #[], guard := none }) (v := ?_) rfl (by kernel_rfl) (by kernel_rfl) (by kernel_rfl) (fun _ _ _ h => h) (Or.inl ⟨by rfl, ?_⟩) (by assumption) ?_
    rotate_left
    · (intro w hSw; (try dsimp only at hSw); (try obtain ⟨hSa, hSb⟩ := hSw); go_simp; try with_reducible rfl)
    try simp only [Act.put, List.setIfInBounds_toArray, List.set_cons_zero, List.set_cons_succ]
    refine wpAnyH_take (i := 4) (oi := { dst := some 24, op := Op.load 31 (Operand.tmp 23), type := 31, pos := "law.go:48", after := #[{ on := 3, ground := Ground.data }], guard := none }) (v := ?_) rfl (by kernel_rfl) (by kernel_rfl) (by kernel_rfl) (fun _ _ _ h => h) (Or.inl ⟨by rfl, ?_⟩) (by assumption) ?_
    rotate_left
    · (intro w hSw; (try dsimp only at hSw); (try obtain ⟨hSa, hSb⟩ := hSw); go_simp; try with_reducible rfl)
    try simp only [Act.put, List.setIfInBounds_toArray, List.set_cons_zero, List.set_cons_succ]
    refine wpAnyH_take (i := 6) (oi := { dst := some 26, op := Op.move (Operand.tmp 1), type := 40, pos := "law.go:48", after := #[], guard := none }) (v := ?_) rfl (by kernel_rfl) (by kernel_rfl) (by kernel_rfl) (fun _ _ _ h => h) (Or.inl ⟨by rfl, ?_⟩) (by assumption) ?_
    rotate_left
    · (intro w hSw; (try dsimp only at hSw); (try obtain ⟨hSa, hSb⟩ := hSw); go_simp; try with_reducible rfl)
    try simp only [Act.put, List.setIfInBounds_toArray, List.set_cons_zero, List.set_cons_succ]
    refine wpAnyH_take (i := 7) (oi := { dst := some 27, op := Op.fieldAddr 33 (Operand.tmp 5) 1, type := 0, pos := "law.go:48", after := #[], guard := none }) (v := ?_) rfl (by kernel_rfl) (by kernel_rfl) (by kernel_rfl) (fun _ _ _ h => h) (Or.inl ⟨by rfl, ?_⟩) (by assumption) ?_
    rotate_left
    · (intro w hSw; (try dsimp only at hSw); (try obtain ⟨hSa, hSb⟩ := hSw); go_simp; try with_reducible rfl)
    try simp only [Act.put, List.setIfInBounds_toArray, List.set_cons_zero, List.set_cons_succ]
    refine wpAnyH_take (i := 8) (oi := { dst := some 28, op := Op.load 3 (Operand.tmp 27), type := 3, pos := "law.go:48", after := #[{ on := 7, ground := Ground.data }], guard := none }) (v := ?_) rfl (by kernel_rfl) (by kernel_rfl) (by kernel_rfl) (fun _ _ _ h => h) (Or.inl ⟨by rfl, ?_⟩) (by assumption) ?_
    rotate_left
    · (intro w hSw; (try dsimp only at hSw); (try obtain ⟨hSa, hSb⟩ := hSw); go_simp; try with_reducible rfl)
    try simp only [Act.put, List.setIfInBounds_toArray, List.set_cons_zero, List.set_cons_succ]
    refine wpAnyH_take (i := 9) (oi := { dst := some 29, op := Op.fieldAddr 33 (Operand.tmp 5) 2, type := 0, pos := "law.go:48", after := #[], guard := none }) (v := ?_) rfl (by kernel_rfl) (by kernel_rfl) (by kernel_rfl) (fun _ _ _ h => h) (Or.inl ⟨by rfl, ?_⟩) (by assumption) ?_
    rotate_left
    · (intro w hSw; (try dsimp only at hSw); (try obtain ⟨hSa, hSb⟩ := hSw); go_simp; try with_reducible rfl)
    try simp only [Act.put, List.setIfInBounds_toArray, List.set_cons_zero, List.set_cons_succ]
    refine wpAnyH_take (i := 10) (oi := { dst := some 30, op := Op.load 31 (Operand.tmp 29), type := 31, pos := "law.go:48", after := #[{ on := 9, ground := Ground.data }], guard := none }) (v := ?_) rfl (by kernel_rfl) (by kernel_rfl) (by kernel_rfl) (fun _ _ _ h => h) (Or.inl ⟨by rfl, ?_⟩) (by assumption) ?_
    rotate_left
    · (intro w hSw; (try dsimp only at hSw); (try obtain ⟨hSa, hSb⟩ := hSw); go_simp; try with_reducible rfl)
    try simp only [Act.put, List.setIfInBounds_toArray, List.set_cons_zero, List.set_cons_succ]
    refine wpAnyH_ready (rs := [5]) (by kernel_rfl) (by simp) ?_
    refine AllReadyH.cons (o := { dst := some 25, op := Op.call { callee := Callee.value (Operand.func 10), args := #[Operand.tmp 20, Operand.tmp 22, Operand.tmp 24], argTypes := #[25, 3, 31] }, type := 26, pos := "law.go:48", after := #[{ on := 0, ground := Ground.data }, { on := 2, ground := Ground.data }, { on := 4, ground := Ground.data }], guard := none }) rfl (fun K hK => ?_) AllReadyH.nil
    go_simp
    (go_at_call 10; refine HPUT.out.mono ?_; rintro e wx ⟨rfl, hO1, hC2⟩; have hkeep := Lib.hid (show (fun W => (W.cell? ⟨w.heap.size, 1, none⟩ = some (.int .i64 c) ∧ W.cell? ⟨w.heap.size, 2, none⟩ = some (.int .i64 k) ∧ W.cell? ⟨w.heap.size, 3, none⟩ = some (.int .i64 l)) ∧ (W.cell? ⟨w.heap.size, 4, none⟩ = some (.int .i64 u) ∧ W.cell? ⟨w.heap.size, 5, none⟩ = some (.int .i64 p) ∧ W.cell? ⟨w.heap.size, 6, none⟩ = some (.slice Ao pos.length co))) wx from ⟨⟨(hO1.cell (p := ⟨w.heap.size, 1, none⟩) (by show w.heap.size < (w.alloc (.cells #[.int .i64 1, .int .i64 c, .int .i64 k, .int .i64 l, .int .i64 u, .int .i64 p, .slice Ao pos.length co] 33)).heap.size; simp) (fun e => by have := HLT.out _ (.inl e); simp at this)).trans e1, (hO1.cell (p := ⟨w.heap.size, 2, none⟩) (by show w.heap.size < (w.alloc (.cells #[.int .i64 1, .int .i64 c, .int .i64 k, .int .i64 l, .int .i64 u, .int .i64 p, .slice Ao pos.length co] 33)).heap.size; simp) (fun e => by have := HLT.out _ (.inl e); simp at this)).trans e2, (hO1.cell (p := ⟨w.heap.size, 3, none⟩) (by show w.heap.size < (w.alloc (.cells #[.int .i64 1, .int .i64 c, .int .i64 k, .int .i64 l, .int .i64 u, .int .i64 p, .slice Ao pos.length co] 33)).heap.size; simp) (fun e => by have := HLT.out _ (.inl e); simp at this)).trans e3⟩, (hO1.cell (p := ⟨w.heap.size, 4, none⟩) (by show w.heap.size < (w.alloc (.cells #[.int .i64 1, .int .i64 c, .int .i64 k, .int .i64 l, .int .i64 u, .int .i64 p, .slice Ao pos.length co] 33)).heap.size; simp) (fun e => by have := HLT.out _ (.inl e); simp at this)).trans e4, (hO1.cell (p := ⟨w.heap.size, 5, none⟩) (by show w.heap.size < (w.alloc (.cells #[.int .i64 1, .int .i64 c, .int .i64 k, .int .i64 l, .int .i64 u, .int .i64 p, .slice Ao pos.length co] 33)).heap.size; simp) (fun e => by have := HLT.out _ (.inl e); simp at this)).trans e5, (hO1.cell (p := ⟨w.heap.size, 6, none⟩) (by show w.heap.size < (w.alloc (.cells #[.int .i64 1, .int .i64 c, .int .i64 k, .int .i64 l, .int .i64 u, .int .i64 p, .slice Ao pos.length co] 33)).heap.size; simp) (fun e => by have := HLT.out _ (.inl e); simp at this)).trans e6⟩); have HO1 := Lib.hid hO1; have HC2 := Lib.hid hC2; clear hO1 hC2; try simp only [])
    refine hK.out _ _ ?_ (fun hHeld => ?_)
    · exact hkeep.out
    clear hK K
    try simp only [Act.put, List.setIfInBounds_toArray, List.set_cons_zero, List.set_cons_succ]
    refine wpAnyH_ready (rs := [11]) (by kernel_rfl) (by simp) ?_
    refine AllReadyH.cons (o := { dst := some 31, op := Op.call { callee := Callee.value (Operand.func 20), args := #[Operand.tmp 26, Operand.tmp 28, Operand.tmp 30], argTypes := #[40, 3, 31] }, type := 26, pos := "law.go:48", after := #[{ on := 6, ground := Ground.data }, { on := 8, ground := Ground.data }, { on := 10, ground := Ground.data }, { on := 5, ground := Ground.chain }], guard := none }) rfl (fun K hK => ?_) AllReadyH.nil
    go_simp
    (go_at_call 20; refine HC2.out.mono ?_; rintro e wy ⟨rfl, hO2, hS2⟩; have hkeep2 := Lib.hid (show (fun W => (W.cell? ⟨w.heap.size, 1, none⟩ = some (.int .i64 c) ∧ W.cell? ⟨w.heap.size, 2, none⟩ = some (.int .i64 k) ∧ W.cell? ⟨w.heap.size, 3, none⟩ = some (.int .i64 l)) ∧ (W.cell? ⟨w.heap.size, 4, none⟩ = some (.int .i64 u) ∧ W.cell? ⟨w.heap.size, 5, none⟩ = some (.int .i64 p) ∧ W.cell? ⟨w.heap.size, 6, none⟩ = some (.slice Ao pos.length co))) wy from ⟨⟨(hO2.cell (p := ⟨w.heap.size, 1, none⟩) (Nat.lt_of_lt_of_le (by show w.heap.size < (w.alloc (.cells #[.int .i64 1, .int .i64 c, .int .i64 k, .int .i64 l, .int .i64 u, .int .i64 p, .slice Ao pos.length co] 33)).heap.size; simp) HO1.out.size) (fun e => by have := HLT.out _ (.inr e); simp at this)).trans hkeep.out.1.1, (hO2.cell (p := ⟨w.heap.size, 2, none⟩) (Nat.lt_of_lt_of_le (by show w.heap.size < (w.alloc (.cells #[.int .i64 1, .int .i64 c, .int .i64 k, .int .i64 l, .int .i64 u, .int .i64 p, .slice Ao pos.length co] 33)).heap.size; simp) HO1.out.size) (fun e => by have := HLT.out _ (.inr e); simp at this)).trans hkeep.out.1.2.1, (hO2.cell (p := ⟨w.heap.size, 3, none⟩) (Nat.lt_of_lt_of_le (by show w.heap.size < (w.alloc (.cells #[.int .i64 1, .int .i64 c, .int .i64 k, .int .i64 l, .int .i64 u, .int .i64 p, .slice Ao pos.length co] 33)).heap.size; simp) HO1.out.size) (fun e => by have := HLT.out _ (.inr e); simp at this)).trans hkeep.out.1.2.2⟩, (hO2.cell (p := ⟨w.heap.size, 4, none⟩) (Nat.lt_of_lt_of_le (by show w.heap.size < (w.alloc (.cells #[.int .i64 1, .int .i64 c, .int .i64 k, .int .i64 l, .int .i64 u, .int .i64 p, .slice Ao pos.length co] 33)).heap.size; simp) HO1.out.size) (fun e => by have := HLT.out _ (.inr e); simp at this)).trans hkeep.out.2.1, (hO2.cell (p := ⟨w.heap.size, 5, none⟩) (Nat.lt_of_lt_of_le (by show w.heap.size < (w.alloc (.cells #[.int .i64 1, .int .i64 c, .int .i64 k, .int .i64 l, .int .i64 u, .int .i64 p, .slice Ao pos.length co] 33)).heap.size; simp) HO1.out.size) (fun e => by have := HLT.out _ (.inr e); simp at this)).trans hkeep.out.2.2.1, (hO2.cell (p := ⟨w.heap.size, 6, none⟩) (Nat.lt_of_lt_of_le (by show w.heap.size < (w.alloc (.cells #[.int .i64 1, .int .i64 c, .int .i64 k, .int .i64 l, .int .i64 u, .int .i64 p, .slice Ao pos.length co] 33)).heap.size; simp) HO1.out.size) (fun e => by have := HLT.out _ (.inr e); simp at this)).trans hkeep.out.2.2.2⟩); have HO2 := Lib.hid hO2; have HS2 := Lib.hid hS2; clear hO2 hS2; try simp only [])
    refine hK.out _ _ ?_ (fun hHeld => ?_)
    · exact hkeep2.out
    clear hK K
    try simp only [Act.put, List.setIfInBounds_toArray, List.set_cons_zero, List.set_cons_succ]
    refine wpAnyH_take (i := 12) (oi := { dst := some 32, op := Op.binOp BinOp.eql 26 (Operand.tmp 25) (Operand.tmp 31) 26, type := 4, pos := "law.go:48", after := #[{ on := 5, ground := Ground.data }, { on := 11, ground := Ground.data }], guard := none }) (v := ?_) rfl (by kernel_rfl) (by kernel_rfl) (by kernel_rfl) (fun _ _ _ h => h) (Or.inl ⟨by rfl, ?_⟩) (by assumption) ?_
    rotate_left
    · (intro w hSw; (try dsimp only at hSw); (try obtain ⟨hSa, hSb⟩ := hSw); go_simp; try with_reducible rfl)
    try simp only [Act.put, List.setIfInBounds_toArray, List.set_cons_zero, List.set_cons_succ]
    refine wpAnyH_take (i := 13) (oi := { dst := some 6, op := Op.assign (Operand.tmp 32), type := 4, pos := "law.go:48", after := #[{ on := 12, ground := Ground.data }, { on := 11, ground := Ground.chain }, { on := 0, ground := Ground.phase }, { on := 1, ground := Ground.phase }, { on := 2, ground := Ground.phase }, { on := 3, ground := Ground.phase }, { on := 4, ground := Ground.phase }, { on := 5, ground := Ground.phase }, { on := 6, ground := Ground.phase }, { on := 7, ground := Ground.phase }, { on := 8, ground := Ground.phase }, { on := 9, ground := Ground.phase }, { on := 10, ground := Ground.phase }, { on := 11, ground := Ground.phase }, { on := 12, ground := Ground.phase }], guard := none }) (v := ?_) rfl (by kernel_rfl) (by kernel_rfl) (by kernel_rfl) (fun _ _ _ h => h) (Or.inl ⟨by rfl, ?_⟩) (by assumption) ?_
    rotate_left
    · (intro w hSw; (try dsimp only at hSw); (try obtain ⟨hSa, hSb⟩ := hSw); go_simp; try with_reducible rfl)
    try simp only [Act.put, List.setIfInBounds_toArray, List.set_cons_zero, List.set_cons_succ]
    refine wpAnyH_done (by kernel_rfl) ?_ _
    go_wp2
    go_ret
    obtain ⟨Q, Q', A2, cap2, g2, rl2, hb, hl2⟩ := HS2.out
    exact ⟨by simp, hb.some (by omega), ((HOA.out.drew.mono (fun _ _ h => h.elim)).trans (HO1.out.mono (fun i _ e => HBASE.out i (.inl e)))).trans (HO2.out.mono (fun i _ e => HBASE.out i (.inr e)))⟩
  · have HA := Lib.hid (At.new w 33 #[.int .i64 2, .int .i64 c, .int .i64 k, .int .i64 l, .int .i64 u, .int .i64 p, .slice Ao pos.length co])
    have hOA := (Only.refl (fun _ => False) w).alloc (.cells #[.int .i64 2, .int .i64 c, .int .i64 k, .int .i64 l, .int .i64 u, .int .i64 p, .slice Ao pos.length co] 33)
    have HOA := Lib.hid hOA
    have HSA := Lib.hid (HS.out.quiet hOA)
    have hsz : (w.alloc (.cells #[.int .i64 2, .int .i64 c, .int .i64 k, .int .i64 l, .int .i64 u, .int .i64 p, .slice Ao pos.length co] 33)).heap.size = w.heap.size + 1 := by simp
    have HSZ := Lib.hid hsz
    have hltA : ∀ i, P1 i ∨ P1' i → i < (w.alloc (.cells #[.int .i64 2, .int .i64 c, .int .i64 k, .int .i64 l, .int .i64 u, .int .i64 p, .slice Ao pos.length co] 33)).heap.size := fun i hi => by have := HLT.out i hi; omega
    have HLTA := Lib.hid hltA
    clear hOA hsz hltA
    have e0 : (w.alloc (.cells #[.int .i64 2, .int .i64 c, .int .i64 k, .int .i64 l, .int .i64 u, .int .i64 p, .slice Ao pos.length co] 33)).cell? ⟨w.heap.size, 0, none⟩ = some (.int .i64 2) := HA.out.cell 0
    have e1 : (w.alloc (.cells #[.int .i64 2, .int .i64 c, .int .i64 k, .int .i64 l, .int .i64 u, .int .i64 p, .slice Ao pos.length co] 33)).cell? ⟨w.heap.size, 1, none⟩ = some (.int .i64 c) := HA.out.cell 1
    have e2 : (w.alloc (.cells #[.int .i64 2, .int .i64 c, .int .i64 k, .int .i64 l, .int .i64 u, .int .i64 p, .slice Ao pos.length co] 33)).cell? ⟨w.heap.size, 2, none⟩ = some (.int .i64 k) := HA.out.cell 2
    have e3 : (w.alloc (.cells #[.int .i64 2, .int .i64 c, .int .i64 k, .int .i64 l, .int .i64 u, .int .i64 p, .slice Ao pos.length co] 33)).cell? ⟨w.heap.size, 3, none⟩ = some (.int .i64 l) := HA.out.cell 3
    have e4 : (w.alloc (.cells #[.int .i64 2, .int .i64 c, .int .i64 k, .int .i64 l, .int .i64 u, .int .i64 p, .slice Ao pos.length co] 33)).cell? ⟨w.heap.size, 4, none⟩ = some (.int .i64 u) := HA.out.cell 4
    have e5 : (w.alloc (.cells #[.int .i64 2, .int .i64 c, .int .i64 k, .int .i64 l, .int .i64 u, .int .i64 p, .slice Ao pos.length co] 33)).cell? ⟨w.heap.size, 5, none⟩ = some (.int .i64 p) := HA.out.cell 5
    have e6 : (w.alloc (.cells #[.int .i64 2, .int .i64 c, .int .i64 k, .int .i64 l, .int .i64 u, .int .i64 p, .slice Ao pos.length co] 33)).cell? ⟨w.heap.size, 6, none⟩ = some (.slice Ao pos.length co) := HA.out.cell 6
    obtain ⟨jk, jl, ju, jp, jpos, z, hjl, hpop⟩ := pops HSA.out HLTA.out c (by omega)
    have HPOP := Lib.hid hpop
    have zz : (z == z) = true := by simp
    clear hpop e0 e2 e3 e4 e5 e6
    have e0 : (w.alloc (.cells #[.int .i64 2, .int .i64 c, .int .i64 k, .int .i64 l, .int .i64 u, .int .i64 p, .slice Ao pos.length co] 33)).cell? ⟨w.heap.size, 0, none⟩ = some (.int .i64 2) := HA.out.cell 0
    go_enter Try.func17, Try.ntmps17
    go_wp2_with (fail)
    refine HPOP.out.mono ?_
    rintro e w1 ⟨⟨A1, c1, g1, rfl, hrd1, hg1⟩, hO1, hC2⟩
    have hx : ¬ P1 w.heap.size := fun e => by have := HLT.out _ (.inl e); omega
    have hx' : ¬ P1' w.heap.size := fun e => by have := HLT.out _ (.inr e); omega
    have hA1 := (HA.out.only hO1 hx).alloc (.cells #[.int .i64 jk, .int .i64 jl, .int .i64 ju, .int .i64 jp, .slice A1 jpos.length c1] 31)
    have f1 := hA1.cell 1
    simp at f1
    have HA1 := Lib.hid hA1
    have HJ1 := Lib.hid (At.new w1 31 #[.int .i64 jk, .int .i64 jl, .int .i64 ju, .int .i64 jp, .slice A1 jpos.length c1])
    have HRD1 := Lib.hid (hrd1.only ((Only.refl (fun _ => False) w1).alloc (.cells #[.int .i64 jk, .int .i64 jl, .int .i64 ju, .int .i64 jp, .slice A1 jpos.length c1] 31)) id)
    have HO1 := Lib.hid hO1
    have HC2 := Lib.hid (hC2 _ ((Only.refl (fun _ => False) w1).alloc (.cells #[.int .i64 jk, .int .i64 jl, .int .i64 ju, .int .i64 jp, .slice A1 jpos.length c1] 31)))
    have hs1 := hO1.size
    clear hA1 hrd1 hO1 hC2
    go_wp2_with (fail)
    refine HC2.out.mono ?_
    rintro e w2 ⟨⟨A2, c2, g2, rfl, hrd2, hg2⟩, hO2, hS2⟩
    have hy' : ¬ P1' w1.heap.size := fun e => by have := HLT.out _ (.inr e); have := HSZ.out; omega
    have HJ2 := Lib.hid ((HJ1.out.only hO2 hy').alloc (.cells #[.int .i64 jk, .int .i64 jl, .int .i64 ju, .int .i64 jp, .slice A2 jpos.length c2] 31))
    have HK2 := Lib.hid (At.new w2 31 #[.int .i64 jk, .int .i64 jl, .int .i64 ju, .int .i64 jp, .slice A2 jpos.length c2])
    have hO3 := (Only.refl (fun _ => False) w2).alloc (.cells #[.int .i64 jk, .int .i64 jl, .int .i64 ju, .int .i64 jp, .slice A2 jpos.length c2] 31)
    have HSM := Lib.hid (same_true jk jl ju jp jpos A1 A2 c1 c2 g1 g2 _ ((HRD1.out.only hO2 (fun e => by have := HLT.out _ (.inr e); have := HSZ.out; omega)).only hO3 id) (hrd2.only hO3 id) hjl)
    have HO2 := Lib.hid hO2
    have HO3 := Lib.hid hO3
    have HS2 := Lib.hid hS2
    have q0 := HJ2.out.cell 0
    have s0 := HK2.out.cell 0
    have q1 := HJ2.out.cell 1
    have s1 := HK2.out.cell 1
    have q2 := HJ2.out.cell 2
    have s2 := HK2.out.cell 2
    have q3 := HJ2.out.cell 3
    have s3 := HK2.out.cell 3
    have q4 := HJ2.out.cell 4
    have s4 := HK2.out.cell 4
    simp at q0 q1 q2 q3 q4 s0 s1 s2 s3 s4
    clear hrd2 hO2 hO3 hS2
    go_wp2_with (fail)
    refine HSM.out.mono ?_
    rintro e w3 ⟨rfl, hO4⟩
    have HO4 := Lib.hid hO4
    clear hO4
    go_wp2
    go_ret
    obtain ⟨Q, Q', A3, cap3, g3, rl3, hb, hl3⟩ := HS2.out
    refine ⟨by simp, ((hb.quiet HO3.out).quiet HO4.out).some (by omega), ?_⟩
    exact ((((HOA.out.mono (fun _ _ h => h.elim)).trans (HO1.out.mono (fun i _ e => HBASE.out i (.inl e)))).trans (((Only.refl _ _).alloc _).trans (HO2.out.mono (fun i _ e => HBASE.out i (.inr e))))).trans (HO3.out.mono (fun _ _ h => h.elim))).trans (HO4.out.mono (fun _ _ h => h.elim))
  · have HA := Lib.hid (At.new w 33 #[.int .i64 3, .int .i64 c, .int .i64 k, .int .i64 l, .int .i64 u, .int .i64 p, .slice Ao pos.length co])
    have hOA := (Only.refl (fun _ => False) w).alloc (.cells #[.int .i64 3, .int .i64 c, .int .i64 k, .int .i64 l, .int .i64 u, .int .i64 p, .slice Ao pos.length co] 33)
    have HOA := Lib.hid hOA
    have HSA := Lib.hid (HS.out.quiet hOA)
    have hsz : (w.alloc (.cells #[.int .i64 3, .int .i64 c, .int .i64 k, .int .i64 l, .int .i64 u, .int .i64 p, .slice Ao pos.length co] 33)).heap.size = w.heap.size + 1 := by simp
    have HSZ := Lib.hid hsz
    have hltA : ∀ i, P1 i ∨ P1' i → i < (w.alloc (.cells #[.int .i64 3, .int .i64 c, .int .i64 k, .int .i64 l, .int .i64 u, .int .i64 p, .slice Ao pos.length co] 33)).heap.size := fun i hi => by have := HLT.out i hi; omega
    have HLTA := Lib.hid hltA
    clear hOA hsz hltA
    have e0 : (w.alloc (.cells #[.int .i64 3, .int .i64 c, .int .i64 k, .int .i64 l, .int .i64 u, .int .i64 p, .slice Ao pos.length co] 33)).cell? ⟨w.heap.size, 0, none⟩ = some (.int .i64 3) := HA.out.cell 0
    have e1 : (w.alloc (.cells #[.int .i64 3, .int .i64 c, .int .i64 k, .int .i64 l, .int .i64 u, .int .i64 p, .slice Ao pos.length co] 33)).cell? ⟨w.heap.size, 1, none⟩ = some (.int .i64 c) := HA.out.cell 1
    have e2 : (w.alloc (.cells #[.int .i64 3, .int .i64 c, .int .i64 k, .int .i64 l, .int .i64 u, .int .i64 p, .slice Ao pos.length co] 33)).cell? ⟨w.heap.size, 2, none⟩ = some (.int .i64 k) := HA.out.cell 2
    have e3 : (w.alloc (.cells #[.int .i64 3, .int .i64 c, .int .i64 k, .int .i64 l, .int .i64 u, .int .i64 p, .slice Ao pos.length co] 33)).cell? ⟨w.heap.size, 3, none⟩ = some (.int .i64 l) := HA.out.cell 3
    have e4 : (w.alloc (.cells #[.int .i64 3, .int .i64 c, .int .i64 k, .int .i64 l, .int .i64 u, .int .i64 p, .slice Ao pos.length co] 33)).cell? ⟨w.heap.size, 4, none⟩ = some (.int .i64 u) := HA.out.cell 4
    have e5 : (w.alloc (.cells #[.int .i64 3, .int .i64 c, .int .i64 k, .int .i64 l, .int .i64 u, .int .i64 p, .slice Ao pos.length co] 33)).cell? ⟨w.heap.size, 5, none⟩ = some (.int .i64 p) := HA.out.cell 5
    have e6 : (w.alloc (.cells #[.int .i64 3, .int .i64 c, .int .i64 k, .int .i64 l, .int .i64 u, .int .i64 p, .slice Ao pos.length co] 33)).cell? ⟨w.heap.size, 6, none⟩ = some (.slice Ao pos.length co) := HA.out.cell 6
    obtain ⟨jk, jl, ju, jp, jpos, z, hjl, hpop⟩ := pops HSA.out HLTA.out c (by omega)
    have HPOP := Lib.hid hpop
    have zz : (z == z) = true := by simp
    clear hpop e0 e2 e3 e4 e5 e6
    have e0 : (w.alloc (.cells #[.int .i64 3, .int .i64 c, .int .i64 k, .int .i64 l, .int .i64 u, .int .i64 p, .slice Ao pos.length co] 33)).cell? ⟨w.heap.size, 0, none⟩ = some (.int .i64 3) := HA.out.cell 0
    go_enter Try.func17, Try.ntmps17
    go_wp2_with (fail)
    refine HPOP.out.mono ?_
    rintro e w1 ⟨⟨A1, c1, g1, rfl, hrd1, hg1⟩, hO1, hC2⟩
    have hx : ¬ P1 w.heap.size := fun e => by have := HLT.out _ (.inl e); omega
    have hx' : ¬ P1' w.heap.size := fun e => by have := HLT.out _ (.inr e); omega
    have hA1 := (HA.out.only hO1 hx).alloc (.cells #[.int .i64 jk, .int .i64 jl, .int .i64 ju, .int .i64 jp, .slice A1 jpos.length c1] 31)
    have f1 := hA1.cell 1
    simp at f1
    have HA1 := Lib.hid hA1
    have HJ1 := Lib.hid (At.new w1 31 #[.int .i64 jk, .int .i64 jl, .int .i64 ju, .int .i64 jp, .slice A1 jpos.length c1])
    have HRD1 := Lib.hid (hrd1.only ((Only.refl (fun _ => False) w1).alloc (.cells #[.int .i64 jk, .int .i64 jl, .int .i64 ju, .int .i64 jp, .slice A1 jpos.length c1] 31)) id)
    have HO1 := Lib.hid hO1
    have HC2 := Lib.hid (hC2 _ ((Only.refl (fun _ => False) w1).alloc (.cells #[.int .i64 jk, .int .i64 jl, .int .i64 ju, .int .i64 jp, .slice A1 jpos.length c1] 31)))
    have hs1 := hO1.size
    clear hA1 hrd1 hO1 hC2
    go_wp2_with (fail)
    refine HC2.out.mono ?_
    rintro e w2 ⟨⟨A2, c2, g2, rfl, hrd2, hg2⟩, hO2, hS2⟩
    have hy' : ¬ P1' w1.heap.size := fun e => by have := HLT.out _ (.inr e); have := HSZ.out; omega
    have HJ2 := Lib.hid ((HJ1.out.only hO2 hy').alloc (.cells #[.int .i64 jk, .int .i64 jl, .int .i64 ju, .int .i64 jp, .slice A2 jpos.length c2] 31))
    have HK2 := Lib.hid (At.new w2 31 #[.int .i64 jk, .int .i64 jl, .int .i64 ju, .int .i64 jp, .slice A2 jpos.length c2])
    have hO3 := (Only.refl (fun _ => False) w2).alloc (.cells #[.int .i64 jk, .int .i64 jl, .int .i64 ju, .int .i64 jp, .slice A2 jpos.length c2] 31)
    have HSM := Lib.hid (same_true jk jl ju jp jpos A1 A2 c1 c2 g1 g2 _ ((HRD1.out.only hO2 (fun e => by have := HLT.out _ (.inr e); have := HSZ.out; omega)).only hO3 id) (hrd2.only hO3 id) hjl)
    have HO2 := Lib.hid hO2
    have HO3 := Lib.hid hO3
    have HS2 := Lib.hid hS2
    have q0 := HJ2.out.cell 0
    have s0 := HK2.out.cell 0
    have q1 := HJ2.out.cell 1
    have s1 := HK2.out.cell 1
    have q2 := HJ2.out.cell 2
    have s2 := HK2.out.cell 2
    have q3 := HJ2.out.cell 3
    have s3 := HK2.out.cell 3
    have q4 := HJ2.out.cell 4
    have s4 := HK2.out.cell 4
    simp at q0 q1 q2 q3 q4 s0 s1 s2 s3 s4
    clear hrd2 hO2 hO3 hS2
    go_wp2_with (fail)
    refine HSM.out.mono ?_
    rintro e w3 ⟨rfl, hO4⟩
    have HO4 := Lib.hid hO4
    clear hO4
    go_wp2
    go_ret
    obtain ⟨Q, Q', A3, cap3, g3, rl3, hb, hl3⟩ := HS2.out
    refine ⟨by simp, ((hb.quiet HO3.out).quiet HO4.out).some (by omega), ?_⟩
    exact ((((HOA.out.mono (fun _ _ h => h.elim)).trans (HO1.out.mono (fun i _ e => HBASE.out i (.inl e)))).trans (((Only.refl _ _).alloc _).trans (HO2.out.mono (fun i _ e => HBASE.out i (.inr e))))).trans (HO3.out.mono (fun _ _ h => h.elim))).trans (HO4.out.mono (fun _ _ h => h.elim))
  · have HA := Lib.hid (At.new w 33 #[.int .i64 4, .int .i64 c, .int .i64 k, .int .i64 l, .int .i64 u, .int .i64 p, .slice Ao pos.length co])
    have hOA := (Only.refl (fun _ => False) w).alloc (.cells #[.int .i64 4, .int .i64 c, .int .i64 k, .int .i64 l, .int .i64 u, .int .i64 p, .slice Ao pos.length co] 33)
    have HOA := Lib.hid hOA
    have HSA := Lib.hid (HS.out.quiet hOA)
    have hsz : (w.alloc (.cells #[.int .i64 4, .int .i64 c, .int .i64 k, .int .i64 l, .int .i64 u, .int .i64 p, .slice Ao pos.length co] 33)).heap.size = w.heap.size + 1 := by simp
    have HSZ := Lib.hid hsz
    have hltA : ∀ i, P1 i ∨ P1' i → i < (w.alloc (.cells #[.int .i64 4, .int .i64 c, .int .i64 k, .int .i64 l, .int .i64 u, .int .i64 p, .slice Ao pos.length co] 33)).heap.size := fun i hi => by have := HLT.out i hi; omega
    have HLTA := Lib.hid hltA
    clear hOA hsz hltA
    have e0 : (w.alloc (.cells #[.int .i64 4, .int .i64 c, .int .i64 k, .int .i64 l, .int .i64 u, .int .i64 p, .slice Ao pos.length co] 33)).cell? ⟨w.heap.size, 0, none⟩ = some (.int .i64 4) := HA.out.cell 0
    have e1 : (w.alloc (.cells #[.int .i64 4, .int .i64 c, .int .i64 k, .int .i64 l, .int .i64 u, .int .i64 p, .slice Ao pos.length co] 33)).cell? ⟨w.heap.size, 1, none⟩ = some (.int .i64 c) := HA.out.cell 1
    have e2 : (w.alloc (.cells #[.int .i64 4, .int .i64 c, .int .i64 k, .int .i64 l, .int .i64 u, .int .i64 p, .slice Ao pos.length co] 33)).cell? ⟨w.heap.size, 2, none⟩ = some (.int .i64 k) := HA.out.cell 2
    have e3 : (w.alloc (.cells #[.int .i64 4, .int .i64 c, .int .i64 k, .int .i64 l, .int .i64 u, .int .i64 p, .slice Ao pos.length co] 33)).cell? ⟨w.heap.size, 3, none⟩ = some (.int .i64 l) := HA.out.cell 3
    have e4 : (w.alloc (.cells #[.int .i64 4, .int .i64 c, .int .i64 k, .int .i64 l, .int .i64 u, .int .i64 p, .slice Ao pos.length co] 33)).cell? ⟨w.heap.size, 4, none⟩ = some (.int .i64 u) := HA.out.cell 4
    have e5 : (w.alloc (.cells #[.int .i64 4, .int .i64 c, .int .i64 k, .int .i64 l, .int .i64 u, .int .i64 p, .slice Ao pos.length co] 33)).cell? ⟨w.heap.size, 5, none⟩ = some (.int .i64 p) := HA.out.cell 5
    have e6 : (w.alloc (.cells #[.int .i64 4, .int .i64 c, .int .i64 k, .int .i64 l, .int .i64 u, .int .i64 p, .slice Ao pos.length co] 33)).cell? ⟨w.heap.size, 6, none⟩ = some (.slice Ao pos.length co) := HA.out.cell 6
    obtain ⟨jk, jl, ju, jp, jpos, z, hjl, hpop, hpop2⟩ := firsts HSA.out c (by omega)
    have HPOP := Lib.hid hpop
    have HPOP2 := Lib.hid hpop2
    have zz : (z == z) = true := by simp
    clear hpop hpop2 e0 e2 e3 e4 e5 e6
    have e0 : (w.alloc (.cells #[.int .i64 4, .int .i64 c, .int .i64 k, .int .i64 l, .int .i64 u, .int .i64 p, .slice Ao pos.length co] 33)).cell? ⟨w.heap.size, 0, none⟩ = some (.int .i64 4) := HA.out.cell 0
    go_enter Try.func17, Try.ntmps17
    go_wp2_with (fail)
    refine (HPOP.out _ (Only.refl _ _)).mono ?_
    rintro e w1 ⟨⟨A1, c1, g1, rfl, hrd1, hg1⟩, hO1⟩
    have hA1 := (HA.out.only hO1 id).alloc (.cells #[.int .i64 jk, .int .i64 jl, .int .i64 ju, .int .i64 jp, .slice A1 jpos.length c1] 31)
    have f1 := hA1.cell 1
    simp at f1
    have HA1 := Lib.hid hA1
    have HJ1 := Lib.hid (At.new w1 31 #[.int .i64 jk, .int .i64 jl, .int .i64 ju, .int .i64 jp, .slice A1 jpos.length c1])
    have HRD1 := Lib.hid (hrd1.only ((Only.refl (fun _ => False) w1).alloc (.cells #[.int .i64 jk, .int .i64 jl, .int .i64 ju, .int .i64 jp, .slice A1 jpos.length c1] 31)) id)
    have HO1 := Lib.hid hO1
    have HC2 := Lib.hid (HPOP2.out _ (hO1.alloc (.cells #[.int .i64 jk, .int .i64 jl, .int .i64 ju, .int .i64 jp, .slice A1 jpos.length c1] 31)))
    have hs1 := hO1.size
    clear hA1 hrd1 hO1
    go_wp2_with (fail)
    refine HC2.out.mono ?_
    rintro e w2 ⟨⟨A2, c2, g2, rfl, hrd2, hg2⟩, hO2⟩
    have HJ2 := Lib.hid ((HJ1.out.only hO2 id).alloc (.cells #[.int .i64 jk, .int .i64 jl, .int .i64 ju, .int .i64 jp, .slice A2 jpos.length c2] 31))
    have HK2 := Lib.hid (At.new w2 31 #[.int .i64 jk, .int .i64 jl, .int .i64 ju, .int .i64 jp, .slice A2 jpos.length c2])
    have hO3 := (Only.refl (fun _ => False) w2).alloc (.cells #[.int .i64 jk, .int .i64 jl, .int .i64 ju, .int .i64 jp, .slice A2 jpos.length c2] 31)
    have HSM := Lib.hid (same_true jk jl ju jp jpos A1 A2 c1 c2 g1 g2 _ ((HRD1.out.only hO2 id).only hO3 id) (hrd2.only hO3 id) hjl)
    have HO2 := Lib.hid hO2
    have HO3 := Lib.hid hO3
    have q0 := HJ2.out.cell 0
    have s0 := HK2.out.cell 0
    have q1 := HJ2.out.cell 1
    have s1 := HK2.out.cell 1
    have q2 := HJ2.out.cell 2
    have s2 := HK2.out.cell 2
    have q3 := HJ2.out.cell 3
    have s3 := HK2.out.cell 3
    have q4 := HJ2.out.cell 4
    have s4 := HK2.out.cell 4
    simp at q0 q1 q2 q3 q4 s0 s1 s2 s3 s4
    clear hrd2 hO2 hO3
    go_wp2_with (fail)
    refine HSM.out.mono ?_
    rintro e w3 ⟨rfl, hO4⟩
    have HO4 := Lib.hid hO4
    clear hO4
    go_wp2
    go_ret
    have hall := ((((HOA.out.trans HO1.out).alloc (.cells #[.int .i64 jk, .int .i64 jl, .int .i64 ju, .int .i64 jp, .slice A1 jpos.length c1] 31)).trans HO2.out).trans HO3.out).trans HO4.out
    exact ⟨by simp, (HS.out.quiet hall).some (by omega), hall.mono (fun _ _ h => h.elim)⟩
  · have HA := Lib.hid (At.new w 33 #[.int .i64 5, .int .i64 c, .int .i64 k, .int .i64 l, .int .i64 u, .int .i64 p, .slice Ao pos.length co])
    have hOA := (Only.refl (fun _ => False) w).alloc (.cells #[.int .i64 5, .int .i64 c, .int .i64 k, .int .i64 l, .int .i64 u, .int .i64 p, .slice Ao pos.length co] 33)
    have HOA := Lib.hid hOA
    have HSA := Lib.hid (HS.out.quiet hOA)
    have hsz : (w.alloc (.cells #[.int .i64 5, .int .i64 c, .int .i64 k, .int .i64 l, .int .i64 u, .int .i64 p, .slice Ao pos.length co] 33)).heap.size = w.heap.size + 1 := by simp
    have HSZ := Lib.hid hsz
    have hltA : ∀ i, P1 i ∨ P1' i → i < (w.alloc (.cells #[.int .i64 5, .int .i64 c, .int .i64 k, .int .i64 l, .int .i64 u, .int .i64 p, .slice Ao pos.length co] 33)).heap.size := fun i hi => by have := HLT.out i hi; omega
    have HLTA := Lib.hid hltA
    clear hOA hsz hltA
    have e0 : (w.alloc (.cells #[.int .i64 5, .int .i64 c, .int .i64 k, .int .i64 l, .int .i64 u, .int .i64 p, .slice Ao pos.length co] 33)).cell? ⟨w.heap.size, 0, none⟩ = some (.int .i64 5) := HA.out.cell 0
    have e1 : (w.alloc (.cells #[.int .i64 5, .int .i64 c, .int .i64 k, .int .i64 l, .int .i64 u, .int .i64 p, .slice Ao pos.length co] 33)).cell? ⟨w.heap.size, 1, none⟩ = some (.int .i64 c) := HA.out.cell 1
    have e2 : (w.alloc (.cells #[.int .i64 5, .int .i64 c, .int .i64 k, .int .i64 l, .int .i64 u, .int .i64 p, .slice Ao pos.length co] 33)).cell? ⟨w.heap.size, 2, none⟩ = some (.int .i64 k) := HA.out.cell 2
    have e3 : (w.alloc (.cells #[.int .i64 5, .int .i64 c, .int .i64 k, .int .i64 l, .int .i64 u, .int .i64 p, .slice Ao pos.length co] 33)).cell? ⟨w.heap.size, 3, none⟩ = some (.int .i64 l) := HA.out.cell 3
    have e4 : (w.alloc (.cells #[.int .i64 5, .int .i64 c, .int .i64 k, .int .i64 l, .int .i64 u, .int .i64 p, .slice Ao pos.length co] 33)).cell? ⟨w.heap.size, 4, none⟩ = some (.int .i64 u) := HA.out.cell 4
    have e5 : (w.alloc (.cells #[.int .i64 5, .int .i64 c, .int .i64 k, .int .i64 l, .int .i64 u, .int .i64 p, .slice Ao pos.length co] 33)).cell? ⟨w.heap.size, 5, none⟩ = some (.int .i64 p) := HA.out.cell 5
    have e6 : (w.alloc (.cells #[.int .i64 5, .int .i64 c, .int .i64 k, .int .i64 l, .int .i64 u, .int .i64 p, .slice Ao pos.length co] 33)).cell? ⟨w.heap.size, 6, none⟩ = some (.slice Ao pos.length co) := HA.out.cell 6
    clear e0 e2 e3 e4 e5 e6
    have e0 : (w.alloc (.cells #[.int .i64 5, .int .i64 c, .int .i64 k, .int .i64 l, .int .i64 u, .int .i64 p, .slice Ao pos.length co] 33)).cell? ⟨w.heap.size, 0, none⟩ = some (.int .i64 5) := HA.out.cell 0
    obtain ⟨z, h1, h2⟩ := lens (HSA.out.quiet ((Only.refl _ _).drew)) c (by omega)
    have H1 := Lib.hid h1
    have H2 := Lib.hid h2
    have zz : (z == z) = true := by simp
    clear h1 h2
    go_enter Try.func17, Try.ntmps17
    go_wp2_with (fail)
    refine wp_region_held_drew (S := (fun W => W.cell? ⟨w.heap.size, 1, none⟩ = some (.int .i64 c))) (by kernel_rfl) ?_ (fun hHeld => ?_)
    · exact e1
    refine wpAnyH_take (i := 0) (oi := { dst := some 84, op := Op.move (Operand.tmp 0), type := 25, pos := "law.go:58", after := #[], guard := none }) (v := ?_) rfl (by kernel_rfl) (by kernel_rfl) (by kernel_rfl) (fun _ _ _ h => h) (Or.inl ⟨by rfl, ?_⟩) (by assumption) ?_
    rotate_left
    · (intro w hSw; (try dsimp only at hSw); (try obtain ⟨hSa, hSb⟩ := hSw); go_simp; try with_reducible rfl)
    try simp only [Act.put, List.setIfInBounds_toArray, List.set_cons_zero, List.set_cons_succ]
    refine wpAnyH_take (i := 1) (oi := { dst := some 85, op := Op.fieldAddr 33 (Operand.tmp 5) 1, type := 0, pos := "law.go:58", after := #[], guard := none }) (v := ?_) rfl (by kernel_rfl) (by kernel_rfl) (by kernel_rfl) (fun _ _ _ h => h) (Or.inl ⟨by rfl, ?_⟩) (by assumption) ?_
    rotate_left
    · (intro w hSw; (try dsimp only at hSw); (try obtain ⟨hSa, hSb⟩ := hSw); go_simp; try with_reducible rfl)
    try simp only [Act.put, List.setIfInBounds_toArray, List.set_cons_zero, List.set_cons_succ]
    refine wpAnyH_take (i := 2) (oi := { dst := some 86, op := Op.load 3 (Operand.tmp 85), type := 3, pos := "law.go:58", after := #[{ on := 1, ground := Ground.data }], guard := none }) (v := ?_) rfl (by kernel_rfl) (by kernel_rfl) (by kernel_rfl) (fun _ _ _ h => h) (Or.inl ⟨by rfl, ?_⟩) (by assumption) ?_
    rotate_left
    · (intro w hSw; (try dsimp only at hSw); (try obtain ⟨hSa, hSb⟩ := hSw); go_simp; try with_reducible rfl)
    try simp only [Act.put, List.setIfInBounds_toArray, List.set_cons_zero, List.set_cons_succ]
    refine wpAnyH_take (i := 4) (oi := { dst := some 88, op := Op.move (Operand.tmp 1), type := 40, pos := "law.go:58", after := #[], guard := none }) (v := ?_) rfl (by kernel_rfl) (by kernel_rfl) (by kernel_rfl) (fun _ _ _ h => h) (Or.inl ⟨by rfl, ?_⟩) (by assumption) ?_
    rotate_left
    · (intro w hSw; (try dsimp only at hSw); (try obtain ⟨hSa, hSb⟩ := hSw); go_simp; try with_reducible rfl)
    try simp only [Act.put, List.setIfInBounds_toArray, List.set_cons_zero, List.set_cons_succ]
    refine wpAnyH_take (i := 5) (oi := { dst := some 89, op := Op.fieldAddr 33 (Operand.tmp 5) 1, type := 0, pos := "law.go:58", after := #[], guard := none }) (v := ?_) rfl (by kernel_rfl) (by kernel_rfl) (by kernel_rfl) (fun _ _ _ h => h) (Or.inl ⟨by rfl, ?_⟩) (by assumption) ?_
    rotate_left
    · (intro w hSw; (try dsimp only at hSw); (try obtain ⟨hSa, hSb⟩ := hSw); go_simp; try with_reducible rfl)
    try simp only [Act.put, List.setIfInBounds_toArray, List.set_cons_zero, List.set_cons_succ]
    refine wpAnyH_take (i := 6) (oi := { dst := some 90, op := Op.load 3 (Operand.tmp 89), type := 3, pos := "law.go:58", after := #[{ on := 5, ground := Ground.data }], guard := none }) (v := ?_) rfl (by kernel_rfl) (by kernel_rfl) (by kernel_rfl) (fun _ _ _ h => h) (Or.inl ⟨by rfl, ?_⟩) (by assumption) ?_
    rotate_left
    · (intro w hSw; (try dsimp only at hSw); (try obtain ⟨hSa, hSb⟩ := hSw); go_simp; try with_reducible rfl)
    try simp only [Act.put, List.setIfInBounds_toArray, List.set_cons_zero, List.set_cons_succ]
    refine wpAnyH_ready (rs := [3]) (by kernel_rfl) (by simp) ?_
    refine AllReadyH.cons (o := { dst := some 87, op := Op.call { callee := Callee.value (Operand.func 12), args := #[Operand.tmp 84, Operand.tmp 86], argTypes := #[25, 3] }, type := 3, pos := "law.go:58", after := #[{ on := 0, ground := Ground.data }, { on := 2, ground := Ground.data }], guard := none }) rfl (fun K hK => ?_) AllReadyH.nil
    go_simp
    (go_at_call 12; refine H1.out.mono ?_; rintro e wx ⟨rfl, rfl⟩; try simp only [])
    refine hK.out _ _ ?_ (fun hHeld => ?_)
    · exact e1
    clear hK K
    try simp only [Act.put, List.setIfInBounds_toArray, List.set_cons_zero, List.set_cons_succ]
    refine wpAnyH_ready (rs := [7]) (by kernel_rfl) (by simp) ?_
    refine AllReadyH.cons (o := { dst := some 91, op := Op.call { callee := Callee.value (Operand.func 23), args := #[Operand.tmp 88, Operand.tmp 90], argTypes := #[40, 3] }, type := 3, pos := "law.go:58", after := #[{ on := 4, ground := Ground.data }, { on := 6, ground := Ground.data }, { on := 3, ground := Ground.chain }], guard := none }) rfl (fun K hK => ?_) AllReadyH.nil
    go_simp
    (go_at_call 23; refine H2.out.mono ?_; rintro e wy ⟨rfl, rfl⟩; try simp only [])
    refine hK.out _ _ ?_ (fun hHeld => ?_)
    · exact e1
    clear hK K
    try simp only [Act.put, List.setIfInBounds_toArray, List.set_cons_zero, List.set_cons_succ]
    refine wpAnyH_take (i := 8) (oi := { dst := some 92, op := Op.binOp BinOp.eql 3 (Operand.tmp 87) (Operand.tmp 91) 3, type := 4, pos := "law.go:58", after := #[{ on := 3, ground := Ground.data }, { on := 7, ground := Ground.data }], guard := none }) (v := ?_) rfl (by kernel_rfl) (by kernel_rfl) (by kernel_rfl) (fun _ _ _ h => h) (Or.inl ⟨by rfl, ?_⟩) (by assumption) ?_
    rotate_left
    · (intro w hSw; (try dsimp only at hSw); (try obtain ⟨hSa, hSb⟩ := hSw); go_simp; try with_reducible rfl)
    try simp only [Act.put, List.setIfInBounds_toArray, List.set_cons_zero, List.set_cons_succ]
    refine wpAnyH_take (i := 9) (oi := { dst := some 6, op := Op.assign (Operand.tmp 92), type := 4, pos := "law.go:58", after := #[{ on := 8, ground := Ground.data }, { on := 7, ground := Ground.chain }, { on := 0, ground := Ground.phase }, { on := 1, ground := Ground.phase }, { on := 2, ground := Ground.phase }, { on := 3, ground := Ground.phase }, { on := 4, ground := Ground.phase }, { on := 5, ground := Ground.phase }, { on := 6, ground := Ground.phase }, { on := 7, ground := Ground.phase }, { on := 8, ground := Ground.phase }], guard := none }) (v := ?_) rfl (by kernel_rfl) (by kernel_rfl) (by kernel_rfl) (fun _ _ _ h => h) (Or.inl ⟨by rfl, ?_⟩) (by assumption) ?_
    rotate_left
    · (intro w hSw; (try dsimp only at hSw); (try obtain ⟨hSa, hSb⟩ := hSw); go_simp; try with_reducible rfl)
    try simp only [Act.put, List.setIfInBounds_toArray, List.set_cons_zero, List.set_cons_succ]
    refine wpAnyH_done (by kernel_rfl) ?_ _
    go_wp2
    go_ret
    exact ⟨by simp, (HSA.out.quiet ((Only.refl _ _).drew)).some (by omega), HOA.out.drew.mono (fun _ _ h => h.elim)⟩
  · have HA := Lib.hid (At.new w 33 #[.int .i64 6, .int .i64 c, .int .i64 k, .int .i64 l, .int .i64 u, .int .i64 p, .slice Ao pos.length co])
    have hOA := (Only.refl (fun _ => False) w).alloc (.cells #[.int .i64 6, .int .i64 c, .int .i64 k, .int .i64 l, .int .i64 u, .int .i64 p, .slice Ao pos.length co] 33)
    have HOA := Lib.hid hOA
    have HSA := Lib.hid (HS.out.quiet hOA)
    have hsz : (w.alloc (.cells #[.int .i64 6, .int .i64 c, .int .i64 k, .int .i64 l, .int .i64 u, .int .i64 p, .slice Ao pos.length co] 33)).heap.size = w.heap.size + 1 := by simp
    have HSZ := Lib.hid hsz
    have hltA : ∀ i, P1 i ∨ P1' i → i < (w.alloc (.cells #[.int .i64 6, .int .i64 c, .int .i64 k, .int .i64 l, .int .i64 u, .int .i64 p, .slice Ao pos.length co] 33)).heap.size := fun i hi => by have := HLT.out i hi; omega
    have HLTA := Lib.hid hltA
    clear hOA hsz hltA
    have e0 : (w.alloc (.cells #[.int .i64 6, .int .i64 c, .int .i64 k, .int .i64 l, .int .i64 u, .int .i64 p, .slice Ao pos.length co] 33)).cell? ⟨w.heap.size, 0, none⟩ = some (.int .i64 6) := HA.out.cell 0
    have e1 : (w.alloc (.cells #[.int .i64 6, .int .i64 c, .int .i64 k, .int .i64 l, .int .i64 u, .int .i64 p, .slice Ao pos.length co] 33)).cell? ⟨w.heap.size, 1, none⟩ = some (.int .i64 c) := HA.out.cell 1
    have e2 : (w.alloc (.cells #[.int .i64 6, .int .i64 c, .int .i64 k, .int .i64 l, .int .i64 u, .int .i64 p, .slice Ao pos.length co] 33)).cell? ⟨w.heap.size, 2, none⟩ = some (.int .i64 k) := HA.out.cell 2
    have e3 : (w.alloc (.cells #[.int .i64 6, .int .i64 c, .int .i64 k, .int .i64 l, .int .i64 u, .int .i64 p, .slice Ao pos.length co] 33)).cell? ⟨w.heap.size, 3, none⟩ = some (.int .i64 l) := HA.out.cell 3
    have e4 : (w.alloc (.cells #[.int .i64 6, .int .i64 c, .int .i64 k, .int .i64 l, .int .i64 u, .int .i64 p, .slice Ao pos.length co] 33)).cell? ⟨w.heap.size, 4, none⟩ = some (.int .i64 u) := HA.out.cell 4
    have e5 : (w.alloc (.cells #[.int .i64 6, .int .i64 c, .int .i64 k, .int .i64 l, .int .i64 u, .int .i64 p, .slice Ao pos.length co] 33)).cell? ⟨w.heap.size, 5, none⟩ = some (.int .i64 p) := HA.out.cell 5
    have e6 : (w.alloc (.cells #[.int .i64 6, .int .i64 c, .int .i64 k, .int .i64 l, .int .i64 u, .int .i64 p, .slice Ao pos.length co] 33)).cell? ⟨w.heap.size, 6, none⟩ = some (.slice Ao pos.length co) := HA.out.cell 6
    clear e0 e2 e3 e4 e5 e6
    have e0 : (w.alloc (.cells #[.int .i64 6, .int .i64 c, .int .i64 k, .int .i64 l, .int .i64 u, .int .i64 p, .slice Ao pos.length co] 33)).cell? ⟨w.heap.size, 0, none⟩ = some (.int .i64 6) := HA.out.cell 0
    obtain ⟨z, h1, h2⟩ := busies (HSA.out.quiet ((Only.refl _ _).drew)) c (by omega)
    have H1 := Lib.hid h1
    have H2 := Lib.hid h2
    have zz : (z == z) = true := by simp
    clear h1 h2
    go_enter Try.func17, Try.ntmps17
    go_wp2_with (fail)
    refine wp_region_held_drew (S := (fun W => W.cell? ⟨w.heap.size, 1, none⟩ = some (.int .i64 c))) (by kernel_rfl) ?_ (fun hHeld => ?_)
    · exact e1
    refine wpAnyH_take (i := 0) (oi := { dst := some 95, op := Op.move (Operand.tmp 0), type := 25, pos := "law.go:60", after := #[], guard := none }) (v := ?_) rfl (by kernel_rfl) (by kernel_rfl) (by kernel_rfl) (fun _ _ _ h => h) (Or.inl ⟨by rfl, ?_⟩) (by assumption) ?_
    rotate_left
    · (intro w hSw; (try dsimp only at hSw); (try obtain ⟨hSa, hSb⟩ := hSw); go_simp; try with_reducible rfl)
    try simp only [Act.put, List.setIfInBounds_toArray, List.set_cons_zero, List.set_cons_succ]
    refine wpAnyH_take (i := 1) (oi := { dst := some 96, op := Op.fieldAddr 33 (Operand.tmp 5) 1, type := 0, pos := "law.go:60", after := #[], guard := none }) (v := ?_) rfl (by kernel_rfl) (by kernel_rfl) (by kernel_rfl) (fun _ _ _ h => h) (Or.inl ⟨by rfl, ?_⟩) (by assumption) ?_
    rotate_left
    · (intro w hSw; (try dsimp only at hSw); (try obtain ⟨hSa, hSb⟩ := hSw); go_simp; try with_reducible rfl)
    try simp only [Act.put, List.setIfInBounds_toArray, List.set_cons_zero, List.set_cons_succ]
    refine wpAnyH_take (i := 2) (oi := { dst := some 97, op := Op.load 3 (Operand.tmp 96), type := 3, pos := "law.go:60", after := #[{ on := 1, ground := Ground.data }], guard := none }) (v := ?_) rfl (by kernel_rfl) (by kernel_rfl) (by kernel_rfl) (fun _ _ _ h => h) (Or.inl ⟨by rfl, ?_⟩) (by assumption) ?_
    rotate_left
    · (intro w hSw; (try dsimp only at hSw); (try obtain ⟨hSa, hSb⟩ := hSw); go_simp; try with_reducible rfl)
    try simp only [Act.put, List.setIfInBounds_toArray, List.set_cons_zero, List.set_cons_succ]
    refine wpAnyH_take (i := 4) (oi := { dst := some 99, op := Op.move (Operand.tmp 1), type := 40, pos := "law.go:60", after := #[], guard := none }) (v := ?_) rfl (by kernel_rfl) (by kernel_rfl) (by kernel_rfl) (fun _ _ _ h => h) (Or.inl ⟨by rfl, ?_⟩) (by assumption) ?_
    rotate_left
    · (intro w hSw; (try dsimp only at hSw); (try obtain ⟨hSa, hSb⟩ := hSw); go_simp; try with_reducible rfl)
    try simp only [Act.put, List.setIfInBounds_toArray, List.set_cons_zero, List.set_cons_succ]
    refine wpAnyH_take (i := 5) (oi := { dst := some 100, op := Op.fieldAddr 33 (Operand.tmp 5) 1, type := 0, pos := "law.go:60", after := #[], guard := none }) (v := ?_) rfl (by kernel_rfl) (by kernel_rfl) (by kernel_rfl) (fun _ _ _ h => h) (Or.inl ⟨by rfl, ?_⟩) (by assumption) ?_
    rotate_left
    · (intro w hSw; (try dsimp only at hSw); (try obtain ⟨hSa, hSb⟩ := hSw); go_simp; try with_reducible rfl)
    try simp only [Act.put, List.setIfInBounds_toArray, List.set_cons_zero, List.set_cons_succ]
    refine wpAnyH_take (i := 6) (oi := { dst := some 101, op := Op.load 3 (Operand.tmp 100), type := 3, pos := "law.go:60", after := #[{ on := 5, ground := Ground.data }], guard := none }) (v := ?_) rfl (by kernel_rfl) (by kernel_rfl) (by kernel_rfl) (fun _ _ _ h => h) (Or.inl ⟨by rfl, ?_⟩) (by assumption) ?_
    rotate_left
    · (intro w hSw; (try dsimp only at hSw); (try obtain ⟨hSa, hSb⟩ := hSw); go_simp; try with_reducible rfl)
    try simp only [Act.put, List.setIfInBounds_toArray, List.set_cons_zero, List.set_cons_succ]
    refine wpAnyH_ready (rs := [3]) (by kernel_rfl) (by simp) ?_
    refine AllReadyH.cons (o := { dst := some 98, op := Op.call { callee := Callee.value (Operand.func 16), args := #[Operand.tmp 95, Operand.tmp 97], argTypes := #[25, 3] }, type := 3, pos := "law.go:60", after := #[{ on := 0, ground := Ground.data }, { on := 2, ground := Ground.data }], guard := none }) rfl (fun K hK => ?_) AllReadyH.nil
    go_simp
    (go_at_call 16; refine H1.out.mono ?_; rintro e wx ⟨rfl, hO1⟩; have hkeep : wx.cell? ⟨w.heap.size, 1, none⟩ = some (.int .i64 c) := (hO1.cell (p := ⟨w.heap.size, 1, none⟩) (by show w.heap.size < (w.alloc (.cells #[.int .i64 6, .int .i64 c, .int .i64 k, .int .i64 l, .int .i64 u, .int .i64 p, .slice Ao pos.length co] 33)).heap.size; simp) id).trans e1; have HO1 := Lib.hid hO1; clear hO1; try simp only [])
    refine hK.out _ _ ?_ (fun hHeld => ?_)
    · exact hkeep
    clear hK K
    try simp only [Act.put, List.setIfInBounds_toArray, List.set_cons_zero, List.set_cons_succ]
    refine wpAnyH_ready (rs := [7]) (by kernel_rfl) (by simp) ?_
    refine AllReadyH.cons (o := { dst := some 102, op := Op.call { callee := Callee.value (Operand.func 24), args := #[Operand.tmp 99, Operand.tmp 101], argTypes := #[40, 3] }, type := 3, pos := "law.go:60", after := #[{ on := 4, ground := Ground.data }, { on := 6, ground := Ground.data }, { on := 3, ground := Ground.chain }], guard := none }) rfl (fun K hK => ?_) AllReadyH.nil
    go_simp
    (go_at_call 24; refine (H2.out _ HO1.out).mono ?_; rintro e wy ⟨rfl, rfl⟩; try simp only [])
    refine hK.out _ _ ?_ (fun hHeld => ?_)
    · exact hkeep
    clear hK K
    try simp only [Act.put, List.setIfInBounds_toArray, List.set_cons_zero, List.set_cons_succ]
    refine wpAnyH_take (i := 8) (oi := { dst := some 103, op := Op.binOp BinOp.eql 3 (Operand.tmp 98) (Operand.tmp 102) 3, type := 4, pos := "law.go:60", after := #[{ on := 3, ground := Ground.data }, { on := 7, ground := Ground.data }], guard := none }) (v := ?_) rfl (by kernel_rfl) (by kernel_rfl) (by kernel_rfl) (fun _ _ _ h => h) (Or.inl ⟨by rfl, ?_⟩) (by assumption) ?_
    rotate_left
    · (intro w hSw; (try dsimp only at hSw); (try obtain ⟨hSa, hSb⟩ := hSw); go_simp; try with_reducible rfl)
    try simp only [Act.put, List.setIfInBounds_toArray, List.set_cons_zero, List.set_cons_succ]
    refine wpAnyH_take (i := 9) (oi := { dst := some 6, op := Op.assign (Operand.tmp 103), type := 4, pos := "law.go:60", after := #[{ on := 8, ground := Ground.data }, { on := 7, ground := Ground.chain }, { on := 0, ground := Ground.phase }, { on := 1, ground := Ground.phase }, { on := 2, ground := Ground.phase }, { on := 3, ground := Ground.phase }, { on := 4, ground := Ground.phase }, { on := 5, ground := Ground.phase }, { on := 6, ground := Ground.phase }, { on := 7, ground := Ground.phase }, { on := 8, ground := Ground.phase }], guard := none }) (v := ?_) rfl (by kernel_rfl) (by kernel_rfl) (by kernel_rfl) (fun _ _ _ h => h) (Or.inl ⟨by rfl, ?_⟩) (by assumption) ?_
    rotate_left
    · (intro w hSw; (try dsimp only at hSw); (try obtain ⟨hSa, hSb⟩ := hSw); go_simp; try with_reducible rfl)
    try simp only [Act.put, List.setIfInBounds_toArray, List.set_cons_zero, List.set_cons_succ]
    refine wpAnyH_done (by kernel_rfl) ?_ _
    go_wp2
    go_ret
    have hall := HOA.out.drew.trans HO1.out
    exact ⟨by simp, (HS.out.quiet hall).some (by omega), hall.mono (fun _ _ h => h.elim)⟩
  · have HA := Lib.hid (At.new w 33 #[.int .i64 d, .int .i64 c, .int .i64 k, .int .i64 l, .int .i64 u, .int .i64 p, .slice Ao pos.length co])
    have hOA := (Only.refl (fun _ => False) w).alloc (.cells #[.int .i64 d, .int .i64 c, .int .i64 k, .int .i64 l, .int .i64 u, .int .i64 p, .slice Ao pos.length co] 33)
    have HOA := Lib.hid hOA
    have HSA := Lib.hid (HS.out.quiet hOA)
    have hsz : (w.alloc (.cells #[.int .i64 d, .int .i64 c, .int .i64 k, .int .i64 l, .int .i64 u, .int .i64 p, .slice Ao pos.length co] 33)).heap.size = w.heap.size + 1 := by simp
    have HSZ := Lib.hid hsz
    have hltA : ∀ i, P1 i ∨ P1' i → i < (w.alloc (.cells #[.int .i64 d, .int .i64 c, .int .i64 k, .int .i64 l, .int .i64 u, .int .i64 p, .slice Ao pos.length co] 33)).heap.size := fun i hi => by have := HLT.out i hi; omega
    have HLTA := Lib.hid hltA
    clear hOA hsz hltA
    have D0 : (d == 0) = false := beq_false_of_ne d0
    have D1 : (d == 1) = false := beq_false_of_ne d1
    have D2 : (d == 2) = false := beq_false_of_ne d2
    have D3 : (d == 3) = false := beq_false_of_ne d3
    have D4 : (d == 4) = false := beq_false_of_ne d4
    have D5 : (d == 5) = false := beq_false_of_ne d5
    have D6 : (d == 6) = false := beq_false_of_ne d6
    clear d0 d1 d2 d3 d4 d5 d6
    go_enter Try.func17, Try.ntmps17
    go_wp2
    go_ret
    exact ⟨rfl, HSA.out.some (by omega), HOA.out.mono (fun _ _ h => h.elim)⟩
end Go.Proofs.Ytgaikacjophngaa
