/- Gate: the law GatePlays, walked. -/
import Derived.Test.YtpfgjnklfdfiaaaY
namespace Go.Proofs.Ytpfgjnklfdfiaaa
open Go.RowKit Go.Conc

theorem ov_len (l : List Opg) : (ov l).length = l.length * 5 := by
  induction l with
  | nil => rfl
  | cons x t ih => simp only [ov, List.flatMap_cons, List.length_append, List.length_cons] at *; rw [ih]; simp [Opg.cells]; omega
theorem ov_get (l : List Opg) (i j : Nat) (hi : i < l.length) (hj : j < 5) : (ov l)[i * 5 + j]? = (l[i]).cells[j]? := by
  induction l generalizing i with
  | nil => simp at hi
  | cons x t ih =>
    have hc : x.cells.length = 5 := rfl
    cases i with
    | zero =>
      simp only [ov, List.flatMap_cons, Nat.zero_mul, Nat.zero_add, List.getElem_cons_zero]
      rw [List.getElem?_append_left (by omega)]
    | succ i =>
      simp only [ov, List.flatMap_cons, List.getElem_cons_succ]
      rw [List.getElem?_append_right (by omega)]
      have := ih i (by simpa using hi)
      rw [← this]
      congr 1
      omega
theorem op_cells {w wr : World} {gA : Nat} {A : Option Addr} {l : List Opg} {k : Nat} (h : Rd w gA A (ov l)) (hO : Only (fun _ => False) w wr) (hk : k < l.length) :
    ∃ off, A = some ⟨gA, off, none⟩ ∧ wr.cell? ⟨gA, off + k * 5, none⟩ = some (.int .i64 l[k].do_) ∧ wr.cell? ⟨gA, off + k * 5 + 1, none⟩ = some (.int .i64 l[k].n) ∧
      wr.cell? ⟨gA, off + k * 5 + 2, none⟩ = some (.int .i64 l[k].x0) ∧ wr.cell? ⟨gA, off + k * 5 + 3, none⟩ = some (.int .i64 l[k].x1) ∧ wr.cell? ⟨gA, off + k * 5 + 4, none⟩ = some (.int .i64 l[k].x2) := by
  obtain ⟨off, hA, hlt, hc⟩ := h.at (by intro e; have := ov_len l; rw [e] at this; simp at this; omega)
  have hh : ∀ j, j < 5 → ∀ u, (l[k]).cells[j]? = some u → wr.cell? ⟨gA, off + k * 5 + j, none⟩ = some u := by
    intro j hj u hu
    have := hc (k * 5 + j) u (by rw [ov_get l k j hk hj]; exact hu)
    rw [← Nat.add_assoc] at this
    exact (hO.cell (p := ⟨gA, off + k * 5 + j, none⟩) hlt id).trans this
  exact ⟨off, hA, hh 0 (by omega) _ rfl, hh 1 (by omega) _ rfl, hh 2 (by omega) _ rfl, hh 3 (by omega) _ rfl, hh 4 (by omega) _ rfl⟩

/-- Both gates hold the same. -/
structure Two (w : World) (b cu cm r many nu nm : Nat) (wr : World) : Prop where
  g : GAt wr b cu cm many nu nm
  ref : RAt wr r many nu nm
  only : Only (fun _ => False) w wr
  bd : nu ≤ many ∧ nm ≤ many ∧ many ≤ 256
  at_ : w.heap.size ≤ b ∧ w.heap.size ≤ cu ∧ w.heap.size ≤ cm ∧ w.heap.size ≤ r ∧ r ≠ b ∧ r ≠ cu ∧ r ≠ cm

theorem RAt.only {w w' : World} {r many nu nm : Nat} {S : Nat → Prop} (h : RAt w r many nu nm) (k : Only S w w') (hr : ¬ S r) : RAt w' r many nu nm := by
  obtain ⟨z, h⟩ := h
  exact ⟨z, h.only k hr⟩
theorem RAt.lt {w : World} {r many nu nm : Nat} (h : RAt w r many nu nm) : r < w.heap.size := by
  obtain ⟨z, h⟩ := h
  exact h.lt

theorem Two.quiet {w wr wr' : World} {b cu cm r many nu nm : Nat} (h : Two w b cu cm r many nu nm wr) (k : Only (fun _ => False) wr wr') : Two w b cu cm r many nu nm wr' :=
  ⟨h.g.far k id id id, h.ref.only k id, h.only.trans k, h.bd, h.at_⟩

theorem less_le (nu nm : Nat) (kind : Int) : lessU nu kind ≤ nu ∧ lessM nm kind ≤ nm := by
  constructor
  · unfold lessU; split <;> omega
  · unfold lessM; split <;> omega

/-- First the one gate turns, then the other. -/
theorem Two.turn {w wr wx wy : World} {b cu cm r many nu nm nu' nm' : Nat} (h : Two w b cu cm r many nu nm wr) (hg : GAt wx b cu cm many nu' nm') (k : Only (fun i => i = cu ∨ i = cm) wr wx) (hr : RAt wy r many nu' nm') (k' : Only (fun i => i = r) wx wy)
    (hb : nu' ≤ many ∧ nm' ≤ many) : Two w b cu cm r many nu' nm' wy := by
  obtain ⟨n1, n2, n3⟩ := h.g.ne
  obtain ⟨a1, a2, a3, a4, a5, a6, a7⟩ := h.at_
  exact ⟨hg.far k' (fun e => a5 e.symm) (fun e => a6 e.symm) (fun e => a7 e.symm), hr, (h.only.trans' k (fun i hi e => by omega)).trans' k' (fun i hi e => by omega), ⟨hb.1, hb.2, h.bd.2.2⟩, h.at_⟩

set_option maxRecDepth 100000 in
set_option maxHeartbeats 4000000 in
theorem gatePlays_bad (many : Int) (h : many < 1 ∨ 256 < many) (A : Option Addr) (n c : Nat) (w : World) :
    Calls Try.prog 5 #[.int .i64 many, .slice A n c] w fun e w' => e = .returned (.bool true) ∧ Below w.heap.size w w' := by
  have HN := Lib.hid (new_bad many h)
  have HN' := Lib.hid (refnew_bad many h)
  clear h
  go_enter Try.func5, Try.ntmps5
  go_wp2_with (fail)
  refine (awake_any _).mono ?_
  rintro e w1 ⟨rfl, rfl⟩
  go_wp2_with (fail)
  refine (HN.out _).mono ?_
  rintro e w1 ⟨rfl, rfl⟩
  go_wp2_with (fail)
  refine (HN'.out _).mono ?_
  rintro e w1 ⟨rfl, rfl⟩
  go_wp2_with (fail)
  go_loopw [10] (fun v wr => wr = w1 ∧ v = .int .i64 0) (fun v wr => 0)
  case atStart => exact ⟨rfl, rfl⟩
  case round =>
    obtain ⟨rfl, rfl⟩ := hrel
    go_wp2
    all_goals (go_ret; exact ⟨rfl, (Below.refl _ _)⟩)

set_option maxRecDepth 100000 in
set_option maxHeartbeats 8000000 in
theorem gatePlays_walk (many : Int) (l : List Opg) (gA cA : Nat) (A : Option Addr) (w : World) (hr : Rd w gA A (ov l)) :
    Calls Try.prog 5 #[.int .i64 many, .slice A l.length cA] w fun e w' => e = .returned (.bool true) ∧ Below w.heap.size w w' := by
  by_cases hbad : many < 1 ∨ 256 < many
  · exact gatePlays_bad many hbad _ _ _ w
  obtain ⟨many, rfl⟩ : ∃ m : Nat, many = m := ⟨many.toNat, by omega⟩
  have m1 : 1 ≤ many := by omega
  have m2 : many ≤ 256 := by omega
  clear hbad
  have HR := Lib.hid hr
  clear hr
  have HN := Lib.hid (new_any many m1 m2)
  have HN' := Lib.hid (refnew_any many m1 m2)
  go_enter Try.func5, Try.ntmps5
  go_wp2_with (fail)
  refine (awake_any _).mono ?_
  rintro e w1 ⟨rfl, rfl⟩
  go_wp2_with (fail)
  refine (HN.out _).mono ?_
  rintro e w2 ⟨b, cu, cm, rfl, hG, hb, hcu, hcm, hO⟩
  go_wp2_with (fail)
  refine (HN'.out _).mono ?_
  rintro e w3 ⟨r, rfl, hr, hrl, hO'⟩
  have hTw : Two w b cu cm r many 0 0 w3 := by
    obtain ⟨l1, l2, l3⟩ := hG.lts
    exact ⟨hG.far hO' id id id, hr, hO.trans hO', ⟨by omega, by omega, m2⟩, by omega, by omega, by omega, by have := hO.size; omega, by omega, by omega, by omega⟩
  have HT0 := Lib.hid hTw
  clear hTw hr hrl hO hO' hG hb hcu hcm HN HN'
  go_wp2
  go_loopw [10] (fun v wr => ∃ k nu nm : Nat, k ≤ l.length ∧ v = .int .i64 k ∧ Two w b cu cm r many nu nm wr) (fun v _ => l.length - (intOf v).toNat)
  case atStart => exact ⟨0, 0, 0, by omega, rfl, HT0.out⟩
  case round =>
    clear HT0
    obtain ⟨k, nu, nm, hk, rfl, hT⟩ := hrel
    have HT := Lib.hid hT
    by_cases h1 : k < l.length
    · by_cases h3' : k < 300
      · obtain ⟨off, rfl, c0, c1, c2, c3, c4⟩ := op_cells HR.out hT.only h1
        clear hT
        generalize l[k] = o at *
        obtain ⟨d, n, x0, x1, x2⟩ := o
        simp only at c0 c1 c2 c3 c4
        have hd : d = 0 ∨ d = 1 ∨ d = 2 ∨ d = 3 ∨ d = 4 ∨ (d ≠ 0 ∧ d ≠ 1 ∧ d ≠ 2 ∧ d ≠ 3 ∧ d ≠ 4) := by omega
        rcases hd with rfl | rfl | rfl | rfl | rfl | ⟨d0, d1, d2, d3, d4⟩
        · have HTa := Lib.hid (HT.out.quiet ((Only.refl _ _).alloc (.cells #[.int .i64 0, .int .i64 n, .int .i64 x0, .int .i64 x1, .int .i64 x2] 38)))
          have HA := Lib.hid (At.new wr 38 #[.int .i64 0, .int .i64 n, .int .i64 x0, .int .i64 x1, .int .i64 x2])
          obtain ⟨p1, p2, p3, p4, p5, p6, p7⟩ := HT.out.at_
          have q1 := HT.out.g.u.lt
          have q2 := HT.out.g.m.lt
          have q3 := HT.out.ref.lt
          have q4 := HT.out.bd
          clear HT
          have e1 : (wr.alloc (.cells #[.int .i64 0, .int .i64 n, .int .i64 x0, .int .i64 x1, .int .i64 x2] 38)).cell? ⟨wr.heap.size, 1, none⟩ = some (.int .i64 n) := HA.out.cell 1
          have hTk := take_any b cu cm many nu nm n _ (HTa.out.quiet ((Only.refl _ _).drew)).g
          have hRk := fun (W : World) (h : RAt W r many nu nm) => reftake_any r many nu nm n W h (by omega) (by omega)
          obtain ⟨z1, z2⟩ := less_le nu nm n
          generalize lessU nu n = nu' at *
          generalize lessM nm n = nm' at *
          generalize decide (0 < leftN nu nm n) = q at *
          have hqq : (q != q) = false := by simp
          have HTk := Lib.hid hTk
          have HRk := Lib.hid hRk
          clear hTk hRk
          go_wp2_with (fail)
          refine wp_region_held_drew (S := (fun W => W.cell? ⟨wr.heap.size, 1, none⟩ = some (.int .i64 n))) (by kernel_rfl) ?_ (fun hHeld => ?_)
          · exact e1
          refine wpAnyH_take (i := 0) (oi := { dst := some 57, op := Op.move (Operand.tmp 6), type := 29, pos := "law.go:56", after := #[], guard := none }) (v := ?_) rfl (by kernel_rfl) (by kernel_rfl) (by kernel_rfl) (fun _ _ _ h => h) (Or.inl ⟨by rfl, ?_⟩) (by assumption) ?_
          rotate_left
          · (intro w hSw; (try dsimp only at hSw); (try obtain ⟨hSa, hSb⟩ := hSw); go_simp; try with_reducible rfl)
          try simp only [Act.put, List.setIfInBounds_toArray, List.set_cons_zero, List.set_cons_succ]
          refine wpAnyH_take (i := 1) (oi := { dst := some 58, op := Op.fieldAddr 38 (Operand.tmp 11) 1, type := 0, pos := "law.go:56", after := #[], guard := none }) (v := ?_) rfl (by kernel_rfl) (by kernel_rfl) (by kernel_rfl) (fun _ _ _ h => h) (Or.inl ⟨by rfl, ?_⟩) (by assumption) ?_
          rotate_left
          · (intro w hSw; (try dsimp only at hSw); (try obtain ⟨hSa, hSb⟩ := hSw); go_simp; try with_reducible rfl)
          try simp only [Act.put, List.setIfInBounds_toArray, List.set_cons_zero, List.set_cons_succ]
          refine wpAnyH_take (i := 2) (oi := { dst := some 59, op := Op.load 3 (Operand.tmp 58), type := 3, pos := "law.go:56", after := #[{ on := 1, ground := Ground.data }], guard := none }) (v := ?_) rfl (by kernel_rfl) (by kernel_rfl) (by kernel_rfl) (fun _ _ _ h => h) (Or.inl ⟨by rfl, ?_⟩) (by assumption) ?_
          rotate_left
          · (intro w hSw; (try dsimp only at hSw); (try obtain ⟨hSa, hSb⟩ := hSw); go_simp; try with_reducible rfl)
          try simp only [Act.put, List.setIfInBounds_toArray, List.set_cons_zero, List.set_cons_succ]
          refine wpAnyH_take (i := 4) (oi := { dst := some 61, op := Op.move (Operand.tmp 8), type := 33, pos := "law.go:56", after := #[], guard := none }) (v := ?_) rfl (by kernel_rfl) (by kernel_rfl) (by kernel_rfl) (fun _ _ _ h => h) (Or.inl ⟨by rfl, ?_⟩) (by assumption) ?_
          rotate_left
          · (intro w hSw; (try dsimp only at hSw); (try obtain ⟨hSa, hSb⟩ := hSw); go_simp; try with_reducible rfl)
          try simp only [Act.put, List.setIfInBounds_toArray, List.set_cons_zero, List.set_cons_succ]
          refine wpAnyH_take (i := 5) (oi := { dst := some 62, op := Op.fieldAddr 38 (Operand.tmp 11) 1, type := 0, pos := "law.go:56", after := #[], guard := none }) (v := ?_) rfl (by kernel_rfl) (by kernel_rfl) (by kernel_rfl) (fun _ _ _ h => h) (Or.inl ⟨by rfl, ?_⟩) (by assumption) ?_
          rotate_left
          · (intro w hSw; (try dsimp only at hSw); (try obtain ⟨hSa, hSb⟩ := hSw); go_simp; try with_reducible rfl)
          try simp only [Act.put, List.setIfInBounds_toArray, List.set_cons_zero, List.set_cons_succ]
          refine wpAnyH_take (i := 6) (oi := { dst := some 63, op := Op.load 3 (Operand.tmp 62), type := 3, pos := "law.go:56", after := #[{ on := 5, ground := Ground.data }], guard := none }) (v := ?_) rfl (by kernel_rfl) (by kernel_rfl) (by kernel_rfl) (fun _ _ _ h => h) (Or.inl ⟨by rfl, ?_⟩) (by assumption) ?_
          rotate_left
          · (intro w hSw; (try dsimp only at hSw); (try obtain ⟨hSa, hSb⟩ := hSw); go_simp; try with_reducible rfl)
          try simp only [Act.put, List.setIfInBounds_toArray, List.set_cons_zero, List.set_cons_succ]
          refine wpAnyH_ready (rs := [3]) (by kernel_rfl) (by simp) ?_
          refine AllReadyH.cons (o := { dst := some 60, op := Op.call { callee := Callee.value (Operand.func 13), args := #[Operand.tmp 57, Operand.tmp 59], argTypes := #[29, 3] }, type := 4, pos := "law.go:56", after := #[{ on := 0, ground := Ground.data }, { on := 2, ground := Ground.data }], guard := none }) rfl (fun K hK => ?_) AllReadyH.nil
          go_simp
          (go_at_call 13; refine HTk.out.mono ?_; rintro e wx ⟨rfl, hGx, hOx⟩; have hkeep : wx.cell? ⟨wr.heap.size, 1, none⟩ = some (.int .i64 n) := (hOx.cell (p := ⟨wr.heap.size, 1, none⟩) (HA.out.lt) (by dsimp only; omega)).trans e1; have HGx := Lib.hid hGx; have HOx := Lib.hid hOx; clear hGx hOx; try simp only [])
          refine hK.out _ _ ?_ (fun hHeld => ?_)
          · exact hkeep
          clear hK K
          try simp only [Act.put, List.setIfInBounds_toArray, List.set_cons_zero, List.set_cons_succ]
          refine wpAnyH_ready (rs := [7]) (by kernel_rfl) (by simp) ?_
          refine AllReadyH.cons (o := { dst := some 64, op := Op.call { callee := Callee.value (Operand.func 14), args := #[Operand.tmp 61, Operand.tmp 63], argTypes := #[33, 3] }, type := 4, pos := "law.go:56", after := #[{ on := 4, ground := Ground.data }, { on := 6, ground := Ground.data }, { on := 3, ground := Ground.chain }], guard := none }) rfl (fun K hK => ?_) AllReadyH.nil
          go_simp
          (go_at_call 14; refine (HRk.out _ ((HTa.out.ref.only (S := fun _ => False) ((Only.refl _ _).drew) id).only HOx.out (by omega))).mono ?_; rintro e wy ⟨rfl, hRy, hOy⟩; have hkeep2 : wy.cell? ⟨wr.heap.size, 1, none⟩ = some (.int .i64 n) := (hOy.cell (p := ⟨wr.heap.size, 1, none⟩) (Nat.lt_of_lt_of_le HA.out.lt HOx.out.size) (by dsimp only; omega)).trans hkeep; have HTx : Hid (Two w b cu cm r many nu' nm' wy) := Lib.hid ((HTa.out.quiet ((Only.refl _ _).drew)).turn HGx.out HOx.out hRy hOy ⟨by omega, by omega⟩); clear hRy hOy; try simp only [])
          refine hK.out _ _ ?_ (fun hHeld => ?_)
          · exact hkeep2
          clear hK K
          try simp only [Act.put, List.setIfInBounds_toArray, List.set_cons_zero, List.set_cons_succ]
          refine wpAnyH_take (i := 8) (oi := { dst := some 65, op := Op.binOp BinOp.neq 4 (Operand.tmp 60) (Operand.tmp 64) 4, type := 4, pos := "law.go:56", after := #[{ on := 3, ground := Ground.data }, { on := 7, ground := Ground.data }], guard := none }) (v := ?_) rfl (by kernel_rfl) (by kernel_rfl) (by kernel_rfl) (fun _ _ _ h => h) (Or.inl ⟨by rfl, ?_⟩) (by assumption) ?_
          rotate_left
          · (intro w hSw; (try dsimp only at hSw); (try obtain ⟨hSa, hSb⟩ := hSw); go_simp; try with_reducible rfl)
          try simp only [Act.put, List.setIfInBounds_toArray, List.set_cons_zero, List.set_cons_succ]
          refine wpAnyH_done (by kernel_rfl) ?_ _
          clear HGx HOx HTa HA HTk HRk e1 hkeep hkeep2
          have L1 := Lib.hid (left_any b cu cm many nu' nm' 1 _ HTx.out.g)
          have L2 := Lib.hid (left_any b cu cm many nu' nm' 2 _ HTx.out.g)
          have R1 := Lib.hid (refleft_any r many nu' nm' 1 _ HTx.out.ref)
          have R2 := Lib.hid (refleft_any r many nu' nm' 2 _ HTx.out.ref)
          generalize leftN nu' nm' 1 = t1 at *
          generalize leftN nu' nm' 2 = t2 at *
          go_wp2_with (fail)
          refine L1.out.mono ?_
          rintro e wz ⟨rfl, rfl⟩
          go_wp2_with (fail)
          refine R1.out.mono ?_
          rintro e wz ⟨rfl, rfl⟩
          go_wp2_with (fail)
          refine L2.out.mono ?_
          rintro e wz ⟨rfl, rfl⟩
          go_wp2_with (fail)
          refine R2.out.mono ?_
          rintro e wz ⟨rfl, rfl⟩
          go_wp2
          go_roundw
          case rel => exact ⟨k + 1, nu', nm', by omega, by simp, HTx.out⟩
          case measure => simp [intOf]; omega
        · have HTa := Lib.hid (HT.out.quiet ((Only.refl _ _).alloc (.cells #[.int .i64 1, .int .i64 n, .int .i64 x0, .int .i64 x1, .int .i64 x2] 38)))
          have HA := Lib.hid (At.new wr 38 #[.int .i64 1, .int .i64 n, .int .i64 x0, .int .i64 x1, .int .i64 x2])
          obtain ⟨p1, p2, p3, p4, p5, p6, p7⟩ := HT.out.at_
          have q1 := HT.out.g.u.lt
          have q2 := HT.out.g.m.lt
          have q3 := HT.out.ref.lt
          have q4 := HT.out.bd
          clear HT
          have e1 : (wr.alloc (.cells #[.int .i64 1, .int .i64 n, .int .i64 x0, .int .i64 x1, .int .i64 x2] 38)).cell? ⟨wr.heap.size, 1, none⟩ = some (.int .i64 n) := HA.out.cell 1
          have hTk := take_any b cu cm many nu nm n _ (HTa.out.quiet ((Only.refl _ _).drew)).g
          have hRk := fun (W : World) (h : RAt W r many nu nm) => reftake_any r many nu nm n W h (by omega) (by omega)
          obtain ⟨z1, z2⟩ := less_le nu nm n
          generalize lessU nu n = nu' at *
          generalize lessM nm n = nm' at *
          generalize decide (0 < leftN nu nm n) = q at *
          have hqq : (q != q) = false := by simp
          have HTk := Lib.hid hTk
          have HRk := Lib.hid hRk
          clear hTk hRk
          go_wp2_with (fail)
          refine wp_region_held_drew (S := (fun W => W.cell? ⟨wr.heap.size, 1, none⟩ = some (.int .i64 n))) (by kernel_rfl) ?_ (fun hHeld => ?_)
          · exact e1
          refine wpAnyH_take (i := 0) (oi := { dst := some 57, op := Op.move (Operand.tmp 6), type := 29, pos := "law.go:56", after := #[], guard := none }) (v := ?_) rfl (by kernel_rfl) (by kernel_rfl) (by kernel_rfl) (fun _ _ _ h => h) (Or.inl ⟨by rfl, ?_⟩) (by assumption) ?_
          rotate_left
          · (intro w hSw; (try dsimp only at hSw); (try obtain ⟨hSa, hSb⟩ := hSw); go_simp; try with_reducible rfl)
          try simp only [Act.put, List.setIfInBounds_toArray, List.set_cons_zero, List.set_cons_succ]
          refine wpAnyH_take (i := 1) (oi := { dst := some 58, op := Op.fieldAddr 38 (Operand.tmp 11) 1, type := 0, pos := "law.go:56", after := #[], guard := none }) (v := ?_) rfl (by kernel_rfl) (by kernel_rfl) (by kernel_rfl) (fun _ _ _ h => h) (Or.inl ⟨by rfl, ?_⟩) (by assumption) ?_
          rotate_left
          · (intro w hSw; (try dsimp only at hSw); (try obtain ⟨hSa, hSb⟩ := hSw); go_simp; try with_reducible rfl)
          try simp only [Act.put, List.setIfInBounds_toArray, List.set_cons_zero, List.set_cons_succ]
          refine wpAnyH_take (i := 2) (oi := { dst := some 59, op := Op.load 3 (Operand.tmp 58), type := 3, pos := "law.go:56", after := #[{ on := 1, ground := Ground.data }], guard := none }) (v := ?_) rfl (by kernel_rfl) (by kernel_rfl) (by kernel_rfl) (fun _ _ _ h => h) (Or.inl ⟨by rfl, ?_⟩) (by assumption) ?_
          rotate_left
          · (intro w hSw; (try dsimp only at hSw); (try obtain ⟨hSa, hSb⟩ := hSw); go_simp; try with_reducible rfl)
          try simp only [Act.put, List.setIfInBounds_toArray, List.set_cons_zero, List.set_cons_succ]
          refine wpAnyH_take (i := 4) (oi := { dst := some 61, op := Op.move (Operand.tmp 8), type := 33, pos := "law.go:56", after := #[], guard := none }) (v := ?_) rfl (by kernel_rfl) (by kernel_rfl) (by kernel_rfl) (fun _ _ _ h => h) (Or.inl ⟨by rfl, ?_⟩) (by assumption) ?_
          rotate_left
          · (intro w hSw; (try dsimp only at hSw); (try obtain ⟨hSa, hSb⟩ := hSw); go_simp; try with_reducible rfl)
          try simp only [Act.put, List.setIfInBounds_toArray, List.set_cons_zero, List.set_cons_succ]
          refine wpAnyH_take (i := 5) (oi := { dst := some 62, op := Op.fieldAddr 38 (Operand.tmp 11) 1, type := 0, pos := "law.go:56", after := #[], guard := none }) (v := ?_) rfl (by kernel_rfl) (by kernel_rfl) (by kernel_rfl) (fun _ _ _ h => h) (Or.inl ⟨by rfl, ?_⟩) (by assumption) ?_
          rotate_left
          · (intro w hSw; (try dsimp only at hSw); (try obtain ⟨hSa, hSb⟩ := hSw); go_simp; try with_reducible rfl)
          try simp only [Act.put, List.setIfInBounds_toArray, List.set_cons_zero, List.set_cons_succ]
          refine wpAnyH_take (i := 6) (oi := { dst := some 63, op := Op.load 3 (Operand.tmp 62), type := 3, pos := "law.go:56", after := #[{ on := 5, ground := Ground.data }], guard := none }) (v := ?_) rfl (by kernel_rfl) (by kernel_rfl) (by kernel_rfl) (fun _ _ _ h => h) (Or.inl ⟨by rfl, ?_⟩) (by assumption) ?_
          rotate_left
          · (intro w hSw; (try dsimp only at hSw); (try obtain ⟨hSa, hSb⟩ := hSw); go_simp; try with_reducible rfl)
          try simp only [Act.put, List.setIfInBounds_toArray, List.set_cons_zero, List.set_cons_succ]
          refine wpAnyH_ready (rs := [3]) (by kernel_rfl) (by simp) ?_
          refine AllReadyH.cons (o := { dst := some 60, op := Op.call { callee := Callee.value (Operand.func 13), args := #[Operand.tmp 57, Operand.tmp 59], argTypes := #[29, 3] }, type := 4, pos := "law.go:56", after := #[{ on := 0, ground := Ground.data }, { on := 2, ground := Ground.data }], guard := none }) rfl (fun K hK => ?_) AllReadyH.nil
          go_simp
          (go_at_call 13; refine HTk.out.mono ?_; rintro e wx ⟨rfl, hGx, hOx⟩; have hkeep : wx.cell? ⟨wr.heap.size, 1, none⟩ = some (.int .i64 n) := (hOx.cell (p := ⟨wr.heap.size, 1, none⟩) (HA.out.lt) (by dsimp only; omega)).trans e1; have HGx := Lib.hid hGx; have HOx := Lib.hid hOx; clear hGx hOx; try simp only [])
          refine hK.out _ _ ?_ (fun hHeld => ?_)
          · exact hkeep
          clear hK K
          try simp only [Act.put, List.setIfInBounds_toArray, List.set_cons_zero, List.set_cons_succ]
          refine wpAnyH_ready (rs := [7]) (by kernel_rfl) (by simp) ?_
          refine AllReadyH.cons (o := { dst := some 64, op := Op.call { callee := Callee.value (Operand.func 14), args := #[Operand.tmp 61, Operand.tmp 63], argTypes := #[33, 3] }, type := 4, pos := "law.go:56", after := #[{ on := 4, ground := Ground.data }, { on := 6, ground := Ground.data }, { on := 3, ground := Ground.chain }], guard := none }) rfl (fun K hK => ?_) AllReadyH.nil
          go_simp
          (go_at_call 14; refine (HRk.out _ ((HTa.out.ref.only (S := fun _ => False) ((Only.refl _ _).drew) id).only HOx.out (by omega))).mono ?_; rintro e wy ⟨rfl, hRy, hOy⟩; have hkeep2 : wy.cell? ⟨wr.heap.size, 1, none⟩ = some (.int .i64 n) := (hOy.cell (p := ⟨wr.heap.size, 1, none⟩) (Nat.lt_of_lt_of_le HA.out.lt HOx.out.size) (by dsimp only; omega)).trans hkeep; have HTx : Hid (Two w b cu cm r many nu' nm' wy) := Lib.hid ((HTa.out.quiet ((Only.refl _ _).drew)).turn HGx.out HOx.out hRy hOy ⟨by omega, by omega⟩); clear hRy hOy; try simp only [])
          refine hK.out _ _ ?_ (fun hHeld => ?_)
          · exact hkeep2
          clear hK K
          try simp only [Act.put, List.setIfInBounds_toArray, List.set_cons_zero, List.set_cons_succ]
          refine wpAnyH_take (i := 8) (oi := { dst := some 65, op := Op.binOp BinOp.neq 4 (Operand.tmp 60) (Operand.tmp 64) 4, type := 4, pos := "law.go:56", after := #[{ on := 3, ground := Ground.data }, { on := 7, ground := Ground.data }], guard := none }) (v := ?_) rfl (by kernel_rfl) (by kernel_rfl) (by kernel_rfl) (fun _ _ _ h => h) (Or.inl ⟨by rfl, ?_⟩) (by assumption) ?_
          rotate_left
          · (intro w hSw; (try dsimp only at hSw); (try obtain ⟨hSa, hSb⟩ := hSw); go_simp; try with_reducible rfl)
          try simp only [Act.put, List.setIfInBounds_toArray, List.set_cons_zero, List.set_cons_succ]
          refine wpAnyH_done (by kernel_rfl) ?_ _
          clear HGx HOx HTa HA HTk HRk e1 hkeep hkeep2
          have L1 := Lib.hid (left_any b cu cm many nu' nm' 1 _ HTx.out.g)
          have L2 := Lib.hid (left_any b cu cm many nu' nm' 2 _ HTx.out.g)
          have R1 := Lib.hid (refleft_any r many nu' nm' 1 _ HTx.out.ref)
          have R2 := Lib.hid (refleft_any r many nu' nm' 2 _ HTx.out.ref)
          generalize leftN nu' nm' 1 = t1 at *
          generalize leftN nu' nm' 2 = t2 at *
          go_wp2_with (fail)
          refine L1.out.mono ?_
          rintro e wz ⟨rfl, rfl⟩
          go_wp2_with (fail)
          refine R1.out.mono ?_
          rintro e wz ⟨rfl, rfl⟩
          go_wp2_with (fail)
          refine L2.out.mono ?_
          rintro e wz ⟨rfl, rfl⟩
          go_wp2_with (fail)
          refine R2.out.mono ?_
          rintro e wz ⟨rfl, rfl⟩
          go_wp2
          go_roundw
          case rel => exact ⟨k + 1, nu', nm', by omega, by simp, HTx.out⟩
          case measure => simp [intOf]; omega
        · have HTa := Lib.hid (HT.out.quiet ((Only.refl _ _).alloc (.cells #[.int .i64 2, .int .i64 n, .int .i64 x0, .int .i64 x1, .int .i64 x2] 38)))
          have HA := Lib.hid (At.new wr 38 #[.int .i64 2, .int .i64 n, .int .i64 x0, .int .i64 x1, .int .i64 x2])
          obtain ⟨p1, p2, p3, p4, p5, p6, p7⟩ := HT.out.at_
          have q1 := HT.out.g.u.lt
          have q2 := HT.out.g.m.lt
          have q3 := HT.out.ref.lt
          have q4 := HT.out.bd
          clear HT
          have e1 : (wr.alloc (.cells #[.int .i64 2, .int .i64 n, .int .i64 x0, .int .i64 x1, .int .i64 x2] 38)).cell? ⟨wr.heap.size, 1, none⟩ = some (.int .i64 n) := HA.out.cell 1
          have hTk := take_any b cu cm many nu nm n _ (HTa.out.quiet ((Only.refl _ _).drew)).g
          have hRk := fun (W : World) (h : RAt W r many nu nm) => reftake_any r many nu nm n W h (by omega) (by omega)
          obtain ⟨z1, z2⟩ := less_le nu nm n
          generalize lessU nu n = nu' at *
          generalize lessM nm n = nm' at *
          generalize decide (0 < leftN nu nm n) = q at *
          have hqq : (q != q) = false := by simp
          have HTk := Lib.hid hTk
          have HRk := Lib.hid hRk
          clear hTk hRk
          go_wp2_with (fail)
          refine wp_region_held_drew (S := (fun W => W.cell? ⟨wr.heap.size, 1, none⟩ = some (.int .i64 n))) (by kernel_rfl) ?_ (fun hHeld => ?_)
          · exact e1
          refine wpAnyH_take (i := 0) (oi := { dst := some 57, op := Op.move (Operand.tmp 6), type := 29, pos := "law.go:56", after := #[], guard := none }) (v := ?_) rfl (by kernel_rfl) (by kernel_rfl) (by kernel_rfl) (fun _ _ _ h => h) (Or.inl ⟨by rfl, ?_⟩) (by assumption) ?_
          rotate_left
          · (intro w hSw; (try dsimp only at hSw); (try obtain ⟨hSa, hSb⟩ := hSw); go_simp; try with_reducible rfl)
          try simp only [Act.put, List.setIfInBounds_toArray, List.set_cons_zero, List.set_cons_succ]
          refine wpAnyH_take (i := 1) (oi := { dst := some 58, op := Op.fieldAddr 38 (Operand.tmp 11) 1, type := 0, pos := "law.go:56", after := #[], guard := none }) (v := ?_) rfl (by kernel_rfl) (by kernel_rfl) (by kernel_rfl) (fun _ _ _ h => h) (Or.inl ⟨by rfl, ?_⟩) (by assumption) ?_
          rotate_left
          · (intro w hSw; (try dsimp only at hSw); (try obtain ⟨hSa, hSb⟩ := hSw); go_simp; try with_reducible rfl)
          try simp only [Act.put, List.setIfInBounds_toArray, List.set_cons_zero, List.set_cons_succ]
          refine wpAnyH_take (i := 2) (oi := { dst := some 59, op := Op.load 3 (Operand.tmp 58), type := 3, pos := "law.go:56", after := #[{ on := 1, ground := Ground.data }], guard := none }) (v := ?_) rfl (by kernel_rfl) (by kernel_rfl) (by kernel_rfl) (fun _ _ _ h => h) (Or.inl ⟨by rfl, ?_⟩) (by assumption) ?_
          rotate_left
          · (intro w hSw; (try dsimp only at hSw); (try obtain ⟨hSa, hSb⟩ := hSw); go_simp; try with_reducible rfl)
          try simp only [Act.put, List.setIfInBounds_toArray, List.set_cons_zero, List.set_cons_succ]
          refine wpAnyH_take (i := 4) (oi := { dst := some 61, op := Op.move (Operand.tmp 8), type := 33, pos := "law.go:56", after := #[], guard := none }) (v := ?_) rfl (by kernel_rfl) (by kernel_rfl) (by kernel_rfl) (fun _ _ _ h => h) (Or.inl ⟨by rfl, ?_⟩) (by assumption) ?_
          rotate_left
          · (intro w hSw; (try dsimp only at hSw); (try obtain ⟨hSa, hSb⟩ := hSw); go_simp; try with_reducible rfl)
          try simp only [Act.put, List.setIfInBounds_toArray, List.set_cons_zero, List.set_cons_succ]
          refine wpAnyH_take (i := 5) (oi := { dst := some 62, op := Op.fieldAddr 38 (Operand.tmp 11) 1, type := 0, pos := "law.go:56", after := #[], guard := none }) (v := ?_) rfl (by kernel_rfl) (by kernel_rfl) (by kernel_rfl) (fun _ _ _ h => h) (Or.inl ⟨by rfl, ?_⟩) (by assumption) ?_
          rotate_left
          · (intro w hSw; (try dsimp only at hSw); (try obtain ⟨hSa, hSb⟩ := hSw); go_simp; try with_reducible rfl)
          try simp only [Act.put, List.setIfInBounds_toArray, List.set_cons_zero, List.set_cons_succ]
          refine wpAnyH_take (i := 6) (oi := { dst := some 63, op := Op.load 3 (Operand.tmp 62), type := 3, pos := "law.go:56", after := #[{ on := 5, ground := Ground.data }], guard := none }) (v := ?_) rfl (by kernel_rfl) (by kernel_rfl) (by kernel_rfl) (fun _ _ _ h => h) (Or.inl ⟨by rfl, ?_⟩) (by assumption) ?_
          rotate_left
          · (intro w hSw; (try dsimp only at hSw); (try obtain ⟨hSa, hSb⟩ := hSw); go_simp; try with_reducible rfl)
          try simp only [Act.put, List.setIfInBounds_toArray, List.set_cons_zero, List.set_cons_succ]
          refine wpAnyH_ready (rs := [3]) (by kernel_rfl) (by simp) ?_
          refine AllReadyH.cons (o := { dst := some 60, op := Op.call { callee := Callee.value (Operand.func 13), args := #[Operand.tmp 57, Operand.tmp 59], argTypes := #[29, 3] }, type := 4, pos := "law.go:56", after := #[{ on := 0, ground := Ground.data }, { on := 2, ground := Ground.data }], guard := none }) rfl (fun K hK => ?_) AllReadyH.nil
          go_simp
          (go_at_call 13; refine HTk.out.mono ?_; rintro e wx ⟨rfl, hGx, hOx⟩; have hkeep : wx.cell? ⟨wr.heap.size, 1, none⟩ = some (.int .i64 n) := (hOx.cell (p := ⟨wr.heap.size, 1, none⟩) (HA.out.lt) (by dsimp only; omega)).trans e1; have HGx := Lib.hid hGx; have HOx := Lib.hid hOx; clear hGx hOx; try simp only [])
          refine hK.out _ _ ?_ (fun hHeld => ?_)
          · exact hkeep
          clear hK K
          try simp only [Act.put, List.setIfInBounds_toArray, List.set_cons_zero, List.set_cons_succ]
          refine wpAnyH_ready (rs := [7]) (by kernel_rfl) (by simp) ?_
          refine AllReadyH.cons (o := { dst := some 64, op := Op.call { callee := Callee.value (Operand.func 14), args := #[Operand.tmp 61, Operand.tmp 63], argTypes := #[33, 3] }, type := 4, pos := "law.go:56", after := #[{ on := 4, ground := Ground.data }, { on := 6, ground := Ground.data }, { on := 3, ground := Ground.chain }], guard := none }) rfl (fun K hK => ?_) AllReadyH.nil
          go_simp
          (go_at_call 14; refine (HRk.out _ ((HTa.out.ref.only (S := fun _ => False) ((Only.refl _ _).drew) id).only HOx.out (by omega))).mono ?_; rintro e wy ⟨rfl, hRy, hOy⟩; have hkeep2 : wy.cell? ⟨wr.heap.size, 1, none⟩ = some (.int .i64 n) := (hOy.cell (p := ⟨wr.heap.size, 1, none⟩) (Nat.lt_of_lt_of_le HA.out.lt HOx.out.size) (by dsimp only; omega)).trans hkeep; have HTx : Hid (Two w b cu cm r many nu' nm' wy) := Lib.hid ((HTa.out.quiet ((Only.refl _ _).drew)).turn HGx.out HOx.out hRy hOy ⟨by omega, by omega⟩); clear hRy hOy; try simp only [])
          refine hK.out _ _ ?_ (fun hHeld => ?_)
          · exact hkeep2
          clear hK K
          try simp only [Act.put, List.setIfInBounds_toArray, List.set_cons_zero, List.set_cons_succ]
          refine wpAnyH_take (i := 8) (oi := { dst := some 65, op := Op.binOp BinOp.neq 4 (Operand.tmp 60) (Operand.tmp 64) 4, type := 4, pos := "law.go:56", after := #[{ on := 3, ground := Ground.data }, { on := 7, ground := Ground.data }], guard := none }) (v := ?_) rfl (by kernel_rfl) (by kernel_rfl) (by kernel_rfl) (fun _ _ _ h => h) (Or.inl ⟨by rfl, ?_⟩) (by assumption) ?_
          rotate_left
          · (intro w hSw; (try dsimp only at hSw); (try obtain ⟨hSa, hSb⟩ := hSw); go_simp; try with_reducible rfl)
          try simp only [Act.put, List.setIfInBounds_toArray, List.set_cons_zero, List.set_cons_succ]
          refine wpAnyH_done (by kernel_rfl) ?_ _
          clear HGx HOx HTa HA HTk HRk e1 hkeep hkeep2
          have L1 := Lib.hid (left_any b cu cm many nu' nm' 1 _ HTx.out.g)
          have L2 := Lib.hid (left_any b cu cm many nu' nm' 2 _ HTx.out.g)
          have R1 := Lib.hid (refleft_any r many nu' nm' 1 _ HTx.out.ref)
          have R2 := Lib.hid (refleft_any r many nu' nm' 2 _ HTx.out.ref)
          generalize leftN nu' nm' 1 = t1 at *
          generalize leftN nu' nm' 2 = t2 at *
          go_wp2_with (fail)
          refine L1.out.mono ?_
          rintro e wz ⟨rfl, rfl⟩
          go_wp2_with (fail)
          refine R1.out.mono ?_
          rintro e wz ⟨rfl, rfl⟩
          go_wp2_with (fail)
          refine L2.out.mono ?_
          rintro e wz ⟨rfl, rfl⟩
          go_wp2_with (fail)
          refine R2.out.mono ?_
          rintro e wz ⟨rfl, rfl⟩
          go_wp2
          go_roundw
          case rel => exact ⟨k + 1, nu', nm', by omega, by simp, HTx.out⟩
          case measure => simp [intOf]; omega
        · have HTa := Lib.hid (HT.out.quiet ((Only.refl _ _).alloc (.cells #[.int .i64 3, .int .i64 n, .int .i64 x0, .int .i64 x1, .int .i64 x2] 38)))
          have HA := Lib.hid (At.new wr 38 #[.int .i64 3, .int .i64 n, .int .i64 x0, .int .i64 x1, .int .i64 x2])
          obtain ⟨p1, p2, p3, p4, p5, p6, p7⟩ := HT.out.at_
          have q1 := HT.out.g.u.lt
          have q2 := HT.out.g.m.lt
          have q3 := HT.out.ref.lt
          have q4 := HT.out.bd
          clear HT
          have e1 : (wr.alloc (.cells #[.int .i64 3, .int .i64 n, .int .i64 x0, .int .i64 x1, .int .i64 x2] 38)).cell? ⟨wr.heap.size, 1, none⟩ = some (.int .i64 n) := HA.out.cell 1
          have HTx := Lib.hid (HTa.out.quiet ((Only.refl _ _).drew))
          have hTk := left_any b cu cm many nu nm n _ HTx.out.g
          have hRk := refleft_any r many nu nm n _ HTx.out.ref
          generalize leftN nu nm n = q at *
          have hqq : (q != q) = false := by simp
          have HTk := Lib.hid hTk
          have HRk := Lib.hid hRk
          clear hTk hRk
          go_wp2_with (fail)
          refine wp_region_held_drew (S := (fun W => W.cell? ⟨wr.heap.size, 1, none⟩ = some (.int .i64 n))) (by kernel_rfl) ?_ (fun hHeld => ?_)
          · exact e1
          refine wpAnyH_take (i := 0) (oi := { dst := some 68, op := Op.move (Operand.tmp 6), type := 29, pos := "law.go:60", after := #[], guard := none }) (v := ?_) rfl (by kernel_rfl) (by kernel_rfl) (by kernel_rfl) (fun _ _ _ h => h) (Or.inl ⟨by rfl, ?_⟩) (by assumption) ?_
          rotate_left
          · (intro w hSw; (try dsimp only at hSw); (try obtain ⟨hSa, hSb⟩ := hSw); go_simp; try with_reducible rfl)
          try simp only [Act.put, List.setIfInBounds_toArray, List.set_cons_zero, List.set_cons_succ]
          refine wpAnyH_take (i := 1) (oi := { dst := some 69, op := Op.fieldAddr 38 (Operand.tmp 11) 1, type := 0, pos := "law.go:60", after := #[], guard := none }) (v := ?_) rfl (by kernel_rfl) (by kernel_rfl) (by kernel_rfl) (fun _ _ _ h => h) (Or.inl ⟨by rfl, ?_⟩) (by assumption) ?_
          rotate_left
          · (intro w hSw; (try dsimp only at hSw); (try obtain ⟨hSa, hSb⟩ := hSw); go_simp; try with_reducible rfl)
          try simp only [Act.put, List.setIfInBounds_toArray, List.set_cons_zero, List.set_cons_succ]
          refine wpAnyH_take (i := 2) (oi := { dst := some 70, op := Op.load 3 (Operand.tmp 69), type := 3, pos := "law.go:60", after := #[{ on := 1, ground := Ground.data }], guard := none }) (v := ?_) rfl (by kernel_rfl) (by kernel_rfl) (by kernel_rfl) (fun _ _ _ h => h) (Or.inl ⟨by rfl, ?_⟩) (by assumption) ?_
          rotate_left
          · (intro w hSw; (try dsimp only at hSw); (try obtain ⟨hSa, hSb⟩ := hSw); go_simp; try with_reducible rfl)
          try simp only [Act.put, List.setIfInBounds_toArray, List.set_cons_zero, List.set_cons_succ]
          refine wpAnyH_take (i := 4) (oi := { dst := some 72, op := Op.move (Operand.tmp 8), type := 33, pos := "law.go:60", after := #[], guard := none }) (v := ?_) rfl (by kernel_rfl) (by kernel_rfl) (by kernel_rfl) (fun _ _ _ h => h) (Or.inl ⟨by rfl, ?_⟩) (by assumption) ?_
          rotate_left
          · (intro w hSw; (try dsimp only at hSw); (try obtain ⟨hSa, hSb⟩ := hSw); go_simp; try with_reducible rfl)
          try simp only [Act.put, List.setIfInBounds_toArray, List.set_cons_zero, List.set_cons_succ]
          refine wpAnyH_take (i := 5) (oi := { dst := some 73, op := Op.fieldAddr 38 (Operand.tmp 11) 1, type := 0, pos := "law.go:60", after := #[], guard := none }) (v := ?_) rfl (by kernel_rfl) (by kernel_rfl) (by kernel_rfl) (fun _ _ _ h => h) (Or.inl ⟨by rfl, ?_⟩) (by assumption) ?_
          rotate_left
          · (intro w hSw; (try dsimp only at hSw); (try obtain ⟨hSa, hSb⟩ := hSw); go_simp; try with_reducible rfl)
          try simp only [Act.put, List.setIfInBounds_toArray, List.set_cons_zero, List.set_cons_succ]
          refine wpAnyH_take (i := 6) (oi := { dst := some 74, op := Op.load 3 (Operand.tmp 73), type := 3, pos := "law.go:60", after := #[{ on := 5, ground := Ground.data }], guard := none }) (v := ?_) rfl (by kernel_rfl) (by kernel_rfl) (by kernel_rfl) (fun _ _ _ h => h) (Or.inl ⟨by rfl, ?_⟩) (by assumption) ?_
          rotate_left
          · (intro w hSw; (try dsimp only at hSw); (try obtain ⟨hSa, hSb⟩ := hSw); go_simp; try with_reducible rfl)
          try simp only [Act.put, List.setIfInBounds_toArray, List.set_cons_zero, List.set_cons_succ]
          refine wpAnyH_ready (rs := [3]) (by kernel_rfl) (by simp) ?_
          refine AllReadyH.cons (o := { dst := some 71, op := Op.call { callee := Callee.value (Operand.func 15), args := #[Operand.tmp 68, Operand.tmp 70], argTypes := #[29, 3] }, type := 3, pos := "law.go:60", after := #[{ on := 0, ground := Ground.data }, { on := 2, ground := Ground.data }], guard := none }) rfl (fun K hK => ?_) AllReadyH.nil
          go_simp
          (go_at_call 15; refine HTk.out.mono ?_; rintro e wx ⟨rfl, rfl⟩; try simp only [])
          refine hK.out _ _ ?_ (fun hHeld => ?_)
          · exact e1
          clear hK K
          try simp only [Act.put, List.setIfInBounds_toArray, List.set_cons_zero, List.set_cons_succ]
          refine wpAnyH_ready (rs := [7]) (by kernel_rfl) (by simp) ?_
          refine AllReadyH.cons (o := { dst := some 75, op := Op.call { callee := Callee.value (Operand.func 16), args := #[Operand.tmp 72, Operand.tmp 74], argTypes := #[33, 3] }, type := 3, pos := "law.go:60", after := #[{ on := 4, ground := Ground.data }, { on := 6, ground := Ground.data }, { on := 3, ground := Ground.chain }], guard := none }) rfl (fun K hK => ?_) AllReadyH.nil
          go_simp
          (go_at_call 16; refine HRk.out.mono ?_; rintro e wy ⟨rfl, rfl⟩; try simp only [])
          refine hK.out _ _ ?_ (fun hHeld => ?_)
          · exact e1
          clear hK K
          try simp only [Act.put, List.setIfInBounds_toArray, List.set_cons_zero, List.set_cons_succ]
          refine wpAnyH_take (i := 8) (oi := { dst := some 76, op := Op.binOp BinOp.neq 3 (Operand.tmp 71) (Operand.tmp 75) 3, type := 4, pos := "law.go:60", after := #[{ on := 3, ground := Ground.data }, { on := 7, ground := Ground.data }], guard := none }) (v := ?_) rfl (by kernel_rfl) (by kernel_rfl) (by kernel_rfl) (fun _ _ _ h => h) (Or.inl ⟨by rfl, ?_⟩) (by assumption) ?_
          rotate_left
          · (intro w hSw; (try dsimp only at hSw); (try obtain ⟨hSa, hSb⟩ := hSw); go_simp; try with_reducible rfl)
          try simp only [Act.put, List.setIfInBounds_toArray, List.set_cons_zero, List.set_cons_succ]
          refine wpAnyH_done (by kernel_rfl) ?_ _
          clear HTa HA HTk HRk e1
          have L1 := Lib.hid (left_any b cu cm many nu nm 1 _ HTx.out.g)
          have L2 := Lib.hid (left_any b cu cm many nu nm 2 _ HTx.out.g)
          have R1 := Lib.hid (refleft_any r many nu nm 1 _ HTx.out.ref)
          have R2 := Lib.hid (refleft_any r many nu nm 2 _ HTx.out.ref)
          generalize leftN nu nm 1 = t1 at *
          generalize leftN nu nm 2 = t2 at *
          go_wp2_with (fail)
          refine L1.out.mono ?_
          rintro e wz ⟨rfl, rfl⟩
          go_wp2_with (fail)
          refine R1.out.mono ?_
          rintro e wz ⟨rfl, rfl⟩
          go_wp2_with (fail)
          refine L2.out.mono ?_
          rintro e wz ⟨rfl, rfl⟩
          go_wp2_with (fail)
          refine R2.out.mono ?_
          rintro e wz ⟨rfl, rfl⟩
          go_wp2
          go_roundw
          case rel => exact ⟨k + 1, nu, nm, by omega, by simp, HTx.out⟩
          case measure => simp [intOf]; omega
        · have HTa := Lib.hid (HT.out.quiet ((Only.refl _ _).alloc (.cells #[.int .i64 4, .int .i64 n, .int .i64 x0, .int .i64 x1, .int .i64 x2] 38)))
          have HA := Lib.hid (At.new wr 38 #[.int .i64 4, .int .i64 n, .int .i64 x0, .int .i64 x1, .int .i64 x2])
          obtain ⟨p1, p2, p3, p4, p5, p6, p7⟩ := HT.out.at_
          have q1 := HT.out.g.u.lt
          have q2 := HT.out.g.m.lt
          have q3 := HT.out.ref.lt
          have q4 := HT.out.bd
          clear HT
          obtain ⟨va, vb, hA, hB, hab⟩ := split_nat x0 x1 x2 many
          have HF := Lib.hid (fill_any b cu cm many nu nm va vb x0 x1 x2 _ HTa.out.g (by omega) hA hB hab)
          have HF' := Lib.hid (fun (W : World) (h : RAt W r many nu nm) => reffill_any r many nu nm va vb x0 x1 x2 W h hA hB)
          clear hA hB
          go_wp2_with (fail)
          refine HF.out.mono ?_
          rintro e wx ⟨rfl, hGx, hOx⟩
          have hX := HA.out.only hOx (by omega)
          have e2 := hX.cell 2
          have e3 := hX.cell 3
          have e4 := hX.cell 4
          simp at e2 e3 e4
          have HX := Lib.hid hX
          have HGx := Lib.hid hGx
          have HOx := Lib.hid hOx
          clear hGx hOx hX
          go_wp2_with (fail)
          refine (HF'.out _ (HTa.out.ref.only HOx.out (by omega))).mono ?_
          rintro e wy ⟨rfl, hRy, hOy⟩
          have HTx : Hid (Two w b cu cm r many va vb wy) := Lib.hid (HTa.out.turn HGx.out HOx.out hRy hOy ⟨by omega, by omega⟩)
          clear hRy hOy HF HF' HX HGx HOx HTa HA e2 e3 e4
          have L1 := Lib.hid (left_any b cu cm many va vb 1 _ HTx.out.g)
          have L2 := Lib.hid (left_any b cu cm many va vb 2 _ HTx.out.g)
          have R1 := Lib.hid (refleft_any r many va vb 1 _ HTx.out.ref)
          have R2 := Lib.hid (refleft_any r many va vb 2 _ HTx.out.ref)
          generalize leftN va vb 1 = t1 at *
          generalize leftN va vb 2 = t2 at *
          go_wp2_with (fail)
          refine L1.out.mono ?_
          rintro e wz ⟨rfl, rfl⟩
          go_wp2_with (fail)
          refine R1.out.mono ?_
          rintro e wz ⟨rfl, rfl⟩
          go_wp2_with (fail)
          refine L2.out.mono ?_
          rintro e wz ⟨rfl, rfl⟩
          go_wp2_with (fail)
          refine R2.out.mono ?_
          rintro e wz ⟨rfl, rfl⟩
          go_wp2
          go_roundw
          case rel => exact ⟨k + 1, va, vb, by omega, by simp, HTx.out⟩
          case measure => simp [intOf]; omega
        · have HTa := Lib.hid (HT.out.quiet ((Only.refl _ _).alloc (.cells #[.int .i64 d, .int .i64 n, .int .i64 x0, .int .i64 x1, .int .i64 x2] 38)))
          have HA := Lib.hid (At.new wr 38 #[.int .i64 d, .int .i64 n, .int .i64 x0, .int .i64 x1, .int .i64 x2])
          obtain ⟨p1, p2, p3, p4, p5, p6, p7⟩ := HT.out.at_
          have q1 := HT.out.g.u.lt
          have q2 := HT.out.g.m.lt
          have q3 := HT.out.ref.lt
          have q4 := HT.out.bd
          clear HT
          have HTx := HTa
          have D0 : (d == 0) = false := beq_false_of_ne d0
          have D1 : (d == 1) = false := beq_false_of_ne d1
          have D2 : (d == 2) = false := beq_false_of_ne d2
          have D3 : (d == 3) = false := beq_false_of_ne d3
          have D4 : (d == 4) = false := beq_false_of_ne d4
          clear d0 d1 d2 d3 d4 HTa HA
          have L1 := Lib.hid (left_any b cu cm many nu nm 1 _ HTx.out.g)
          have L2 := Lib.hid (left_any b cu cm many nu nm 2 _ HTx.out.g)
          have R1 := Lib.hid (refleft_any r many nu nm 1 _ HTx.out.ref)
          have R2 := Lib.hid (refleft_any r many nu nm 2 _ HTx.out.ref)
          generalize leftN nu nm 1 = t1 at *
          generalize leftN nu nm 2 = t2 at *
          go_wp2_with (fail)
          refine L1.out.mono ?_
          rintro e wz ⟨rfl, rfl⟩
          go_wp2_with (fail)
          refine R1.out.mono ?_
          rintro e wz ⟨rfl, rfl⟩
          go_wp2_with (fail)
          refine L2.out.mono ?_
          rintro e wz ⟨rfl, rfl⟩
          go_wp2_with (fail)
          refine R2.out.mono ?_
          rintro e wz ⟨rfl, rfl⟩
          go_wp2
          go_roundw
          case rel => exact ⟨k + 1, nu, nm, by omega, by simp, HTx.out⟩
          case measure => simp [intOf]; omega
      · go_wp2
        go_ret
        exact ⟨rfl, HT.out.only.below (Nat.le_refl _) (fun i hi h => h)⟩
    · obtain rfl : k = l.length := by omega
      go_wp2
      go_ret
      exact ⟨rfl, HT.out.only.below (Nat.le_refl _) (fun i hi h => h)⟩
end Go.Proofs.Ytpfgjnklfdfiaaa
