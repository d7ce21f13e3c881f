/- Sched: SchedPlays: the walk. -/
import Derived.Test.YtcbgobgicknhiaaH
namespace Go.Proofs.Ytcbgobgicknhiaa
open Go.RowKit

theorem Opn.Ok.src {w : World} {o : Opn} (h : o.Ok w) (g g' : Nat) (hg : w.heap.size ≤ g) (hg' : w.heap.size ≤ g') : ∃ gr, gr ≠ g ∧ gr ≠ g' ∧ Rd w gr o.A (bl o.rd) := by
  obtain ⟨⟨gr, h1, h2⟩, _, _⟩ := h
  by_cases he : o.rd = []
  · exact ⟨g + g' + 1, by omega, by omega, by rw [he]; exact Rd.nil⟩
  · have := h2 he
    exact ⟨gr, by omega, by omega, h1⟩
theorem ov_len (l : List Opn) : (ov l).length = l.length * 2 := by
  induction l with
  | nil => rfl
  | cons x t ih => simp only [ov, List.flatMap_cons, List.length_append, List.length_cons] at *; rw [ih]; simp [Opn.cells]; omega
theorem ov_get (l : List Opn) (i j : Nat) (hi : i < l.length) (hj : j < 2) : (ov l)[i * 2 + j]? = (l[i]).cells[j]? := by
  induction l generalizing i with
  | nil => simp at hi
  | cons x t ih =>
    have hc : x.cells.length = 2 := rfl
    cases i with
    | zero =>
      simp only [ov, List.flatMap_cons, Nat.zero_mul, Nat.zero_add, List.getElem_cons_zero]
      rw [List.getElem?_append_left (by omega)]
    | succ i =>
      simp only [ov, List.flatMap_cons, List.getElem_cons_succ]
      rw [List.getElem?_append_right (by omega)]
      have := ih i (by simpa using hi)
      rw [← this]
      congr 1
      omega
/-- The two cells of what stands at place k. -/
theorem op_cells {w wr : World} {gA : Nat} {A : Option Addr} {l : List Opn} {k : Nat} (h : Rd w gA A (ov l)) (hO : Only (fun i => w.heap.size ≤ i) w wr) (hk : k < l.length) :
    ∃ off, A = some ⟨gA, off, none⟩ ∧ gA < w.heap.size ∧ wr.cell? ⟨gA, off + k * 2, none⟩ = some (.slice l[k].A l[k].rd.length l[k].c) ∧ wr.cell? ⟨gA, off + k * 2 + 1, none⟩ = some (.int .i64 l[k].want) := by
  obtain ⟨off, hA, hlt, hc⟩ := h.at (by intro e; have := ov_len l; rw [e] at this; simp at this; omega)
  have hh : ∀ j, j < 2 → ∀ u, (l[k]).cells[j]? = some u → wr.cell? ⟨gA, off + k * 2 + j, none⟩ = some u := by
    intro j hj u hu
    have := hc (k * 2 + j) u (by rw [ov_get l k j hk hj]; exact hu)
    rw [← Nat.add_assoc] at this
    exact (hO.cell (p := ⟨gA, off + k * 2 + j, none⟩) hlt (by simpa using hlt)).trans this
  exact ⟨off, hA, hlt, hh 0 (by omega) _ rfl, hh 1 (by omega) _ rfl⟩

structure TwoAt (w : World) (b g b' g' : Nat) (n : Nat) (p : Int) (ws : List Int) (k : Nat) (wr : World) : Prop where
  s : SAt wr b g 47 ws p
  r : SAt wr b' g' 49 ws p
  len : ws.length = n
  bd : bound ws (k : Int)
  only : Only (fun i => w.heap.size ≤ i) w wr

set_option maxRecDepth 100000 in
set_option maxHeartbeats 4000000 in
theorem schedPlays_walk (a p : Int) (gA cA : Nat) (A : Option Addr) (l : List Opn) (w : World) (hr : Rd w gA A (ov l)) (hok : ∀ o ∈ l, o.Ok w) :
    Calls Try.prog 4 #[.int .i64 a, .int .i64 p, .slice A l.length cA] w fun e w' => e = .returned (.bool true) ∧ Below w.heap.size w w' := by
  have HR := Lib.hid hr
  have HOK := Lib.hid hok
  clear hr hok
  rcases hb : badN a p with _ | _
  · obtain ⟨h1, h2, h3, h4⟩ := good_of hb
    obtain ⟨n, rfl⟩ := Int.eq_ofNat_of_zero_le (show 0 ≤ a by omega)
    have HB := Lib.hid hb
    clear hb
    go_enter Try.func4, Try.ntmps4
    go_wp2_with (fail)
    refine (awake_any w).mono ?_
    rintro e w0 ⟨rfl, hO⟩
    have HO := Lib.hid hO
    clear hO
    go_wp2_with (fail)
    refine (new_good n p w0 HB.out).mono ?_
    rintro e w1 ⟨b, g, rfl, hb, hg, hbg, hS, hO⟩
    have HS := Lib.hid hS
    have HO1 := Lib.hid (HO.out.trans hO)
    have hs0 := HO.out.size
    have hbl := hS.st.lt
    have hgl := hS.row.lt
    clear hS hO HO
    go_wp2_with (fail)
    refine (refNew_good n p w1 HB.out).mono ?_
    rintro e w2 ⟨b', g', rfl, hb', hg', hbg', hS', hO'⟩
    have HI : Hid (TwoAt w b g b' g' n p (List.replicate n 0) 0 w2) := ⟨HS.out.only hO' id id, hS', by simp, bound_zero n, (HO1.out.trans hO').toOld _⟩
    have HQ : Hid ((w.heap.size ≤ b ∧ w.heap.size ≤ g ∧ w.heap.size ≤ b' ∧ w.heap.size ≤ g') ∧ b ≠ g ∧ b ≠ b' ∧ b ≠ g' ∧ g ≠ b' ∧ g ≠ g' ∧ b' ≠ g') := by
      have := HO1.out.size
      exact ⟨⟨by omega, by omega, by omega, by omega⟩, by omega, by omega, by omega, by omega, by omega, by omega⟩
    clear hS' hO' HO1 HS hb hg hbg hb' hg' hbg' hs0 hbl hgl
    go_wp2
    go_loopw [12] (fun v wr => ∃ k : Nat, k ≤ l.length ∧ k ≤ 300 ∧ v = .int .i64 k ∧ ∃ ws, TwoAt w b g b' g' n p ws k wr) (fun v _ => l.length - (intOf v).toNat)
    case atStart => exact ⟨0, by omega, by omega, rfl, _, HI.out⟩
    case round =>
      clear HI
      obtain ⟨k, hk, hk3, rfl, ws, hI⟩ := hrel
      by_cases h1 : k < l.length
      · by_cases h3' : k < 300
        · obtain ⟨off, rfl, hgA, c0, c1⟩ := op_cells HR.out hI.only h1
          have hok := HOK.out _ (List.getElem_mem h1)
          obtain ⟨gr, hgr1, hgr2, hrd⟩ := hok.src g g' HQ.out.1.2.1 HQ.out.1.2.2.2
          have hln := hok.len
          generalize l[k] = o at *
          obtain ⟨Ao, co, rd, want⟩ := o
          simp only at c0 c1 hrd hln
          have HI := Lib.hid hI
          have HRd := Lib.hid hrd
          clear hok hrd hI
          by_cases hbig : 100 < rd.length
          · go_wp2
            go_ret
            exact ⟨rfl, HI.out.only.below (Nat.le_refl _) (fun i hi h => by omega)⟩
          · have hsm : rd.length ≤ 100 := by omega
            have hwl := HI.out.len
            have Hp : Hid (Calls Try.prog 13 #[.pointer (some ⟨b, 0, none⟩), .slice Ao rd.length co, .int .i64 want] wr.drew (PkPost b g 47 ws rd p want wr.drew)) :=
              pick_any b g gr co Ao ws rd p want k wr.drew (HI.out.s.only ((Only.refl (fun _ => False) _).drew) id id) HQ.out.2.1 (by omega) hgr1 (HRd.out.old (HI.out.only.drew) (Nat.le_refl _)) (by omega) HI.out.bd (by omega)
            clear hbig hwl
            go_wp2_with (fail)
            refine wp_region_held_drew (S := (fun W => W.cell? ⟨gA, off + k * 2, none⟩ = some (.slice Ao rd.length co) ∧ W.cell? ⟨gA, off + k * 2 + 1, none⟩ = some (.int .i64 want))) (by kernel_rfl) ?_ (fun hHeld => ?_)
            · exact ⟨c0, c1⟩
            refine wpAnyH_take (i := 0) (oi := { dst := some 64, op := Op.move (Operand.tmp 8), type := 23, pos := "law.go:48", after := #[], guard := none }) (v := ?_) rfl (by kernel_rfl) (by kernel_rfl) (by kernel_rfl) (fun _ _ _ h => h) (Or.inl ⟨by rfl, ?_⟩) (by assumption) ?_
            rotate_left
            · (intro w hSw; (try dsimp only at hSw); (try obtain ⟨hSa, hSb⟩ := hSw); go_simp; try with_reducible rfl)
            try simp only [Act.put, List.setIfInBounds_toArray, List.set_cons_zero, List.set_cons_succ]
            refine wpAnyH_take (i := 1) (oi := { dst := some 65, op := Op.move (Operand.tmp 2), type := 32, pos := "law.go:48", after := #[], guard := none }) (v := ?_) rfl (by kernel_rfl) (by kernel_rfl) (by kernel_rfl) (fun _ _ _ h => h) (Or.inl ⟨by rfl, ?_⟩) (by assumption) ?_
            rotate_left
            · (intro w hSw; (try dsimp only at hSw); (try obtain ⟨hSa, hSb⟩ := hSw); go_simp; try with_reducible rfl)
            try simp only [Act.put, List.setIfInBounds_toArray, List.set_cons_zero, List.set_cons_succ]
            refine wpAnyH_take (i := 2) (oi := { dst := some 66, op := Op.move (Operand.tmp 12), type := 3, pos := "law.go:48", after := #[], guard := none }) (v := ?_) rfl (by kernel_rfl) (by kernel_rfl) (by kernel_rfl) (fun _ _ _ h => h) (Or.inl ⟨by rfl, ?_⟩) (by assumption) ?_
            rotate_left
            · (intro w hSw; (try dsimp only at hSw); (try obtain ⟨hSa, hSb⟩ := hSw); go_simp; try with_reducible rfl)
            try simp only [Act.put, List.setIfInBounds_toArray, List.set_cons_zero, List.set_cons_succ]
            refine wpAnyH_take (i := 3) (oi := { dst := some 67, op := Op.indexAddr 32 (Operand.tmp 65) (Operand.tmp 66), type := 0, pos := "law.go:48", after := #[{ on := 1, ground := Ground.data }, { on := 2, ground := Ground.data }], guard := none }) (v := ?_) rfl (by kernel_rfl) (by kernel_rfl) (by kernel_rfl) (fun _ _ _ h => h) (Or.inl ⟨by rfl, ?_⟩) (by assumption) ?_
            rotate_left
            · (intro w hSw; (try dsimp only at hSw); (try obtain ⟨hSa, hSb⟩ := hSw); go_simp; try with_reducible rfl)
            try simp only [Act.put, List.setIfInBounds_toArray, List.set_cons_zero, List.set_cons_succ]
            refine wpAnyH_take (i := 4) (oi := { dst := some 68, op := Op.fieldAddr 35 (Operand.tmp 67) 0, type := 0, pos := "law.go:48", after := #[{ on := 3, ground := Ground.data }], guard := none }) (v := ?_) rfl (by kernel_rfl) (by kernel_rfl) (by kernel_rfl) (fun _ _ _ h => h) (Or.inl ⟨by rfl, ?_⟩) (by assumption) ?_
            rotate_left
            · (intro w hSw; (try dsimp only at hSw); (try obtain ⟨hSa, hSb⟩ := hSw); go_simp; try with_reducible rfl)
            try simp only [Act.put, List.setIfInBounds_toArray, List.set_cons_zero, List.set_cons_succ]
            refine wpAnyH_take (i := 5) (oi := { dst := some 69, op := Op.load 33 (Operand.tmp 68), type := 33, pos := "law.go:48", after := #[{ on := 4, ground := Ground.data }], guard := none }) (v := ?_) rfl (by kernel_rfl) (by kernel_rfl) (by kernel_rfl) (fun _ _ _ h => h) (Or.inl ⟨by rfl, ?_⟩) (by assumption) ?_
            rotate_left
            · (intro w hSw; (try dsimp only at hSw); (try obtain ⟨hSa, hSb⟩ := hSw); go_simp; try with_reducible rfl)
            try simp only [Act.put, List.setIfInBounds_toArray, List.set_cons_zero, List.set_cons_succ]
            refine wpAnyH_take (i := 6) (oi := { dst := some 70, op := Op.move (Operand.tmp 2), type := 32, pos := "law.go:48", after := #[], guard := none }) (v := ?_) rfl (by kernel_rfl) (by kernel_rfl) (by kernel_rfl) (fun _ _ _ h => h) (Or.inl ⟨by rfl, ?_⟩) (by assumption) ?_
            rotate_left
            · (intro w hSw; (try dsimp only at hSw); (try obtain ⟨hSa, hSb⟩ := hSw); go_simp; try with_reducible rfl)
            try simp only [Act.put, List.setIfInBounds_toArray, List.set_cons_zero, List.set_cons_succ]
            refine wpAnyH_take (i := 7) (oi := { dst := some 71, op := Op.move (Operand.tmp 12), type := 3, pos := "law.go:48", after := #[], guard := none }) (v := ?_) rfl (by kernel_rfl) (by kernel_rfl) (by kernel_rfl) (fun _ _ _ h => h) (Or.inl ⟨by rfl, ?_⟩) (by assumption) ?_
            rotate_left
            · (intro w hSw; (try dsimp only at hSw); (try obtain ⟨hSa, hSb⟩ := hSw); go_simp; try with_reducible rfl)
            try simp only [Act.put, List.setIfInBounds_toArray, List.set_cons_zero, List.set_cons_succ]
            refine wpAnyH_take (i := 8) (oi := { dst := some 72, op := Op.indexAddr 32 (Operand.tmp 70) (Operand.tmp 71), type := 0, pos := "law.go:48", after := #[{ on := 6, ground := Ground.data }, { on := 7, ground := Ground.data }], guard := none }) (v := ?_) rfl (by kernel_rfl) (by kernel_rfl) (by kernel_rfl) (fun _ _ _ h => h) (Or.inl ⟨by rfl, ?_⟩) (by assumption) ?_
            rotate_left
            · (intro w hSw; (try dsimp only at hSw); (try obtain ⟨hSa, hSb⟩ := hSw); go_simp; try with_reducible rfl)
            try simp only [Act.put, List.setIfInBounds_toArray, List.set_cons_zero, List.set_cons_succ]
            refine wpAnyH_take (i := 9) (oi := { dst := some 73, op := Op.fieldAddr 35 (Operand.tmp 72) 1, type := 0, pos := "law.go:48", after := #[{ on := 8, ground := Ground.data }], guard := none }) (v := ?_) rfl (by kernel_rfl) (by kernel_rfl) (by kernel_rfl) (fun _ _ _ h => h) (Or.inl ⟨by rfl, ?_⟩) (by assumption) ?_
            rotate_left
            · (intro w hSw; (try dsimp only at hSw); (try obtain ⟨hSa, hSb⟩ := hSw); go_simp; try with_reducible rfl)
            try simp only [Act.put, List.setIfInBounds_toArray, List.set_cons_zero, List.set_cons_succ]
            refine wpAnyH_take (i := 10) (oi := { dst := some 74, op := Op.load 3 (Operand.tmp 73), type := 3, pos := "law.go:48", after := #[{ on := 9, ground := Ground.data }], guard := none }) (v := ?_) rfl (by kernel_rfl) (by kernel_rfl) (by kernel_rfl) (fun _ _ _ h => h) (Or.inl ⟨by rfl, ?_⟩) (by assumption) ?_
            rotate_left
            · (intro w hSw; (try dsimp only at hSw); (try obtain ⟨hSa, hSb⟩ := hSw); go_simp; try with_reducible rfl)
            try simp only [Act.put, List.setIfInBounds_toArray, List.set_cons_zero, List.set_cons_succ]
            refine wpAnyH_ready (rs := [11]) (by kernel_rfl) (by simp) ?_
            refine AllReadyH.cons (o := { dst := some 75, op := Op.call { callee := Callee.value (Operand.func 13), args := #[Operand.tmp 64, Operand.tmp 69, Operand.tmp 74], argTypes := #[23, 33, 3] }, type := 36, pos := "law.go:48", after := #[{ on := 0, ground := Ground.data }, { on := 5, ground := Ground.data }, { on := 10, ground := Ground.data }], guard := none }) rfl (fun K hK => ?_) AllReadyH.nil
            go_simp
            (go_at_call 13; refine Hp.out.mono ?_; rintro e wx ⟨rfl, hSx, hOx⟩; have HIx : Hid (SAt wx b g 47 (pk ws rd p want).2.2 p ∧ SAt wx b' g' 49 ws p ∧ Only (fun i => w.heap.size ≤ i) w wx) := ⟨hSx, (HI.out.r.only (S := fun _ => False) ((Only.refl _ _).drew) id id).only hOx (by have := HQ.out; omega) (by have := HQ.out; omega), HI.out.only.drew.trans' hOx (by rintro i hi rfl; exact HQ.out.1.2.1)⟩; have hkeep : wx.cell? ⟨gA, off + k * 2, none⟩ = some (.slice Ao rd.length co) ∧ wx.cell? ⟨gA, off + k * 2 + 1, none⟩ = some (.int .i64 want) := (by (have e0 := (hOx.cell (p := ⟨gA, off + k * 2, none⟩) (Nat.lt_of_lt_of_le hgA HI.out.only.size) (by (have := HQ.out.1); intro e; have e' : gA = g := e; omega)); have e1 := (hOx.cell (p := ⟨gA, off + k * 2 + 1, none⟩) (Nat.lt_of_lt_of_le hgA HI.out.only.size) (by (have := HQ.out.1); intro e; have e' : gA = g := e; omega)); exact ⟨e0.trans c0, e1.trans c1⟩)); obtain ⟨R, hR⟩ : ∃ R, pk ws rd p want = R := ⟨_, rfl⟩; have HR1 := Lib.hid hR; rw [hR] at HIx ⊢; clear hR hSx hOx Hp; obtain ⟨x1, x2, ws'⟩ := R)
            refine hK.out _ _ ?_ (fun hHeld => ?_)
            · exact hkeep
            clear hK K
            try simp only [Act.put, List.setIfInBounds_toArray, List.set_cons_zero, List.set_cons_succ]
            refine wpAnyH_take (i := 12) (oi := { dst := some 63, op := Op.move (Operand.tmp 75), type := 36, pos := "law.go:48", after := #[{ on := 11, ground := Ground.data }], guard := none }) (v := ?_) rfl (by kernel_rfl) (by kernel_rfl) (by kernel_rfl) (fun _ _ _ h => h) (Or.inl ⟨by rfl, ?_⟩) (by assumption) ?_
            rotate_left
            · (intro w hSw; (try dsimp only at hSw); (try obtain ⟨hSa, hSb⟩ := hSw); go_simp; try with_reducible rfl)
            try simp only [Act.put, List.setIfInBounds_toArray, List.set_cons_zero, List.set_cons_succ]
            refine wpAnyH_take (i := 13) (oi := { dst := some 76, op := Op.extract (Operand.tmp 63) 0, type := 3, pos := "law.go:48", after := #[{ on := 12, ground := Ground.data }], guard := none }) (v := ?_) rfl (by kernel_rfl) (by kernel_rfl) (by kernel_rfl) (fun _ _ _ h => h) (Or.inl ⟨by rfl, ?_⟩) (by assumption) ?_
            rotate_left
            · (intro w hSw; (try dsimp only at hSw); (try obtain ⟨hSa, hSb⟩ := hSw); go_simp; try with_reducible rfl)
            try simp only [Act.put, List.setIfInBounds_toArray, List.set_cons_zero, List.set_cons_succ]
            refine wpAnyH_take (i := 14) (oi := { dst := some 77, op := Op.extract (Operand.tmp 63) 1, type := 4, pos := "law.go:48", after := #[{ on := 12, ground := Ground.data }, { on := 15, ground := Ground.gcOnly Departure.lateStores }], guard := none }) (v := ?_) rfl (by kernel_rfl) (by kernel_rfl) (by kernel_rfl) (fun _ _ _ h => h) (Or.inl ⟨by rfl, ?_⟩) (by assumption) ?_
            rotate_left
            · (intro w hSw; (try dsimp only at hSw); (try obtain ⟨hSa, hSb⟩ := hSw); go_simp; try with_reducible rfl)
            try simp only [Act.put, List.setIfInBounds_toArray, List.set_cons_zero, List.set_cons_succ]
            refine wpAnyH_take (i := 15) (oi := { dst := some 13, op := Op.assign (Operand.tmp 76), type := 3, pos := "law.go:48", after := #[{ on := 13, ground := Ground.data }, { on := 11, ground := Ground.chain }, { on := 0, ground := Ground.phase }, { on := 1, ground := Ground.phase }, { on := 2, ground := Ground.phase }, { on := 3, ground := Ground.phase }, { on := 4, ground := Ground.phase }, { on := 5, ground := Ground.phase }, { on := 6, ground := Ground.phase }, { on := 7, ground := Ground.phase }, { on := 8, ground := Ground.phase }, { on := 9, ground := Ground.phase }, { on := 10, ground := Ground.phase }, { on := 11, ground := Ground.phase }, { on := 12, ground := Ground.phase }, { on := 13, ground := Ground.phase }, { on := 14, ground := Ground.textOnly Departure.lateStores }], guard := none }) (v := ?_) rfl (by kernel_rfl) (by kernel_rfl) (by kernel_rfl) (fun _ _ _ h => h) (Or.inl ⟨by rfl, ?_⟩) (by assumption) ?_
            rotate_left
            · (intro w hSw; (try dsimp only at hSw); (try obtain ⟨hSa, hSb⟩ := hSw); go_simp; try with_reducible rfl)
            try simp only [Act.put, List.setIfInBounds_toArray, List.set_cons_zero, List.set_cons_succ]
            refine wpAnyH_take (i := 16) (oi := { dst := some 14, op := Op.assign (Operand.tmp 77), type := 4, pos := "law.go:48", after := #[{ on := 14, ground := Ground.data }, { on := 15, ground := Ground.chain }, { on := 0, ground := Ground.phase }, { on := 1, ground := Ground.phase }, { on := 2, ground := Ground.phase }, { on := 3, ground := Ground.phase }, { on := 4, ground := Ground.phase }, { on := 5, ground := Ground.phase }, { on := 6, ground := Ground.phase }, { on := 7, ground := Ground.phase }, { on := 8, ground := Ground.phase }, { on := 9, ground := Ground.phase }, { on := 10, ground := Ground.phase }, { on := 11, ground := Ground.phase }, { on := 12, ground := Ground.phase }, { on := 13, ground := Ground.phase }, { on := 14, ground := Ground.phase }, { on := 15, ground := Ground.phase }], guard := none }) (v := ?_) rfl (by kernel_rfl) (by kernel_rfl) (by kernel_rfl) (fun _ _ _ h => h) (Or.inl ⟨by rfl, ?_⟩) (by assumption) ?_
            rotate_left
            · (intro w hSw; (try dsimp only at hSw); (try obtain ⟨hSa, hSb⟩ := hSw); go_simp; try with_reducible rfl)
            try simp only [Act.put, List.setIfInBounds_toArray, List.set_cons_zero, List.set_cons_succ]
            refine wpAnyH_done (by kernel_rfl) ?_ _
            go_wp2_with (fail)
            have HI2 : Hid (SAt wx b g 47 ws' p ∧ SAt wx b' g' 49 ws p ∧ Only (fun i => w.heap.size ≤ i) w wx) := HIx
            have hwl := HI.out.len
            have Hp2 : Hid (Calls Try.prog 14 #[.pointer (some ⟨b', 0, none⟩), .slice Ao rd.length co, .int .i64 want] wx.drew (PkPost b' g' 49 ws rd p want wx.drew)) :=
              refPick_any b' g' gr co Ao ws rd p want k wx.drew (HI2.out.2.1.only ((Only.refl (fun _ => False) _).drew) id id) HQ.out.2.2.2.2.2.2 (by omega) hgr2 (HRd.out.old (HI2.out.2.2.drew) (Nat.le_refl _)) (by omega) HI.out.bd (by omega) h3 h4
            clear hwl HIx
            refine wp_region_held_drew (S := (fun W => W.cell? ⟨gA, off + k * 2, none⟩ = some (.slice Ao rd.length co) ∧ W.cell? ⟨gA, off + k * 2 + 1, none⟩ = some (.int .i64 want))) (by kernel_rfl) ?_ (fun hHeld => ?_)
            · exact hkeep
            refine wpAnyH_take (i := 0) (oi := { dst := some 79, op := Op.move (Operand.tmp 10), type := 27, pos := "law.go:49", after := #[], guard := none }) (v := ?_) rfl (by kernel_rfl) (by kernel_rfl) (by kernel_rfl) (fun _ _ _ h => h) (Or.inl ⟨by rfl, ?_⟩) (by assumption) ?_
            rotate_left
            · (intro w hSw; (try dsimp only at hSw); (try obtain ⟨hSa, hSb⟩ := hSw); go_simp; try with_reducible rfl)
            try simp only [Act.put, List.setIfInBounds_toArray, List.set_cons_zero, List.set_cons_succ]
            refine wpAnyH_take (i := 1) (oi := { dst := some 80, op := Op.move (Operand.tmp 2), type := 32, pos := "law.go:49", after := #[], guard := none }) (v := ?_) rfl (by kernel_rfl) (by kernel_rfl) (by kernel_rfl) (fun _ _ _ h => h) (Or.inl ⟨by rfl, ?_⟩) (by assumption) ?_
            rotate_left
            · (intro w hSw; (try dsimp only at hSw); (try obtain ⟨hSa, hSb⟩ := hSw); go_simp; try with_reducible rfl)
            try simp only [Act.put, List.setIfInBounds_toArray, List.set_cons_zero, List.set_cons_succ]
            refine wpAnyH_take (i := 2) (oi := { dst := some 81, op := Op.move (Operand.tmp 12), type := 3, pos := "law.go:49", after := #[], guard := none }) (v := ?_) rfl (by kernel_rfl) (by kernel_rfl) (by kernel_rfl) (fun _ _ _ h => h) (Or.inl ⟨by rfl, ?_⟩) (by assumption) ?_
            rotate_left
            · (intro w hSw; (try dsimp only at hSw); (try obtain ⟨hSa, hSb⟩ := hSw); go_simp; try with_reducible rfl)
            try simp only [Act.put, List.setIfInBounds_toArray, List.set_cons_zero, List.set_cons_succ]
            refine wpAnyH_take (i := 3) (oi := { dst := some 82, op := Op.indexAddr 32 (Operand.tmp 80) (Operand.tmp 81), type := 0, pos := "law.go:49", after := #[{ on := 1, ground := Ground.data }, { on := 2, ground := Ground.data }], guard := none }) (v := ?_) rfl (by kernel_rfl) (by kernel_rfl) (by kernel_rfl) (fun _ _ _ h => h) (Or.inl ⟨by rfl, ?_⟩) (by assumption) ?_
            rotate_left
            · (intro w hSw; (try dsimp only at hSw); (try obtain ⟨hSa, hSb⟩ := hSw); go_simp; try with_reducible rfl)
            try simp only [Act.put, List.setIfInBounds_toArray, List.set_cons_zero, List.set_cons_succ]
            refine wpAnyH_take (i := 4) (oi := { dst := some 83, op := Op.fieldAddr 35 (Operand.tmp 82) 0, type := 0, pos := "law.go:49", after := #[{ on := 3, ground := Ground.data }], guard := none }) (v := ?_) rfl (by kernel_rfl) (by kernel_rfl) (by kernel_rfl) (fun _ _ _ h => h) (Or.inl ⟨by rfl, ?_⟩) (by assumption) ?_
            rotate_left
            · (intro w hSw; (try dsimp only at hSw); (try obtain ⟨hSa, hSb⟩ := hSw); go_simp; try with_reducible rfl)
            try simp only [Act.put, List.setIfInBounds_toArray, List.set_cons_zero, List.set_cons_succ]
            refine wpAnyH_take (i := 5) (oi := { dst := some 84, op := Op.load 33 (Operand.tmp 83), type := 33, pos := "law.go:49", after := #[{ on := 4, ground := Ground.data }], guard := none }) (v := ?_) rfl (by kernel_rfl) (by kernel_rfl) (by kernel_rfl) (fun _ _ _ h => h) (Or.inl ⟨by rfl, ?_⟩) (by assumption) ?_
            rotate_left
            · (intro w hSw; (try dsimp only at hSw); (try obtain ⟨hSa, hSb⟩ := hSw); go_simp; try with_reducible rfl)
            try simp only [Act.put, List.setIfInBounds_toArray, List.set_cons_zero, List.set_cons_succ]
            refine wpAnyH_take (i := 6) (oi := { dst := some 85, op := Op.move (Operand.tmp 2), type := 32, pos := "law.go:49", after := #[], guard := none }) (v := ?_) rfl (by kernel_rfl) (by kernel_rfl) (by kernel_rfl) (fun _ _ _ h => h) (Or.inl ⟨by rfl, ?_⟩) (by assumption) ?_
            rotate_left
            · (intro w hSw; (try dsimp only at hSw); (try obtain ⟨hSa, hSb⟩ := hSw); go_simp; try with_reducible rfl)
            try simp only [Act.put, List.setIfInBounds_toArray, List.set_cons_zero, List.set_cons_succ]
            refine wpAnyH_take (i := 7) (oi := { dst := some 86, op := Op.move (Operand.tmp 12), type := 3, pos := "law.go:49", after := #[], guard := none }) (v := ?_) rfl (by kernel_rfl) (by kernel_rfl) (by kernel_rfl) (fun _ _ _ h => h) (Or.inl ⟨by rfl, ?_⟩) (by assumption) ?_
            rotate_left
            · (intro w hSw; (try dsimp only at hSw); (try obtain ⟨hSa, hSb⟩ := hSw); go_simp; try with_reducible rfl)
            try simp only [Act.put, List.setIfInBounds_toArray, List.set_cons_zero, List.set_cons_succ]
            refine wpAnyH_take (i := 8) (oi := { dst := some 87, op := Op.indexAddr 32 (Operand.tmp 85) (Operand.tmp 86), type := 0, pos := "law.go:49", after := #[{ on := 6, ground := Ground.data }, { on := 7, ground := Ground.data }], guard := none }) (v := ?_) rfl (by kernel_rfl) (by kernel_rfl) (by kernel_rfl) (fun _ _ _ h => h) (Or.inl ⟨by rfl, ?_⟩) (by assumption) ?_
            rotate_left
            · (intro w hSw; (try dsimp only at hSw); (try obtain ⟨hSa, hSb⟩ := hSw); go_simp; try with_reducible rfl)
            try simp only [Act.put, List.setIfInBounds_toArray, List.set_cons_zero, List.set_cons_succ]
            refine wpAnyH_take (i := 9) (oi := { dst := some 88, op := Op.fieldAddr 35 (Operand.tmp 87) 1, type := 0, pos := "law.go:49", after := #[{ on := 8, ground := Ground.data }], guard := none }) (v := ?_) rfl (by kernel_rfl) (by kernel_rfl) (by kernel_rfl) (fun _ _ _ h => h) (Or.inl ⟨by rfl, ?_⟩) (by assumption) ?_
            rotate_left
            · (intro w hSw; (try dsimp only at hSw); (try obtain ⟨hSa, hSb⟩ := hSw); go_simp; try with_reducible rfl)
            try simp only [Act.put, List.setIfInBounds_toArray, List.set_cons_zero, List.set_cons_succ]
            refine wpAnyH_take (i := 10) (oi := { dst := some 89, op := Op.load 3 (Operand.tmp 88), type := 3, pos := "law.go:49", after := #[{ on := 9, ground := Ground.data }], guard := none }) (v := ?_) rfl (by kernel_rfl) (by kernel_rfl) (by kernel_rfl) (fun _ _ _ h => h) (Or.inl ⟨by rfl, ?_⟩) (by assumption) ?_
            rotate_left
            · (intro w hSw; (try dsimp only at hSw); (try obtain ⟨hSa, hSb⟩ := hSw); go_simp; try with_reducible rfl)
            try simp only [Act.put, List.setIfInBounds_toArray, List.set_cons_zero, List.set_cons_succ]
            refine wpAnyH_ready (rs := [11]) (by kernel_rfl) (by simp) ?_
            refine AllReadyH.cons (o := { dst := some 90, op := Op.call { callee := Callee.value (Operand.func 14), args := #[Operand.tmp 79, Operand.tmp 84, Operand.tmp 89], argTypes := #[27, 33, 3] }, type := 36, pos := "law.go:49", after := #[{ on := 0, ground := Ground.data }, { on := 5, ground := Ground.data }, { on := 10, ground := Ground.data }], guard := none }) rfl (fun K hK => ?_) AllReadyH.nil
            go_simp
            (go_at_call 14; refine Hp2.out.mono ?_; unfold PkPost; rw [HR1.out]; rintro e wy ⟨rfl, hSy, hOy⟩; have HIy : Hid (SAt wy b g 47 ws' p ∧ SAt wy b' g' 49 ws' p ∧ Only (fun i => w.heap.size ≤ i) w wy) := ⟨(HI2.out.1.only (S := fun _ => False) ((Only.refl _ _).drew) id id).only hOy (by have := HQ.out; omega) (by have := HQ.out; omega), hSy, HI2.out.2.2.drew.trans' hOy (by rintro i hi rfl; exact HQ.out.1.2.2.2)⟩; have hkeep2 : wy.cell? ⟨gA, off + k * 2, none⟩ = some (.slice Ao rd.length co) ∧ wy.cell? ⟨gA, off + k * 2 + 1, none⟩ = some (.int .i64 want) := (by (have e0 := (hOy.cell (p := ⟨gA, off + k * 2, none⟩) (Nat.lt_of_lt_of_le hgA HI2.out.2.2.size) (by (have := HQ.out.1); intro e; have e' : gA = g' := e; omega)); have e1 := (hOy.cell (p := ⟨gA, off + k * 2 + 1, none⟩) (Nat.lt_of_lt_of_le hgA HI2.out.2.2.size) (by (have := HQ.out.1); intro e; have e' : gA = g' := e; omega)); exact ⟨e0.trans hkeep.1, e1.trans hkeep.2⟩)); clear hSy hOy Hp2)
            refine hK.out _ _ ?_ (fun hHeld => ?_)
            · exact hkeep2
            clear hK K
            try simp only [Act.put, List.setIfInBounds_toArray, List.set_cons_zero, List.set_cons_succ]
            refine wpAnyH_take (i := 12) (oi := { dst := some 78, op := Op.move (Operand.tmp 90), type := 36, pos := "law.go:49", after := #[{ on := 11, ground := Ground.data }], guard := none }) (v := ?_) rfl (by kernel_rfl) (by kernel_rfl) (by kernel_rfl) (fun _ _ _ h => h) (Or.inl ⟨by rfl, ?_⟩) (by assumption) ?_
            rotate_left
            · (intro w hSw; (try dsimp only at hSw); (try obtain ⟨hSa, hSb⟩ := hSw); go_simp; try with_reducible rfl)
            try simp only [Act.put, List.setIfInBounds_toArray, List.set_cons_zero, List.set_cons_succ]
            refine wpAnyH_take (i := 13) (oi := { dst := some 91, op := Op.extract (Operand.tmp 78) 0, type := 3, pos := "law.go:49", after := #[{ on := 12, ground := Ground.data }], guard := none }) (v := ?_) rfl (by kernel_rfl) (by kernel_rfl) (by kernel_rfl) (fun _ _ _ h => h) (Or.inl ⟨by rfl, ?_⟩) (by assumption) ?_
            rotate_left
            · (intro w hSw; (try dsimp only at hSw); (try obtain ⟨hSa, hSb⟩ := hSw); go_simp; try with_reducible rfl)
            try simp only [Act.put, List.setIfInBounds_toArray, List.set_cons_zero, List.set_cons_succ]
            refine wpAnyH_take (i := 14) (oi := { dst := some 92, op := Op.extract (Operand.tmp 78) 1, type := 4, pos := "law.go:49", after := #[{ on := 12, ground := Ground.data }, { on := 15, ground := Ground.gcOnly Departure.lateStores }], guard := none }) (v := ?_) rfl (by kernel_rfl) (by kernel_rfl) (by kernel_rfl) (fun _ _ _ h => h) (Or.inl ⟨by rfl, ?_⟩) (by assumption) ?_
            rotate_left
            · (intro w hSw; (try dsimp only at hSw); (try obtain ⟨hSa, hSb⟩ := hSw); go_simp; try with_reducible rfl)
            try simp only [Act.put, List.setIfInBounds_toArray, List.set_cons_zero, List.set_cons_succ]
            refine wpAnyH_take (i := 15) (oi := { dst := some 15, op := Op.assign (Operand.tmp 91), type := 3, pos := "law.go:49", after := #[{ on := 13, ground := Ground.data }, { on := 11, ground := Ground.chain }, { on := 0, ground := Ground.phase }, { on := 1, ground := Ground.phase }, { on := 2, ground := Ground.phase }, { on := 3, ground := Ground.phase }, { on := 4, ground := Ground.phase }, { on := 5, ground := Ground.phase }, { on := 6, ground := Ground.phase }, { on := 7, ground := Ground.phase }, { on := 8, ground := Ground.phase }, { on := 9, ground := Ground.phase }, { on := 10, ground := Ground.phase }, { on := 11, ground := Ground.phase }, { on := 12, ground := Ground.phase }, { on := 13, ground := Ground.phase }, { on := 14, ground := Ground.textOnly Departure.lateStores }], guard := none }) (v := ?_) rfl (by kernel_rfl) (by kernel_rfl) (by kernel_rfl) (fun _ _ _ h => h) (Or.inl ⟨by rfl, ?_⟩) (by assumption) ?_
            rotate_left
            · (intro w hSw; (try dsimp only at hSw); (try obtain ⟨hSa, hSb⟩ := hSw); go_simp; try with_reducible rfl)
            try simp only [Act.put, List.setIfInBounds_toArray, List.set_cons_zero, List.set_cons_succ]
            refine wpAnyH_take (i := 16) (oi := { dst := some 16, op := Op.assign (Operand.tmp 92), type := 4, pos := "law.go:49", after := #[{ on := 14, ground := Ground.data }, { on := 15, ground := Ground.chain }, { on := 0, ground := Ground.phase }, { on := 1, ground := Ground.phase }, { on := 2, ground := Ground.phase }, { on := 3, ground := Ground.phase }, { on := 4, ground := Ground.phase }, { on := 5, ground := Ground.phase }, { on := 6, ground := Ground.phase }, { on := 7, ground := Ground.phase }, { on := 8, ground := Ground.phase }, { on := 9, ground := Ground.phase }, { on := 10, ground := Ground.phase }, { on := 11, ground := Ground.phase }, { on := 12, ground := Ground.phase }, { on := 13, ground := Ground.phase }, { on := 14, ground := Ground.phase }, { on := 15, ground := Ground.phase }], guard := none }) (v := ?_) rfl (by kernel_rfl) (by kernel_rfl) (by kernel_rfl) (fun _ _ _ h => h) (Or.inl ⟨by rfl, ?_⟩) (by assumption) ?_
            rotate_left
            · (intro w hSw; (try dsimp only at hSw); (try obtain ⟨hSa, hSb⟩ := hSw); go_simp; try with_reducible rfl)
            try simp only [Act.put, List.setIfInBounds_toArray, List.set_cons_zero, List.set_cons_succ]
            refine wpAnyH_done (by kernel_rfl) ?_ _
            go_wp2
            have HI3 : Hid (TwoAt w b g b' g' n p ws' (k + 1) wy) := by
              have hl := pk_len ws rd p want
              have hbb := pk_bound HI.out.bd (by omega) rd p want
              rw [HR1.out] at hl hbb
              exact ⟨HIy.out.1, HIy.out.2.1, by rw [← HI.out.len]; exact hl, by simpa using hbb, HIy.out.2.2⟩
            clear HIy HI2 HI HR1 hkeep hkeep2
            obtain ⟨wo, rfl⟩ : ∃ wo : World, wo = wy := ⟨_, rfl⟩
            go_loopw [17] (fun v wr => ∃ z : Int, -1 ≤ z ∧ z ≤ n + 1 ∧ v = .int .i64 z ∧ Only (fun _ => False) wo wr) (fun v _ => ((n : Int) + 1 - intOf v).toNat)
            case atStart => exact ⟨-1, by omega, by omega, rfl, Only.refl _ _⟩
            case round =>
              obtain ⟨z, hz1, hz2, rfl, hOz⟩ := hrel
              have HOz := Lib.hid hOz
              clear hOz
              by_cases hz : z ≤ n
              · have Hw1 := Lib.hid (waits_any b g ws' p z _ (HI3.out.s.only HOz.out id id))
                go_wp2_with (fail)
                refine Hw1.out.mono ?_
                rintro e wa ⟨rfl, hOa⟩
                have HOa := Lib.hid (HOz.out.trans hOa)
                have Hw2 := Lib.hid (refWaits_any b' g' ws' p z wa (HI3.out.r.only HOa.out id id))
                clear hOa Hw1
                generalize waitI ws' z = t at *
                have ht : (t != t) = false := by simp
                go_wp2_with (fail)
                refine Hw2.out.mono ?_
                rintro e wb ⟨rfl, hOb⟩
                have HOb := Lib.hid (HOa.out.trans hOb)
                clear hOb Hw2
                go_wp2
                go_roundw
                case rel => exact ⟨z + 1, by omega, by omega, by simp, HOb.out⟩
                case measure => simp [intOf]; omega
              · go_wp2
                go_roundw
                case rel =>
                  exact ⟨k + 1, by omega, by omega, by simp, ws', HI3.out.s.only HOz.out id id, HI3.out.r.only HOz.out id id, HI3.out.len, HI3.out.bd, (HI3.out.only).trans (HOz.out.toOld _)⟩
                case measure => simp [intOf]; omega
        · have HI := Lib.hid hI
          clear hI
          go_wp2
          go_ret
          exact ⟨rfl, HI.out.only.below (Nat.le_refl _) (fun i hi h => by omega)⟩
      · obtain rfl : k = l.length := by omega
        have HI := Lib.hid hI
        clear hI
        go_wp2
        go_ret
        exact ⟨rfl, HI.out.only.below (Nat.le_refl _) (fun i hi h => by omega)⟩
  · have HB := Lib.hid hb
    clear hb
    go_enter Try.func4, Try.ntmps4
    go_wp2_with (fail)
    refine (awake_any w).mono ?_
    rintro e w0 ⟨rfl, hO⟩
    have HO := Lib.hid hO
    clear hO
    go_wp2_with (fail)
    refine (new_bad a p w0 HB.out).mono ?_
    rintro e w1 ⟨rfl, rfl⟩
    go_wp2_with (fail)
    refine (refNew_bad a p w0 HB.out).mono ?_
    rintro e w1 ⟨rfl, rfl⟩
    go_wp2
    go_loopw [12] (fun v wr => v = .int .i64 0 ∧ wr = w0) (fun _ _ => 0)
    case atStart => exact ⟨rfl, rfl⟩
    case round =>
      obtain ⟨rfl, rfl⟩ := hrel
      by_cases h1 : 0 < l.length
      · go_wp2
        go_ret
        exact ⟨rfl, HO.out.below (Nat.le_refl _) (fun i hi h => h)⟩
      · have h0 : l.length = 0 := by omega
        go_wp2
        go_ret
        exact ⟨rfl, HO.out.below (Nat.le_refl _) (fun i hi h => h)⟩
end Go.Proofs.Ytcbgobgicknhiaa
