/- Sched: SchedAlone: the walk. -/
import Derived.Test.YtcbgobgicknhiaaK
import Derived.Test.YtcbgobgicknhiaaQ
namespace Go.Proofs.Ytcbgobgicknhiaa
open Go.RowKit

theorem Try.info4 : (Try.prog.info? 4).map (fun i => (i.zero, i.size, i.bytes)) = some (some (.bool false), 1, 1) := by kernel_rfl

/-- Bools as cells. -/
def ob (l : List Bool) : Array Value := (l.map Value.bool).toArray
theorem ob_set (l : List Bool) (i : Nat) (z : Bool) : (ob l).setIfInBounds i (.bool z) = ob (l.set i z) := by simp [ob, List.map_set]
theorem ob_zero (n : Nat) : ob (List.replicate n false) = zeros (.bool false) n := by simp [ob, zeros]
theorem ob_get {l : List Bool} {i : Nat} (h : i < l.length) : (ob l)[i]? = some (.bool l[i]) := by simp [ob, h]

/-- One scheduler, and two boxed arrays. -/
structure BoxAt (w : World) (b g : Nat) (n : Nat) (p : Int) (B1 : Nat) (x0 x1 : Int) (B2 : Nat) (y0 y1 : Int) (ws : List Int) (k : Nat) (wr : World) : Prop where
  s : SAt wr b g 47 ws p
  len : ws.length = n
  bd : bound ws (k : Int)
  only : Only (fun i => w.heap.size ≤ i) w wr
  b1 : At wr B1 42 #[.int .i64 x0, .int .i64 x1]
  b2 : At wr B2 42 #[.int .i64 y0, .int .i64 y1]

theorem BoxAt.pick {w : World} {b g n : Nat} {p : Int} {B1 : Nat} {x0 x1 : Int} {B2 : Nat} {y0 y1 : Int} {ws : List Int} {k : Nat} {wr wx : World} (h : BoxAt w b g n p B1 x0 x1 B2 y0 y1 ws k wr)
    (hq : b ≠ g ∧ w.heap.size ≤ g ∧ w.heap.size ≤ b ∧ B1 ≠ g ∧ B2 ≠ g) (rd : List Bool) (want : Int) (hS : SAt wx b g 47 (pk ws rd p want).2.2 p) (hO : Only (fun i => i = g) wr.drew wx) :
    BoxAt w b g n p B1 x0 x1 B2 y0 y1 (pk ws rd p want).2.2 (k + 1) wx :=
  ⟨hS, by rw [pk_len]; exact h.len, by have := pk_bound h.bd (by omega) rd p want; simpa using this, h.only.drew.trans' hO (by rintro i hi rfl; exact hq.2.1), h.b1.drew.only hO hq.2.2.2.1, h.b2.drew.only hO hq.2.2.2.2⟩

set_option maxRecDepth 100000 in
set_option maxHeartbeats 4000000 in
theorem schedAlone_walk (x0 x1 y0 y1 : Int) (gA cA : Nat) (A : Option Addr) (l : List Opn) (w : World) (hr : Rd w gA A (ov l)) (hok : ∀ o ∈ l, o.Ok w) :
    Calls Try.prog 8 #[.agg #[.int .i64 x0, .int .i64 x1], .slice A l.length cA, .agg #[.int .i64 y0, .int .i64 y1]] w fun e w' => e = .returned (.bool true) ∧ Below w.heap.size w w' := by
  have HR := Lib.hid hr
  have HOK := Lib.hid hok
  clear hr hok
  go_enter Try.func8, Try.ntmps8
  go_wp2_with (fail)
  refine (awake_any _).mono ?_
  rintro e w0 ⟨rfl, hO⟩
  have q1 := ((At.new w 42 #[.int .i64 x0, .int .i64 x1]).alloc (.cells #[.int .i64 y0, .int .i64 y1] 42)).only hO id
  have q2 := (At.new (w.alloc (.cells #[.int .i64 x0, .int .i64 x1] 42)) 42 #[.int .i64 y0, .int .i64 y1]).only hO id
  have hO0 : Only (fun i => w.heap.size ≤ i) w w0 := (((Only.refl (fun _ => False) w).alloc _).alloc _).toOld _ |>.trans (hO.toOld _)
  have hs0 : w.heap.size + 2 ≤ w0.heap.size := by have := hO.size; simpa using this
  obtain ⟨B1, hB1⟩ : ∃ B1, B1 = w.heap.size := ⟨_, rfl⟩
  obtain ⟨B2, hB2⟩ : ∃ B2, B2 = w.heap.size + 1 := ⟨_, rfl⟩
  have hq1 : At w0 B1 42 #[.int .i64 x0, .int .i64 x1] := by rw [hB1]; exact q1
  have hq2 : At w0 B2 42 #[.int .i64 y0, .int .i64 y1] := by rw [hB2]; simpa using q2
  have c1 := hq1.cell 0
  have c2 := hq1.cell 1
  simp at c1 c2
  have HB1 := Lib.hid hq1
  have HB2 := Lib.hid hq2
  have HO0 := Lib.hid hO0
  have HN : Hid (B1 = w.heap.size ∧ B2 = w.heap.size + 1 ∧ w.heap.size + 2 ≤ w0.heap.size) := ⟨hB1, hB2, hs0⟩
  rw [← hB2, ← hB1]
  clear q1 q2 hq1 hq2 hO hO0 hs0
  have e1 : (w.alloc (.cells #[.int .i64 x0, .int .i64 x1] 42)).heap.size = B2 := by rw [hB2]; simp
  try rw [e1]
  clear e1 hB1 hB2
  rcases hb : badN x0 x1 with _ | _
  · obtain ⟨h1, h2, h3, h4⟩ := good_of hb
    obtain ⟨n, rfl⟩ := Int.eq_ofNat_of_zero_le (show 0 ≤ x0 by omega)
    have HB := Lib.hid hb
    clear hb
    go_wp2_with (fail)
    refine (new_good n x1 w0 HB.out).mono ?_
    rintro e w1 ⟨b, g, rfl, hb, hg, hbg, hS, hO⟩
    have HI : Hid (BoxAt w b g n x1 B1 n x1 B2 y0 y1 (List.replicate n 0) 0 w1) := ⟨hS, by simp, bound_zero n, HO0.out.trans (hO.toOld _), HB1.out.only hO id, HB2.out.only hO id⟩
    have HQ : Hid (b ≠ g ∧ w.heap.size ≤ g ∧ w.heap.size ≤ b ∧ B1 ≠ g ∧ B2 ≠ g) := by
      have := HN.out
      exact ⟨hbg, by omega, by omega, by omega, by omega⟩
    have c3 := HI.out.b2.cell 0
    simp at c3
    obtain ⟨p, hp⟩ : ∃ p, p = x1 := ⟨_, rfl⟩
    clear hS hO c1 c2 HB1 HB2 HO0 hb hg hbg
    by_cases hy : y0 < 0
    · go_wp2
      go_ret
      exact ⟨rfl, HI.out.only.below (Nat.le_refl _) (fun i hi h => by omega)⟩
    · have hy0 : 0 ≤ y0 := by omega
      clear hy
      go_wp2
      go_loopw [10] (fun v wr => ∃ k : Nat, k ≤ l.length ∧ k ≤ 100 ∧ v = .int .i64 k ∧ ∃ ws, BoxAt w b g n x1 B1 n x1 B2 y0 y1 ws k wr) (fun v _ => l.length - (intOf v).toNat)
      case atStart => exact ⟨0, by omega, by omega, rfl, _, HI.out⟩
      case round =>
        clear HI
        obtain ⟨k, hk, hk3, rfl, ws, hI⟩ := hrel
        by_cases h1 : k < l.length ∧ k < 100
        · obtain ⟨h1, h3'⟩ := h1
          obtain ⟨off, rfl, hgA, c0, c1⟩ := op_cells HR.out hI.only h1
          have hok := HOK.out _ (List.getElem_mem h1)
          obtain ⟨gr, hgr1, hgr2, hrd⟩ := hok.src g g HQ.out.2.1 HQ.out.2.1
          have hln := hok.len
          generalize l[k] = o at *
          obtain ⟨Ao, co, rd, want⟩ := o
          simp only at c0 c1 hrd hln
          have HI := Lib.hid hI
          have HRd := Lib.hid hrd
          clear hok hrd hI
          have hwl := HI.out.len
          have Hp : Hid (Calls Try.prog 13 #[.pointer (some ⟨b, 0, none⟩), .slice Ao rd.length co, .int .i64 want] wr.drew (PkPost b g 47 ws rd x1 want wr.drew)) :=
            pick_any b g gr co Ao ws rd x1 want k wr.drew (HI.out.s.only ((Only.refl (fun _ => False) _).drew) id id) HQ.out.1 (by omega) hgr1 (HRd.out.old (HI.out.only.drew) (Nat.le_refl _)) (by omega) HI.out.bd (by omega)
          clear hwl
          go_wp2_with (fail)
          refine wp_region_held_drew (S := (fun W => W.cell? ⟨gA, off + k * 2, none⟩ = some (.slice Ao rd.length co) ∧ W.cell? ⟨gA, off + k * 2 + 1, none⟩ = some (.int .i64 want))) (by kernel_rfl) ?_ (fun hHeld => ?_)
          · exact ⟨c0, c1⟩
          refine wpAnyH_take (i := 0) (oi := { dst := some 47, op := Op.move (Operand.tmp 8), type := 23, pos := "more.go:16", after := #[], guard := none }) (v := ?_) rfl (by kernel_rfl) (by kernel_rfl) (by kernel_rfl) (fun _ _ _ h => h) (Or.inl ⟨by rfl, ?_⟩) (by assumption) ?_
          rotate_left
          · (intro w hSw; (try dsimp only at hSw); (try obtain ⟨hSa, hSb⟩ := hSw); go_simp; try with_reducible rfl)
          try simp only [Act.put, List.setIfInBounds_toArray, List.set_cons_zero, List.set_cons_succ]
          refine wpAnyH_take (i := 1) (oi := { dst := some 48, op := Op.move (Operand.tmp 1), type := 32, pos := "more.go:16", after := #[], guard := none }) (v := ?_) rfl (by kernel_rfl) (by kernel_rfl) (by kernel_rfl) (fun _ _ _ h => h) (Or.inl ⟨by rfl, ?_⟩) (by assumption) ?_
          rotate_left
          · (intro w hSw; (try dsimp only at hSw); (try obtain ⟨hSa, hSb⟩ := hSw); go_simp; try with_reducible rfl)
          try simp only [Act.put, List.setIfInBounds_toArray, List.set_cons_zero, List.set_cons_succ]
          refine wpAnyH_take (i := 2) (oi := { dst := some 49, op := Op.move (Operand.tmp 10), type := 3, pos := "more.go:16", after := #[], guard := none }) (v := ?_) rfl (by kernel_rfl) (by kernel_rfl) (by kernel_rfl) (fun _ _ _ h => h) (Or.inl ⟨by rfl, ?_⟩) (by assumption) ?_
          rotate_left
          · (intro w hSw; (try dsimp only at hSw); (try obtain ⟨hSa, hSb⟩ := hSw); go_simp; try with_reducible rfl)
          try simp only [Act.put, List.setIfInBounds_toArray, List.set_cons_zero, List.set_cons_succ]
          refine wpAnyH_take (i := 3) (oi := { dst := some 50, op := Op.indexAddr 32 (Operand.tmp 48) (Operand.tmp 49), type := 0, pos := "more.go:16", after := #[{ on := 1, ground := Ground.data }, { on := 2, ground := Ground.data }], guard := none }) (v := ?_) rfl (by kernel_rfl) (by kernel_rfl) (by kernel_rfl) (fun _ _ _ h => h) (Or.inl ⟨by rfl, ?_⟩) (by assumption) ?_
          rotate_left
          · (intro w hSw; (try dsimp only at hSw); (try obtain ⟨hSa, hSb⟩ := hSw); go_simp; try with_reducible rfl)
          try simp only [Act.put, List.setIfInBounds_toArray, List.set_cons_zero, List.set_cons_succ]
          refine wpAnyH_take (i := 4) (oi := { dst := some 51, op := Op.fieldAddr 35 (Operand.tmp 50) 0, type := 0, pos := "more.go:16", after := #[{ on := 3, ground := Ground.data }], guard := none }) (v := ?_) rfl (by kernel_rfl) (by kernel_rfl) (by kernel_rfl) (fun _ _ _ h => h) (Or.inl ⟨by rfl, ?_⟩) (by assumption) ?_
          rotate_left
          · (intro w hSw; (try dsimp only at hSw); (try obtain ⟨hSa, hSb⟩ := hSw); go_simp; try with_reducible rfl)
          try simp only [Act.put, List.setIfInBounds_toArray, List.set_cons_zero, List.set_cons_succ]
          refine wpAnyH_take (i := 5) (oi := { dst := some 52, op := Op.load 33 (Operand.tmp 51), type := 33, pos := "more.go:16", after := #[{ on := 4, ground := Ground.data }], guard := none }) (v := ?_) rfl (by kernel_rfl) (by kernel_rfl) (by kernel_rfl) (fun _ _ _ h => h) (Or.inl ⟨by rfl, ?_⟩) (by assumption) ?_
          rotate_left
          · (intro w hSw; (try dsimp only at hSw); (try obtain ⟨hSa, hSb⟩ := hSw); go_simp; try with_reducible rfl)
          try simp only [Act.put, List.setIfInBounds_toArray, List.set_cons_zero, List.set_cons_succ]
          refine wpAnyH_take (i := 6) (oi := { dst := some 53, op := Op.move (Operand.tmp 1), type := 32, pos := "more.go:16", after := #[], guard := none }) (v := ?_) rfl (by kernel_rfl) (by kernel_rfl) (by kernel_rfl) (fun _ _ _ h => h) (Or.inl ⟨by rfl, ?_⟩) (by assumption) ?_
          rotate_left
          · (intro w hSw; (try dsimp only at hSw); (try obtain ⟨hSa, hSb⟩ := hSw); go_simp; try with_reducible rfl)
          try simp only [Act.put, List.setIfInBounds_toArray, List.set_cons_zero, List.set_cons_succ]
          refine wpAnyH_take (i := 7) (oi := { dst := some 54, op := Op.move (Operand.tmp 10), type := 3, pos := "more.go:16", after := #[], guard := none }) (v := ?_) rfl (by kernel_rfl) (by kernel_rfl) (by kernel_rfl) (fun _ _ _ h => h) (Or.inl ⟨by rfl, ?_⟩) (by assumption) ?_
          rotate_left
          · (intro w hSw; (try dsimp only at hSw); (try obtain ⟨hSa, hSb⟩ := hSw); go_simp; try with_reducible rfl)
          try simp only [Act.put, List.setIfInBounds_toArray, List.set_cons_zero, List.set_cons_succ]
          refine wpAnyH_take (i := 8) (oi := { dst := some 55, op := Op.indexAddr 32 (Operand.tmp 53) (Operand.tmp 54), type := 0, pos := "more.go:16", after := #[{ on := 6, ground := Ground.data }, { on := 7, ground := Ground.data }], guard := none }) (v := ?_) rfl (by kernel_rfl) (by kernel_rfl) (by kernel_rfl) (fun _ _ _ h => h) (Or.inl ⟨by rfl, ?_⟩) (by assumption) ?_
          rotate_left
          · (intro w hSw; (try dsimp only at hSw); (try obtain ⟨hSa, hSb⟩ := hSw); go_simp; try with_reducible rfl)
          try simp only [Act.put, List.setIfInBounds_toArray, List.set_cons_zero, List.set_cons_succ]
          refine wpAnyH_take (i := 9) (oi := { dst := some 56, op := Op.fieldAddr 35 (Operand.tmp 55) 1, type := 0, pos := "more.go:16", after := #[{ on := 8, ground := Ground.data }], guard := none }) (v := ?_) rfl (by kernel_rfl) (by kernel_rfl) (by kernel_rfl) (fun _ _ _ h => h) (Or.inl ⟨by rfl, ?_⟩) (by assumption) ?_
          rotate_left
          · (intro w hSw; (try dsimp only at hSw); (try obtain ⟨hSa, hSb⟩ := hSw); go_simp; try with_reducible rfl)
          try simp only [Act.put, List.setIfInBounds_toArray, List.set_cons_zero, List.set_cons_succ]
          refine wpAnyH_take (i := 10) (oi := { dst := some 57, op := Op.load 3 (Operand.tmp 56), type := 3, pos := "more.go:16", after := #[{ on := 9, ground := Ground.data }], guard := none }) (v := ?_) rfl (by kernel_rfl) (by kernel_rfl) (by kernel_rfl) (fun _ _ _ h => h) (Or.inl ⟨by rfl, ?_⟩) (by assumption) ?_
          rotate_left
          · (intro w hSw; (try dsimp only at hSw); (try obtain ⟨hSa, hSb⟩ := hSw); go_simp; try with_reducible rfl)
          try simp only [Act.put, List.setIfInBounds_toArray, List.set_cons_zero, List.set_cons_succ]
          refine wpAnyH_ready (rs := [11]) (by kernel_rfl) (by simp) ?_
          refine AllReadyH.cons (o := { dst := some 58, op := Op.call { callee := Callee.value (Operand.func 13), args := #[Operand.tmp 47, Operand.tmp 52, Operand.tmp 57], argTypes := #[23, 33, 3] }, type := 36, pos := "more.go:16", after := #[{ on := 0, ground := Ground.data }, { on := 5, ground := Ground.data }, { on := 10, ground := Ground.data }], guard := none }) rfl (fun K hK => ?_) AllReadyH.nil
          go_simp
          (go_at_call 13; refine Hp.out.mono ?_; rintro e wx ⟨rfl, hSx, hOx⟩; have HI2 : Hid (BoxAt w b g n x1 B1 n x1 B2 y0 y1 (pk ws rd x1 want).2.2 (k + 1) wx) := HI.out.pick HQ.out rd want hSx hOx; have hkeep : wx.cell? ⟨gA, off + k * 2, none⟩ = some (.slice Ao rd.length co) ∧ wx.cell? ⟨gA, off + k * 2 + 1, none⟩ = some (.int .i64 want) := (by (have e0 := (hOx.cell (p := ⟨gA, off + k * 2, none⟩) (Nat.lt_of_lt_of_le hgA HI.out.only.size) (by (have := HQ.out.2.1); intro e; have e' : gA = g := e; omega)); have e1 := (hOx.cell (p := ⟨gA, off + k * 2 + 1, none⟩) (Nat.lt_of_lt_of_le hgA HI.out.only.size) (by (have := HQ.out.2.1); intro e; have e' : gA = g := e; omega)); exact ⟨e0.trans c0, e1.trans c1⟩)); clear hSx hOx Hp HI)
          refine hK.out _ _ ?_ (fun hHeld => ?_)
          · exact hkeep
          clear hK K
          try simp only [Act.put, List.setIfInBounds_toArray, List.set_cons_zero, List.set_cons_succ]
          refine wpAnyH_done (by kernel_rfl) ?_ _
          go_wp2
          go_roundw
          case rel => exact ⟨k + 1, by omega, by omega, by simp, _, HI2.out⟩
          case measure => simp [intOf]; omega
        · obtain hex : k = l.length ∨ (k = 100 ∧ 100 < l.length) := by omega
          rcases hex with rfl | ⟨rfl, hbig⟩
          · have HI := Lib.hid hI
            clear hI
            have hn0 : ¬ n = 0 := by omega
            have hni : (0 : Int) < (n : Int) := by omega
            obtain ⟨who, hwho⟩ := Int.eq_ofNat_of_zero_le (Int.emod_nonneg y0 (show (n : Int) ≠ 0 by omega))
            have hwn : who < n := by have := Int.emod_lt_of_pos y0 hni; omega
            obtain ⟨gR, hgR⟩ : ∃ gR, gR = wr.heap.size := ⟨_, rfl⟩
            obtain ⟨W3, hW3⟩ : ∃ W3, W3 = wr.alloc (.cells (zeros (.bool false) n) 4) := ⟨_, rfl⟩
            have hR0 : At W3 gR 4 (ob (List.replicate n false)) := by rw [hW3, hgR, ob_zero]; exact At.new wr 4 _
            have hO3 : Only (fun _ => False) wr W3 := by rw [hW3]; exact (Only.refl _ _).alloc _
            have c1 := HI.out.b1.cell 0
            have c3 := (HI.out.b2.only hO3 id).cell 0
            have c4 := (HI.out.b1.only hO3 id).cell 0
            simp at c1 c3 c4
            have f1 := hR0.frozen who
            have f2 := hR0.cell who
            rw [ob_get (by simpa using hwn)] at f2
            simp only [List.getElem_replicate] at f2
            have hlts : b < gR ∧ g < gR ∧ B1 < gR ∧ B2 < gR := by rw [hgR]; exact ⟨HI.out.s.st.lt, HI.out.s.row.lt, HI.out.b1.lt, HI.out.b2.lt⟩
            obtain ⟨W4, hW4⟩ : ∃ W4, W4 = wr.alloc (.cells ((zeros (.bool false) n).setIfInBounds who (.bool true)) 4) := ⟨_, rfl⟩
            have hO4' : Only (fun _ => False) wr W4 := by rw [hW4]; exact (Only.refl _ _).alloc _
            have hO4 : Only (fun i => i = gR) wr W4 := hO4'.mono fun _ _ h => h.elim
            have hR4 : At W4 gR 4 (ob ((List.replicate n false).set who true)) := by
              rw [hW4, hgR, ← ob_set, ob_zero]; exact At.new wr 4 _
            have hB1 := HI.out.b1.only hO4 (by omega)
            have hB2 := HI.out.b2.only hO4 (by omega)
            have hS4 := HI.out.s.only hO4 (by omega) (by omega)
            have c5 := hB2.cell 1
            simp at c5
            obtain ⟨rd, hrd⟩ : ∃ rd, rd = (List.replicate n false).set who true := ⟨_, rfl⟩
            rw [← hrd] at hR4
            have hrl : rd.length = n := by rw [hrd]; simp
            have hro : ∀ i, rd.getD i false = true → i = who := by
              intro i hi
              rw [hrd] at hi
              simp only [List.getD, List.getElem?_set] at hi
              split at hi
              · omega
              · simp only [List.getElem?_replicate] at hi; split at hi <;> simp at hi
            have hrw : rd.getD who false = true := by rw [hrd]; simp [List.getD, hwn]
            have hnn : noneP ws rd = false := noneP_false (by rw [hrl]; exact HI.out.len.symm) hrw (by omega)
            have hiw := whoF_is (pat := x1) (want := y1) hnn
            have hww : whoF ws rd x1 y1 = who := hro _ hiw.ready
            rw [hww] at hiw
            have Hpk := Lib.hid (pk_who hnn hiw)
            have hwl := HI.out.len
            have hp0 := pick_any b g gR n (some ⟨gR, 0, none⟩) ws rd x1 y1 _ W4 hS4 HQ.out.1 (by omega) (by omega) (.inr ⟨0, rfl, hR4.lt, fun j u hu => by rw [Nat.zero_add, hR4.cell j]; simpa [ob] using hu⟩) (by omega) HI.out.bd (by omega)
            rw [hrl] at hp0
            have Hp := Lib.hid hp0
            have hO5 : Only (fun i => w.heap.size ≤ i) w W4 := HI.out.only.trans' hO4 (by rintro i hi rfl; have := HI.out.only.size; omega)
            have HF : Hid (At W4 B1 42 #[.int .i64 n, .int .i64 x1] ∧ Only (fun i => w.heap.size ≤ i) w W4 ∧ B1 ≠ g) := ⟨hB1, hO5, HQ.out.2.2.2.1⟩
            have HZ : Hid (∀ i : Nat, i < n → waitI (stepWN ws rd who) i = 0) := by
              intro i hi
              unfold waitI
              rw [if_pos (by omega), Int.toNat_natCast, stepWN_at (by omega)]
              by_cases hc : i = who ∨ rd.getD i false = false
              · rw [if_pos hc]
              · rw [not_or] at hc
                exact absurd (hro i (by simpa using hc.2)) hc.1
            obtain ⟨i0, hi0, hz0, hz1, hz2⟩ := info_parts Try.info4
            have hmk := fun W => run_make_one (P := Try.prog) Try.underlying33 hi0 hz0 rfl hz1 n (by rw [hz2]; omega) (by omega) W
            have j1 : (0 : Int) ≤ (who : Int) := by omega
            have j2 : (who : Int) < (n : Int) := by omega
            have j3 : ¬ (y0 < 0) := by omega
            clear hp0 hrd hro hrw hnn hiw hww hwl hO5 hB1 hB2 hS4 hR4 hR0 hO3 hO4 hrl
            rw [hgR] at f1 f2 Hp
            rw [hW3] at f1 f2 c3 c4
            rw [hW4] at c5 Hp HF
            have HG : Hid (b < gR ∧ g < gR ∧ B1 < gR ∧ B2 < gR) := hlts
            clear hW3 hW4 hgR hlts hO4'
            clear HI
            go_wp2_with (fail)
            refine Hp.out.mono ?_
            unfold PkPost
            rw [Hpk.out]
            rintro e wx ⟨rfl, hSx, hOx⟩
            have HSx := Lib.hid hSx
            have HBx : Hid (At wx B1 42 #[.int .i64 n, .int .i64 x1]) := HF.out.1.only hOx HF.out.2.2
            have HOx : Hid (Only (fun i => w.heap.size ≤ i) w wx) := HF.out.2.1.trans' hOx (by rintro i hi rfl; exact HQ.out.2.1)
            have e1 : ((who : Int) != (who : Int)) = false := by simp
            clear hSx hOx Hp HF Hpk f1 f2 c1 c3 c4 c5 hmk
            go_wp2
            obtain ⟨wq, rfl⟩ : ∃ wq : World, wq = wx := ⟨_, rfl⟩
            go_loopw [15] (fun v wr => ∃ i : Nat, i ≤ n ∧ v = .int .i64 i ∧ Only (fun _ => False) wq wr) (fun v _ => n - (intOf v).toNat)
            case atStart => exact ⟨0, by omega, rfl, Only.refl _ _⟩
            case round =>
              obtain ⟨i, hi, rfl, hOz⟩ := hrel
              have cb := (HBx.out.only hOz id).cell 0
              simp at cb
              have HOz := Lib.hid hOz
              clear hOz
              by_cases h5 : i < n
              · have Hw1 := Lib.hid (waits_any b g (stepWN ws rd who) x1 i _ (HSx.out.only HOz.out id id))
                rw [HZ.out i h5] at Hw1
                go_wp2_with (fail)
                refine Hw1.out.mono ?_
                rintro e wa ⟨rfl, hOa⟩
                have HOa := Lib.hid (HOz.out.trans hOa)
                clear hOa Hw1 HOz cb
                go_wp2
                go_roundw
                case rel => exact ⟨i + 1, by omega, by simp, HOa.out⟩
                case measure => simp [intOf]; omega
              · go_wp2
                go_ret
                exact ⟨rfl, (HOx.out.trans (HOz.out.toOld _)).below (Nat.le_refl _) (fun i hi h => by omega)⟩
          · have HI := Lib.hid hI
            clear hI
            have hn0 : ¬ n = 0 := by omega
            have hni : (0 : Int) < (n : Int) := by omega
            obtain ⟨who, hwho⟩ := Int.eq_ofNat_of_zero_le (Int.emod_nonneg y0 (show (n : Int) ≠ 0 by omega))
            have hwn : who < n := by have := Int.emod_lt_of_pos y0 hni; omega
            obtain ⟨gR, hgR⟩ : ∃ gR, gR = wr.heap.size := ⟨_, rfl⟩
            obtain ⟨W3, hW3⟩ : ∃ W3, W3 = wr.alloc (.cells (zeros (.bool false) n) 4) := ⟨_, rfl⟩
            have hR0 : At W3 gR 4 (ob (List.replicate n false)) := by rw [hW3, hgR, ob_zero]; exact At.new wr 4 _
            have hO3 : Only (fun _ => False) wr W3 := by rw [hW3]; exact (Only.refl _ _).alloc _
            have c1 := HI.out.b1.cell 0
            have c3 := (HI.out.b2.only hO3 id).cell 0
            have c4 := (HI.out.b1.only hO3 id).cell 0
            simp at c1 c3 c4
            have f1 := hR0.frozen who
            have f2 := hR0.cell who
            rw [ob_get (by simpa using hwn)] at f2
            simp only [List.getElem_replicate] at f2
            have hlts : b < gR ∧ g < gR ∧ B1 < gR ∧ B2 < gR := by rw [hgR]; exact ⟨HI.out.s.st.lt, HI.out.s.row.lt, HI.out.b1.lt, HI.out.b2.lt⟩
            obtain ⟨W4, hW4⟩ : ∃ W4, W4 = wr.alloc (.cells ((zeros (.bool false) n).setIfInBounds who (.bool true)) 4) := ⟨_, rfl⟩
            have hO4' : Only (fun _ => False) wr W4 := by rw [hW4]; exact (Only.refl _ _).alloc _
            have hO4 : Only (fun i => i = gR) wr W4 := hO4'.mono fun _ _ h => h.elim
            have hR4 : At W4 gR 4 (ob ((List.replicate n false).set who true)) := by
              rw [hW4, hgR, ← ob_set, ob_zero]; exact At.new wr 4 _
            have hB1 := HI.out.b1.only hO4 (by omega)
            have hB2 := HI.out.b2.only hO4 (by omega)
            have hS4 := HI.out.s.only hO4 (by omega) (by omega)
            have c5 := hB2.cell 1
            simp at c5
            obtain ⟨rd, hrd⟩ : ∃ rd, rd = (List.replicate n false).set who true := ⟨_, rfl⟩
            rw [← hrd] at hR4
            have hrl : rd.length = n := by rw [hrd]; simp
            have hro : ∀ i, rd.getD i false = true → i = who := by
              intro i hi
              rw [hrd] at hi
              simp only [List.getD, List.getElem?_set] at hi
              split at hi
              · omega
              · simp only [List.getElem?_replicate] at hi; split at hi <;> simp at hi
            have hrw : rd.getD who false = true := by rw [hrd]; simp [List.getD, hwn]
            have hnn : noneP ws rd = false := noneP_false (by rw [hrl]; exact HI.out.len.symm) hrw (by omega)
            have hiw := whoF_is (pat := x1) (want := y1) hnn
            have hww : whoF ws rd x1 y1 = who := hro _ hiw.ready
            rw [hww] at hiw
            have Hpk := Lib.hid (pk_who hnn hiw)
            have hwl := HI.out.len
            have hp0 := pick_any b g gR n (some ⟨gR, 0, none⟩) ws rd x1 y1 _ W4 hS4 HQ.out.1 (by omega) (by omega) (.inr ⟨0, rfl, hR4.lt, fun j u hu => by rw [Nat.zero_add, hR4.cell j]; simpa [ob] using hu⟩) (by omega) HI.out.bd (by omega)
            rw [hrl] at hp0
            have Hp := Lib.hid hp0
            have hO5 : Only (fun i => w.heap.size ≤ i) w W4 := HI.out.only.trans' hO4 (by rintro i hi rfl; have := HI.out.only.size; omega)
            have HF : Hid (At W4 B1 42 #[.int .i64 n, .int .i64 x1] ∧ Only (fun i => w.heap.size ≤ i) w W4 ∧ B1 ≠ g) := ⟨hB1, hO5, HQ.out.2.2.2.1⟩
            have HZ : Hid (∀ i : Nat, i < n → waitI (stepWN ws rd who) i = 0) := by
              intro i hi
              unfold waitI
              rw [if_pos (by omega), Int.toNat_natCast, stepWN_at (by omega)]
              by_cases hc : i = who ∨ rd.getD i false = false
              · rw [if_pos hc]
              · rw [not_or] at hc
                exact absurd (hro i (by simpa using hc.2)) hc.1
            obtain ⟨i0, hi0, hz0, hz1, hz2⟩ := info_parts Try.info4
            have hmk := fun W => run_make_one (P := Try.prog) Try.underlying33 hi0 hz0 rfl hz1 n (by rw [hz2]; omega) (by omega) W
            have j1 : (0 : Int) ≤ (who : Int) := by omega
            have j2 : (who : Int) < (n : Int) := by omega
            have j3 : ¬ (y0 < 0) := by omega
            clear hp0 hrd hro hrw hnn hiw hww hwl hO5 hB1 hB2 hS4 hR4 hR0 hO3 hO4 hrl
            rw [hgR] at f1 f2 Hp
            rw [hW3] at f1 f2 c3 c4
            rw [hW4] at c5 Hp HF
            have HG : Hid (b < gR ∧ g < gR ∧ B1 < gR ∧ B2 < gR) := hlts
            clear hW3 hW4 hgR hlts hO4'
            clear HI
            go_wp2_with (fail)
            refine Hp.out.mono ?_
            unfold PkPost
            rw [Hpk.out]
            rintro e wx ⟨rfl, hSx, hOx⟩
            have HSx := Lib.hid hSx
            have HBx : Hid (At wx B1 42 #[.int .i64 n, .int .i64 x1]) := HF.out.1.only hOx HF.out.2.2
            have HOx : Hid (Only (fun i => w.heap.size ≤ i) w wx) := HF.out.2.1.trans' hOx (by rintro i hi rfl; exact HQ.out.2.1)
            have e1 : ((who : Int) != (who : Int)) = false := by simp
            clear hSx hOx Hp HF Hpk f1 f2 c1 c3 c4 c5 hmk
            go_wp2
            obtain ⟨wq, rfl⟩ : ∃ wq : World, wq = wx := ⟨_, rfl⟩
            go_loopw [15] (fun v wr => ∃ i : Nat, i ≤ n ∧ v = .int .i64 i ∧ Only (fun _ => False) wq wr) (fun v _ => n - (intOf v).toNat)
            case atStart => exact ⟨0, by omega, rfl, Only.refl _ _⟩
            case round =>
              obtain ⟨i, hi, rfl, hOz⟩ := hrel
              have cb := (HBx.out.only hOz id).cell 0
              simp at cb
              have HOz := Lib.hid hOz
              clear hOz
              by_cases h5 : i < n
              · have Hw1 := Lib.hid (waits_any b g (stepWN ws rd who) x1 i _ (HSx.out.only HOz.out id id))
                rw [HZ.out i h5] at Hw1
                go_wp2_with (fail)
                refine Hw1.out.mono ?_
                rintro e wa ⟨rfl, hOa⟩
                have HOa := Lib.hid (HOz.out.trans hOa)
                clear hOa Hw1 HOz cb
                go_wp2
                go_roundw
                case rel => exact ⟨i + 1, by omega, by simp, HOa.out⟩
                case measure => simp [intOf]; omega
              · go_wp2
                go_ret
                exact ⟨rfl, (HOx.out.trans (HOz.out.toOld _)).below (Nat.le_refl _) (fun i hi h => by omega)⟩
  · have HB := Lib.hid hb
    clear hb
    go_wp2_with (fail)
    refine (new_bad x0 x1 w0 HB.out).mono ?_
    rintro e w1 ⟨rfl, rfl⟩
    go_wp2
    go_ret
    exact ⟨rfl, HO0.out.below (Nat.le_refl _) (fun i hi h => by omega)⟩
end Go.Proofs.Ytcbgobgicknhiaa
