/- Ring: Find, Get. -/
import Derived.Test.YtookghkfghdadaaH
import Derived.Laws.ResultCell
namespace Go.Proofs.Ytookghkfghdadaa
open Go.RowKit

def slotOf (l : List RC) (p : Nat) : Sl := (l.getD (p % l.length) RC.zero).x
def fd (ok : Nat → Bool) (t : Nat) : Nat → Option Nat
  | 0 => none
  | p + 1 => if t ≤ p then (if ok p = true then some p else fd ok t p) else none
theorem fd_congr {ok ok' : Nat → Bool} {t k : Nat} (h : ∀ p, p < k → ok p = ok' p) : fd ok t k = fd ok' t k := by
  induction k with
  | zero => rfl
  | succ k ih =>
    simp only [fd]
    rw [h k (by omega), ih (fun p hp => h p (by omega))]
def okAt (l : List RC) (lba : Int) (p : Nat) : Bool := (slotOf l p).l == lba && decide ((slotOf l p).f < 0)
def foundV (o : Option Nat) : Value := match o with
  | some p => .tuple #[.int .i64 p, .bool true]
  | none => .tuple #[.int .i64 0, .bool false]

theorem RgAt.slot {w : World} {b g t h : Nat} {l : List RC} (k : RgAt w b g t h l) (p : Nat) : ∃ (A : Option Addr) (c gp : Nat) (z : Int), RowAt w A (slotOf l p).data.length c gp 5 1 (bv (slotOf l p).data) ∧ (slotOf l p).data.length ≤ 1000000 ∧
    w.cell? ⟨g, p % l.length * 6, none⟩ = some (.int .i64 (slotOf l p).k) ∧ w.cell? ⟨g, p % l.length * 6 + 1, none⟩ = some (.int .i64 (slotOf l p).l) ∧ w.cell? ⟨g, p % l.length * 6 + 2, none⟩ = some (.int .i64 (slotOf l p).s) ∧
    w.cell? ⟨g, p % l.length * 6 + 3, none⟩ = some (.slice A (slotOf l p).data.length c) ∧ w.cell? ⟨g, p % l.length * 6 + 4, none⟩ = some (.int .i64 (slotOf l p).f) := by
  have h1 := k.qlt p
  have e : slotOf l p = l[p % l.length].x := by simp [slotOf, List.getD, h1]
  have ho := k.ok _ (List.getElem_mem h1)
  rw [e]
  exact ⟨_, _, _, 0, ho.row, ho.len, k.cell _ 0 h1 (by omega), k.cell _ 1 h1 (by omega), k.cell _ 2 h1 (by omega), k.cell _ 3 h1 (by omega), k.cell _ 4 h1 (by omega)⟩

set_option maxRecDepth 100000 in
set_option maxHeartbeats 4000000 in
theorem find_any (b g t h : Nat) (l : List RC) (lba : Int) (w : World) (k : RgAt w b g t h l) :
    Calls Try.prog 25 #[.pointer (some ⟨b, 0, none⟩), .int .i64 lba] w fun e w' => e = .returned (foundV (fd (okAt l lba) t h)) ∧ Only (fun _ => False) w w' := by
  have c2 : w.cell? ⟨b, 2, none⟩ = some (.int .i64 h) := k.st.cell 2
  have hpos := k.pos
  have HK0 := Lib.hid k
  clear k
  go_enter Try.func25, Try.ntmps25
  go_wp2_with (fail)
  go_loopw [6] (fun v wr => ∃ p : Nat, t ≤ p ∧ p ≤ h ∧ v = .int .i64 ((p : Int) - 1) ∧ fd (okAt l lba) t h = fd (okAt l lba) t p ∧ Only (fun _ => False) w wr) (fun v wr => (intOf v + 1).toNat)
  case atStart => exact ⟨h, by omega, by omega, rfl, rfl, Only.refl _ _⟩
  case round =>
    obtain ⟨p, hp1, hp2, rfl, hf, hO⟩ := hrel
    have HK := Lib.hid (HK0.out.quiet hO)
    have HO := Lib.hid hO
    have HF := Lib.hid hf
    have c1 : wr.cell? ⟨b, 1, none⟩ = some (.int .i64 t) := HK.out.st.cell 1
    clear hO hf c2
    by_cases hpt : t < p
    · obtain ⟨m, rfl⟩ : ∃ m, p = m + 1 := ⟨p - 1, by omega⟩
      have e1 : ((m + 1 : Nat) : Int) - 1 = m := by omega
      rw [e1]
      have i1 : (t : Int) ≤ m := by omega
      have hfs : fd (okAt l lba) t (m + 1) = if okAt l lba m = true then some m else fd (okAt l lba) t m := by simp only [fd]; rw [if_pos (by omega)]
      have HFS := Lib.hid (HF.out.trans hfs)
      have HAt := Lib.hid (at_any b g t h l m wr HK.out (by omega))
      clear hfs
      go_wp2_with (fail)
      refine HAt.out.mono ?_
      rintro e w1 ⟨rfl, hO1⟩
      obtain ⟨A, c, gp, _, hrow, hdl, d0, d1, d2, d3, d4⟩ := (HK.out.quiet hO1).slot m
      have HO1 := Lib.hid (HO.out.trans hO1)
      unfold okAt at HFS
      obtain ⟨x, hx⟩ : ∃ x, slotOf l m = x := ⟨_, rfl⟩
      rw [hx] at d0 d1 d2 d3 d4 HFS
      clear hx hrow hdl hO1 HAt
      obtain ⟨xk, xl, xs, xf, xd⟩ := x
      simp only at d0 d1 d2 d3 d4 HFS
      generalize m % l.length * 6 = q at *
      by_cases hl : xl = lba
      · subst hl
        by_cases hfz : xf < 0
        · have hr : fd (fun p => (slotOf l p).l == xl && decide ((slotOf l p).f < 0)) t h = some m := by have := HFS.out; simpa [hfz] using this
          have HR := Lib.hid hr
          clear hr HFS
          go_wp2
          go_ret2
          refine ⟨?_, HO1.out.alloc _⟩
          show _ = Ending.returned (foundV (fd (fun p => (slotOf l p).l == xl && decide ((slotOf l p).f < 0)) t h))
          rw [HR.out]
          rfl
        · have hr : fd (fun p => (slotOf l p).l == xl && decide ((slotOf l p).f < 0)) t h = fd (fun p => (slotOf l p).l == xl && decide ((slotOf l p).f < 0)) t m := by have := HFS.out; simpa [hfz] using this
          have HR := Lib.hid hr
          have hfz' : decide (xf < 0) = false := by simp; omega
          clear hr HFS
          go_wp2
          go_roundw
          case rel => exact ⟨m, by omega, by omega, rfl, HR.out, HO1.out.alloc _⟩
          case measure => simp [intOf]; try omega
      · have hr : fd (fun p => (slotOf l p).l == lba && decide ((slotOf l p).f < 0)) t h = fd (fun p => (slotOf l p).l == lba && decide ((slotOf l p).f < 0)) t m := by have := HFS.out; simpa [hl] using this
        have HR := Lib.hid hr
        have hl' : (xl == lba) = false := beq_false_of_ne hl
        clear hr HFS
        go_wp2
        go_roundw
        case rel => exact ⟨m, by omega, by omega, rfl, HR.out, HO1.out.alloc _⟩
        case measure => simp [intOf]; try omega
    · have hpe : p = t := by omega
      have hn : fd (okAt l lba) t p = none := by
        rw [hpe]
        cases t with
        | zero => rfl
        | succ t => simp only [fd]; rw [if_neg (by omega)]
      have HR := Lib.hid (HF.out.trans hn)
      have i1 : ¬ (t : Int) ≤ (p : Int) - 1 := by omega
      have i2 : decide ((t : Int) ≤ (p : Int) - 1) = false := by simp; omega
      clear hn hpe
      go_wp2
      go_ret2
      rw [HR.out]
      exact ⟨rfl, HO.out⟩

theorem results_row_tmp {P : Program} {fn : Func} {p u : Tmp} {ty : TypeId} (h : fn.results = #[.cell p ty, .tmp u]) (tmps : Array Value) (w : World) (g : Nat) (t : TypeId) (cs : Array Value) (fr : Nat × Nat) (d : TypeDesc)
    (hp : tmps.getD p undef = .pointer (some ⟨g, 0, none⟩)) (hg : w.heap[g]? = some (.cells cs t fr))
    (hu : P.underlying ty = some d) (hd : (match d with | .struct _ | .array _ _ => true | _ => false) = true) (hi : (P.info? ty).map (·.size) = some cs.size) :
    (results fn tmps).run P w = .ok (.tuple #[.agg cs, tmps.getD u undef]) w := by
  rw [results_cell_tmp h, hp]
  simp [asAddr, run_loadVar_row w g t ty cs fr d hg hu hd hi, Result.andThen]

def zeroSlot : Value := .agg #[.int .i64 0, .int .i64 0, .int .i64 0, .slice none 0 0, .int .i64 0]

set_option maxHeartbeats 2000000 in
theorem get_no (b g t h : Nat) (l : List RC) (p : Int) (w : World) (k : RgAt w b g t h l) (hp : p < t ∨ h ≤ p) :
    Calls Try.prog 20 #[.pointer (some ⟨b, 0, none⟩), .int .i64 p] w fun e w' => e = .returned (.tuple #[zeroSlot, .int .i64 12]) ∧ Only (fun _ => False) w w' := by
  have k1 := k.quiet ((Only.refl (fun _ => False) w).alloc (.cells #[.int .i64 0, .int .i64 0, .int .i64 0, .slice none 0 0, .int .i64 0] 37))
  have c1 := k1.st.cell 1
  have c2 := k1.st.cell 2
  simp at c1 c2
  have hp : p < t ∨ ((t : Int) ≤ p ∧ (h : Int) ≤ p) := by omega
  clear k k1
  rcases hp with hp | ⟨hp, hp'⟩
  all_goals
    go_enter Try.func20, Try.ntmps20
    go_wp2
    refine bodyPost_ret (v := .tuple #[zeroSlot, .int .i64 12]) (results_row_tmp (p := 4) (u := 5) (ty := 37) rfl _ _ w.heap.size 37 #[.int .i64 0, .int .i64 0, .int .i64 0, .slice none 0 0, .int .i64 0] (0, 0) _ rfl (At.new _ _ _) Try.underlying37 rfl (by kernel_rfl)) rfl ?_
    exact ⟨rfl, (Only.refl _ _).alloc _⟩

def GetPost (x : Sl) (w : World) (e : Ending) (w' : World) : Prop :=
  ∃ A' c' gp, e = .returned (.tuple #[x.val A' c', .int .i64 0]) ∧ RowAt w' A' x.data.length c' gp 5 1 (bv x.data) ∧ A' ≠ none ∧ w.heap.size ≤ gp ∧ Only (fun _ => False) w w'

theorem only_slot (w2 : World) (x : Nat) (a b c e : Int) (v : Value) : Only (fun i => i = x) w2 (((((w2.setCell ⟨x, 0, none⟩ (.int .i64 a)).setCell ⟨x, 1, none⟩ (.int .i64 b)).setCell ⟨x, 2, none⟩ (.int .i64 c)).setCell ⟨x, 3, none⟩ v).setCell ⟨x, 4, none⟩ (.int .i64 e)) := by
  refine Only.setCell (S := fun i => i = x) (p := ⟨x, 4, none⟩) ?_ (fun _ => rfl) _
  refine Only.setCell (S := fun i => i = x) (p := ⟨x, 3, none⟩) ?_ (fun _ => rfl) _
  refine Only.setCell (S := fun i => i = x) (p := ⟨x, 2, none⟩) ?_ (fun _ => rfl) _
  refine Only.setCell (S := fun i => i = x) (p := ⟨x, 1, none⟩) ?_ (fun _ => rfl) _
  refine Only.setCell (S := fun i => i = x) (p := ⟨x, 0, none⟩) ?_ (fun _ => rfl) _
  exact Only.refl _ _

set_option maxRecDepth 100000 in
set_option maxHeartbeats 4000000 in
theorem get_in (b g t h : Nat) (l : List RC) (p : Nat) (w : World) (k : RgAt w b g t h l) (hp : t ≤ p ∧ p < h) :
    Calls Try.prog 20 #[.pointer (some ⟨b, 0, none⟩), .int .i64 p] w (GetPost (slotOf l p) w) := by
  have hOB := (Only.refl (fun _ => False) w).alloc (.cells #[.int .i64 0, .int .i64 0, .int .i64 0, .slice none 0 0, .int .i64 0] 37)
  have k1 := k.quiet hOB
  have c1 := k1.st.cell 1
  have c2 := k1.st.cell 2
  simp at c1 c2
  have hpos := k.pos
  have j1 : (t : Int) ≤ p := by omega
  have j2 : (p : Int) < h := by omega
  have HK1 := Lib.hid k1
  have HOB := Lib.hid hOB
  have HZ := Lib.hid (At.new w 37 #[.int .i64 0, .int .i64 0, .int .i64 0, .slice none 0 0, .int .i64 0])
  have HAt := Lib.hid (at_any b g t h l p _ k1 (by omega))
  clear k k1 hOB
  go_enter Try.func20, Try.ntmps20
  go_wp2_with (fail)
  refine HAt.out.mono ?_
  rintro e w1 ⟨rfl, hO1⟩
  obtain ⟨A, c, gp0, _, hrow, hdl, d0, d1, d2, d3, d4⟩ := (HK1.out.quiet hO1).slot p
  have HOw := Lib.hid (own_any (slotOf l p) A c gp0 w1 hrow.rd hdl)
  have HO1 := Lib.hid (HOB.out.trans hO1)
  have HZ1 := Lib.hid (HZ.out.only hO1 id)
  have hsz := hO1.size
  clear hrow hO1 HAt
  unfold GetPost
  generalize slotOf l p = x at *
  go_wp2_with (fail)
  refine HOw.out.mono ?_
  rintro e w2 ⟨A', c', gp, rfl, hr2, hA2, hg2, hO2⟩
  have HR2 := Lib.hid hr2
  have HO2 := Lib.hid hO2
  have HZ2 := Lib.hid (HZ1.out.only hO2 id)
  have z0 := HZ2.out.frozen 0
  have y0 := HZ2.out.cell 0
  have z1 := HZ2.out.frozen 1
  have y1 := HZ2.out.cell 1
  have z2 := HZ2.out.frozen 2
  have y2 := HZ2.out.cell 2
  have z3 := HZ2.out.frozen 3
  have y3 := HZ2.out.cell 3
  have z4 := HZ2.out.frozen 4
  have y4 := HZ2.out.cell 4
  simp at y0 y1 y2 y3 y4
  clear hr2 hO2
  simp only [Sl.val]
  go_wp2
  have hk := fun v => only_slot w2 w.heap.size x.k x.l x.s x.f v
  refine bodyPost_ret (v := .tuple #[x.val A' c', .int .i64 0])
    (results_row_tmp (p := 4) (u := 5) (ty := 37) rfl _ _ w.heap.size 37 #[.int .i64 x.k, .int .i64 x.l, .int .i64 x.s, .slice A' x.data.length c', .int .i64 x.f] (0, 0) _ rfl (((((HZ2.out.set 0 _).set 1 _).set 2 _).set 3 _).set 4 _) Try.underlying37 rfl (by kernel_rfl)) rfl ?_
  have hg2' : w.heap.size + 1 ≤ gp := by simp at hsz; omega
  exact ⟨A', c', gp, rfl, HR2.out.only (hk _) (fun _ => by omega), hA2, by omega, (HO1.out.trans HO2.out).trans' (hk _) (fun i hi h => by omega)⟩
end Go.Proofs.Ytookghkfghdadaa
