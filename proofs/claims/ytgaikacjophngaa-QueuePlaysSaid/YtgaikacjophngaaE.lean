/- Queue: First, Pop. -/
import Derived.Test.YtgaikacjophngaaD
import Derived.Laws.ResultCell
namespace Go.Proofs.Ytgaikacjophngaa
open Go.RowKit

theorem results_row_tmp {P : Program} {fn : Func} {p u : Tmp} {ty : TypeId} (h : fn.results = #[.cell p ty, .tmp u]) (tmps : Array Value) (w : World) (g : Nat) (t : TypeId) (cs : Array Value) (fr : Nat × Nat) (d : TypeDesc)
    (hp : tmps.getD p undef = .pointer (some ⟨g, 0, none⟩)) (hg : w.heap[g]? = some (.cells cs t fr))
    (hu : P.underlying ty = some d) (hd : (match d with | .struct _ | .array _ _ => true | _ => false) = true) (hi : (P.info? ty).map (·.size) = some cs.size) :
    (results fn tmps).run P w = .ok (.tuple #[.agg cs, tmps.getD u undef]) w := by
  rw [results_cell_tmp h, hp]
  simp [asAddr, run_loadVar_row w g t ty cs fr d hg hu hd hi, Result.andThen]

def zeroJob : Value := .agg #[.int .i64 0, .int .i64 0, .int .i64 0, .int .i64 0, .slice none 0 0]

def isIn (chans : Nat) (q : Nat → QRow) (n : Int) : Prop := 0 ≤ n ∧ n < chans ∧ (q n.toNat).js ≠ []

theorem len_zero (b chans : Nat) (q : Nat → QRow) (n : Int) (hn : ¬ isIn chans q n) (w : World) (h : QAt w b chans q) :
    Calls Try.prog 12 #[.pointer (some ⟨b, 0, none⟩), .int .i64 n] w fun e w' => e = .returned (.int .i64 0) ∧ w' = w := by
  by_cases h0 : n < 0 ∨ (chans : Int) ≤ n
  · exact len_out b chans q n h0 w h
  · obtain ⟨m, rfl⟩ : ∃ m : Nat, n = m := ⟨n.toNat, by omega⟩
    have hm : m < chans := by omega
    have he : (q m).js = [] := by
      rcases hj : (q m).js with _ | ⟨x, t⟩
      · rfl
      · exact absurd ⟨by omega, by omega, by simp [hj]⟩ hn
    have := len_in b chans q m hm w h
    rw [he] at this
    exact this

set_option maxHeartbeats 2000000 in
theorem first_none (b chans : Nat) (q : Nat → QRow) (n : Int) (hn : ¬ isIn chans q n) (w : World) (h : QAt w b chans q) :
    Calls Try.prog 13 #[.pointer (some ⟨b, 0, none⟩), .int .i64 n] w fun e w' => e = .returned (.tuple #[zeroJob, .bool false]) ∧ Only (fun _ => False) w w' := by
  have hL := len_zero b chans q n hn (w.alloc (.cells #[.int .i64 0, .int .i64 0, .int .i64 0, .int .i64 0, .slice none 0 0] 31)) (h.quiet ((Only.refl _ _).alloc _))
  have HL := Lib.hid hL
  clear hL h hn
  go_enter Try.func13, Try.ntmps13
  go_wp2_with (fail)
  refine HL.out.mono ?_
  rintro e w1 ⟨rfl, rfl⟩
  go_wp2
  refine bodyPost_ret (v := .tuple #[zeroJob, .bool false]) (results_row_tmp (p := 4) (u := 5) (ty := 31) rfl _ _ w.heap.size 31 #[.int .i64 0, .int .i64 0, .int .i64 0, .int .i64 0, .slice none 0 0] (0, 0) _ rfl (At.new _ _ _) Try.underlying31 rfl (by kernel_rfl)) rfl ?_
  exact ⟨rfl, (Only.refl _ _).alloc _⟩

def FirstPost (j : Jb) (w : World) (e : Ending) (w' : World) : Prop :=
  ∃ A c gp, e = .returned (.tuple #[.agg #[.int .i64 j.k, .int .i64 j.l, .int .i64 j.u, .int .i64 j.p, .slice A j.pos.length c], .bool true]) ∧ RowAt w' A j.pos.length c gp 3 1 (iv j.pos) ∧ A ≠ none ∧ w.heap.size ≤ gp ∧ Only (fun _ => False) w w'

set_option maxHeartbeats 2000000 in
theorem first_some (b chans : Nat) (q : Nat → QRow) (n : Nat) (hn : n < chans) (s : SJ) (r : List SJ) (hj : (q n).js = s :: r) (w : World) (h : QAt w b chans q) (hl : (q n).js.length ≤ 100000) :
    Calls Try.prog 13 #[.pointer (some ⟨b, 0, none⟩), .int .i64 n] w (FirstPost s.j w) := by
  have h4 := h.hc.2
  have HQ := Lib.hid (h.quiet ((Only.refl _ _).alloc (.cells #[.int .i64 0, .int .i64 0, .int .i64 0, .int .i64 0, .slice none 0 0] 31)))
  have HZ := Lib.hid (At.new w 31 #[.int .i64 0, .int .i64 0, .int .i64 0, .int .i64 0, .slice none 0 0])
  have HL := Lib.hid (len_in b chans q n hn _ HQ.out)
  have hc := HQ.out.cell n (by omega)
  have hrow := HQ.out.row n (by omega)
  have hok := HQ.out.ok n (by omega) s (by rw [hj]; simp)
  have hn4 : (n : Int) < 4 := by omega
  have hlen : (q n).js.length = r.length + 1 := by rw [hj]; simp
  have hlz : ((((q n).js.length : Nat) : Int) == 0) = false := beq_false_of_ne (by omega)
  simp only [QRow.val] at hc
  have hrd := hrow.rd
  rw [hj, jv_cons] at hrd
  obtain ⟨off, hA, hlt, hget⟩ := hrd.at (by simp [SJ.cells])
  have d0 := hget 0 _ rfl
  have d1 := hget 1 _ rfl
  have d2 := hget 2 _ rfl
  have d3 := hget 3 _ rfl
  have d4 := hget 4 _ rfl
  rw [hA] at hc
  simp only [Nat.add_zero] at d0
  have hpos : 0 < (q n).js.length := by omega
  generalize (q n).js.length = m at *
  have HO := Lib.hid (own_any s.j.k s.j.l s.j.u s.j.p s.j.pos s.A s.c s.gp _ hok.row.rd hok.len)
  clear hrd hget hok hrow hj h
  go_enter Try.func13, Try.ntmps13
  go_wp2_with (fail)
  refine HL.out.mono ?_
  rintro e w1 ⟨rfl, rfl⟩
  go_wp2_with (fail)
  refine HO.out.mono ?_
  rintro e w2 ⟨A', c', gp, rfl, hr2, hA2, hg2, hO2⟩
  have HR2 := Lib.hid hr2
  have HO2 := Lib.hid hO2
  have HZ2 := Lib.hid (HZ.out.only hO2 id)
  have z0 := HZ2.out.frozen 0
  have y0 := HZ2.out.cell 0
  have z1 := HZ2.out.frozen 1
  have y1 := HZ2.out.cell 1
  have z2 := HZ2.out.frozen 2
  have y2 := HZ2.out.cell 2
  have z3 := HZ2.out.frozen 3
  have y3 := HZ2.out.cell 3
  have z4 := HZ2.out.frozen 4
  have y4 := HZ2.out.cell 4
  simp at y0 y1 y2 y3 y4
  clear hr2 hO2
  go_wp2
  have hk : ∀ v, Only (fun i => i = w.heap.size) w2 (((((w2.setCell ⟨w.heap.size, 0, none⟩ (.int .i64 s.j.k)).setCell ⟨w.heap.size, 1, none⟩ (.int .i64 s.j.l)).setCell ⟨w.heap.size, 2, none⟩ (.int .i64 s.j.u)).setCell ⟨w.heap.size, 3, none⟩ (.int .i64 s.j.p)).setCell ⟨w.heap.size, 4, none⟩ v) := by
    intro v
    refine Only.setCell (S := fun i => i = w.heap.size) (p := ⟨w.heap.size, 4, none⟩) ?_ (fun _ => rfl) _
    refine Only.setCell (S := fun i => i = w.heap.size) (p := ⟨w.heap.size, 3, none⟩) ?_ (fun _ => rfl) _
    refine Only.setCell (S := fun i => i = w.heap.size) (p := ⟨w.heap.size, 2, none⟩) ?_ (fun _ => rfl) _
    refine Only.setCell (S := fun i => i = w.heap.size) (p := ⟨w.heap.size, 1, none⟩) ?_ (fun _ => rfl) _
    refine Only.setCell (S := fun i => i = w.heap.size) (p := ⟨w.heap.size, 0, none⟩) ?_ (fun _ => rfl) _
    exact Only.refl _ _
  refine bodyPost_ret (v := .tuple #[.agg #[.int .i64 s.j.k, .int .i64 s.j.l, .int .i64 s.j.u, .int .i64 s.j.p, .slice A' s.j.pos.length c'], .bool true])
    (results_row_tmp (p := 4) (u := 5) (ty := 31) rfl _ _ w.heap.size 31 #[.int .i64 s.j.k, .int .i64 s.j.l, .int .i64 s.j.u, .int .i64 s.j.p, .slice A' s.j.pos.length c'] (0, 0) _ rfl (((((HZ2.out.set 0 _).set 1 _).set 2 _).set 3 _).set 4 _) Try.underlying31 rfl (by kernel_rfl)) rfl ?_
  have hg2' : w.heap.size + 1 ≤ gp := by simpa using hg2
  exact ⟨A', c', gp, rfl, HR2.out.only (hk _) (fun _ => by omega), hA2, by omega, (((Only.refl (fun _ => False) w).alloc _).trans HO2.out).trans' (hk _) (fun i hi h => by omega)⟩
end Go.Proofs.Ytgaikacjophngaa
