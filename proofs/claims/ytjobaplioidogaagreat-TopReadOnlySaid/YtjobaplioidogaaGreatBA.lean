/- Top: Scan of a device of one sector; the newest of one. -/
import Derived.Test.YtjobaplioidogaaGreatAZ
namespace Go.Proofs.YtjobaplioidogaaGreat
open Go.RowKit

set_option maxRecDepth 100000 in
set_option maxHeartbeats 8000000 in
theorem scan_one (S0 S : Int) (h0 : crcL 0 oobL = S0) (h1 : crcL S0 datL = S) (hS : takeL (S % 256) (S / 256 % 256) (S / 65536 % 256) (S / 16777216 % 256) = S) (d gb mp pp : Nat) (l : List Bk) (A B : Option Addr) (c c' g3 g4 : Nat) (w : World) (k : NAt w d gb mp pp gq l (oneE A B c c') 1) (hr3 : Rd w g3 A (bv datL)) (hr4 : Rd w g4 B (lob S)) :
    Calls Tryz.prog 52 #[.pointer (some ⟨d, 0, none⟩)] w fun e w' => ∃ A1 c1, e = .returned (.tuple #[.slice A1 1 c1, .int .i64 0]) ∧ FoundP w w' A1 c1 ∧ Only (fun _ => False) w w' := by
  have HAL := Lib.hid (fun W (o : Only (fun _ => False) w W) => all_one S0 S h0 h1 hS d gb mp pp l A B c c' g3 g4 W (k.quiet o) (hr3.only o id) (hr4.only o id))
  have hmf : ∀ (fn : Fn) (first cap : Array Value) (w : World), (Instr.makeFunc fn first cap).run Tryz.prog w = .ok (.func fn first cap) w := fun _ _ _ _ => rfl
  clear k h0 h1 hS hr3 hr4
  go_enter_defers Tryz.func52, Tryz.ntmps52
  have HB := Lib.hid (((Only.refl (fun _ => False) w).alloc (.cells #[.slice none 0 0] 127)).alloc (.cells #[.int .i64 0] 41))
  have HA1 := Lib.hid ((At.new w 127 #[.slice none 0 0]).alloc (.cells #[.int .i64 0] 41))
  have HA2 := Lib.hid (At.new (w.alloc (.cells #[.slice none 0 0] 127)) 41 #[.int .i64 0])
  go_wp2_with (fail)
  refine (HAL.out _ HB.out).mono ?_
  rintro e w2 ⟨A1, c1, rfl, hF, hO⟩
  have hs : (w.alloc (.cells #[.slice none 0 0] 127)).heap.size = w.heap.size + 1 := by simp
  have a1 := (HA1.out.only hO id).set 0 (.slice A1 1 c1)
  have a2 := (HA2.out.only hO id)
  rw [hs] at a2
  have f1 := (HA1.out.only hO id).frozen 0
  have f2 := a2.frozen 0
  have b1 := (a1.far (p := ⟨w.heap.size + 1, 0, none⟩) (by simp) (.int .i64 0)).cell 0
  have b2 := ((a2.far (p := ⟨w.heap.size, 0, none⟩) (by simp) (.slice A1 1 c1)).set 0 (.int .i64 0)).cell 0
  have d1 := (HA1.out.only hO id).cell 0
  have d2 := a2.cell 0
  simp only [List.setIfInBounds_toArray, List.set_cons_zero, List.getElem?_toArray, List.getElem?_cons_zero] at b1 b2 d1 d2
  have HO2 := Lib.hid (((HB.out.trans hO).setCell (p := ⟨w.heap.size, 0, none⟩) (fun h => by simp at h) (.slice A1 1 c1)).setCell (p := ⟨w.heap.size + 1, 0, none⟩) (fun h => by simp at h; omega) (.int .i64 0))
  have oo := ((Only.refl (fun i => i < w.heap.size + 2) w2).setCell (p := ⟨w.heap.size, 0, none⟩) (fun _ => by show w.heap.size < _; omega) (.slice A1 1 c1)).setCell (p := ⟨w.heap.size + 1, 0, none⟩) (fun _ => by show w.heap.size + 1 < _; omega) (.int .i64 0)
  obtain ⟨g, p, q, hr1, hq, hc, hr2, hge⟩ := hF
  simp at hge
  have HFF := Lib.hid (show FoundP w _ A1 c1 from ⟨g, p, q, hr1.only oo (by omega), hq, hc, hr2.only oo (by omega), by omega⟩)
  clear hO a1 a2 hs oo hr1 hq hc hr2 hge
  go_wp2
  refine leaves_cons (f := 104) (args := #[.pointer (some ⟨w.heap.size, 0, none⟩), .pointer (some ⟨w.heap.size + 1, 0, none⟩)]) (by simp) (by simp [go_sem]) ?_
  refine (cut_scan _ _ _).mono ?_
  rintro e u' w'' ⟨rfl, rfl, rfl⟩
  simp [Leaves, settle, results, Tryz.results52, go_sem, b1, b2]
  exact ⟨A1, c1, ⟨rfl, rfl⟩, HFF.out, HO2.out⟩

set_option maxRecDepth 100000 in
set_option maxHeartbeats 4000000 in
theorem counts_one (p q : Nat) (w : World) : Calls Tryz.prog 161 #[.agg #[.int .i64 0, .int .i64 1, .int .i64 1, .int .i64 5, .slice (some ⟨p, 0, none⟩) 16 q], .int .i64 2] w fun e w' => e = .returned (.bool true) ∧ Only (fun _ => False) w w' := by
  have hX := At.new w 192 #[.int .i64 0, .int .i64 1, .int .i64 1, .int .i64 5, .slice (some ⟨p, 0, none⟩) 16 q]
  have hX2 := hX.alloc (.cells #[.int .i64 1, .int .i64 1, .int .i64 5] 105)
  have x0 := hX2.cell 0
  have x1 := hX.cell 1
  have x2 := hX.cell 2
  have x3 := hX.cell 3
  have hY : At ((w.alloc (.cells #[.int .i64 0, .int .i64 1, .int .i64 1, .int .i64 5, .slice (some ⟨p, 0, none⟩) 16 q] 192)).alloc (.cells #[.int .i64 1, .int .i64 1, .int .i64 5] 105)) (w.heap.size + 1) 105 #[.int .i64 1, .int .i64 1, .int .i64 5] := At.new' (by simp) 105 _
  have y0 := hY.cell 0
  have y1 := hY.cell 1
  have y2 := hY.cell 2
  simp only [List.getElem?_toArray, List.getElem?_cons_zero, List.getElem?_cons_succ] at x0 x1 x2 x3 y0 y1 y2
  have HO := Lib.hid (((Only.refl (fun _ => False) w).alloc (.cells #[.int .i64 0, .int .i64 1, .int .i64 1, .int .i64 5, .slice (some ⟨p, 0, none⟩) 16 q] 192)).alloc (.cells #[.int .i64 1, .int .i64 1, .int .i64 5] 105))
  clear hX hX2 hY
  go_enter Tryz.func161, Tryz.ntmps161
  go_wp2
  go_ret
  exact ⟨rfl, HO.out⟩

theorem ins_found {W : World} {b ck : Nat} {es : Array MapEntry} {z : Int} {v : Value} (hb : W.heap[b]? = some (.map es ck)) (hf : Instr.findNow (.int .i64) (.int .i64 z) es.toList 0 = some none) :
    (Instr.mapUpdate 189 (.map (some b)) (.int .i64 z) v).run Tryz.prog W = .ok () (wm W b (.map (es.push ⟨.int .i64 z, v, ck⟩) (ck + 1))) := by
  have h1 := MapKept.run_findKey (P := Tryz.prog) (w := W) (kt := 3) Tryz.underlying3 hf
  have h2 : Tryz.prog.underlying 189 = some (.map 3 192) := Tryz.underlying189
  simp only [Instr.mapUpdate, run_underlying h2, MapKept.run_getObj_map hb, check_int Tryz.underlying3, h1, Sem.run_bind, Result.andThen]
  show (setObj b _).run Tryz.prog W = _
  simp only [setObj, Sem.run, hb, wm]
def bestE (p q : Nat) : Array MapEntry := #[⟨.int .i64 1, .agg #[.int .i64 0, .int .i64 1, .int .i64 1, .int .i64 5, .slice (some ⟨p, 0, none⟩) 16 q], 0⟩]

set_option maxRecDepth 100000 in
set_option maxHeartbeats 8000000 in
theorem best_one (A : Option Addr) (c g p q : Nat) (w : World) (hr : Rd w g A (fnd p q)) :
    Calls Tryz.prog 106 #[.slice A 1 c, .int .i64 2] w fun e w' => ∃ b, e = .returned (.map (some b)) ∧ w'.heap[b]? = some (.map (bestE p q) 1) ∧ w.heap.size ≤ b ∧ Only (fun _ => False) w w' := by
  have hmk : ∀ W : World, (Instr.makeMap 189 none).run Tryz.prog W = .ok (.map (some W.heap.size)) (W.alloc (.map #[] 0)) := fun W => rfl
  have HCO := Lib.hid (fun W => counts_one p q W)
  obtain ⟨o, rfl, hglt, hc⟩ := hr.at (by simp [fnd])
  have s0 := hc 0 _ rfl
  have s1 := hc 1 _ rfl
  have s2 := hc 2 _ rfl
  have s3 := hc 3 _ rfl
  have s4 := hc 4 _ rfl
  rw [Nat.add_zero] at s0
  have ob := (Only.refl (fun _ => False) w).alloc (.map #[] 0)
  have t0 := (ob.cell (p := ⟨g, o, none⟩) hglt id).trans s0
  have t1 := (ob.cell (p := ⟨g, o + 1, none⟩) hglt id).trans s1
  have t2 := (ob.cell (p := ⟨g, o + 2, none⟩) hglt id).trans s2
  have t3 := (ob.cell (p := ⟨g, o + 3, none⟩) hglt id).trans s3
  have t4 := (ob.cell (p := ⟨g, o + 4, none⟩) hglt id).trans s4
  have HOB := Lib.hid ob
  have HM : Hid ((w.alloc (.map #[] 0)).heap[w.heap.size]? = some (.map #[] 0)) := Lib.hid (heap_alloc_new _ _)
  clear hc ob s0 s1 s2 s3 s4
  go_enter Tryz.func106, Tryz.ntmps106
  go_wp2_with (fail)
  clear hmk
  go_loopw [7, 8, 9, 20] (fun v7 v8 v9 v20 wr => (v20 = .int .i64 0 ∧ wr = w.alloc (.map #[] 0)) ∨ (v20 = .int .i64 1 ∧ wr.heap[w.heap.size]? = some (.map (bestE p q) 1) ∧ Only (fun _ => False) w wr)) (fun _ _ _ v20 _ => (1 - intOf v20).toNat)
  case atStart => exact .inl ⟨rfl, rfl⟩
  case round =>
    rcases hrel with ⟨rfl, rfl⟩ | ⟨rfl, hm, hO⟩
    · generalize hV : w.alloc (.map #[] 0) = V at *
      have hX := At.new V 192 #[.int .i64 0, .int .i64 1, .int .i64 1, .int .i64 5, .slice (some ⟨p, 0, none⟩) 16 q]
      have x0 := hX.cell 0
      have x1 := hX.cell 1
      have x2 := hX.cell 2
      have x3 := hX.cell 3
      have x4 := hX.cell 4
      simp only [List.getElem?_toArray, List.getElem?_cons_zero, List.getElem?_cons_succ] at x0 x1 x2 x3 x4
      have HX := Lib.hid hX
      have HOa := Lib.hid ((Only.refl (fun _ => False) V).alloc (.cells #[.int .i64 0, .int .i64 1, .int .i64 1, .int .i64 5, .slice (some ⟨p, 0, none⟩) 16 q] 192))
      clear hX
      go_wp2_with (fail)
      refine (HCO.out _).mono ?_
      rintro e w2 ⟨rfl, hO⟩
      clear x0 x1 x2 x3 x4 t0 t1 t2 t3 t4
      have oa := (HOa.out.trans hO)
      have hM2 := map_at HM.out oa id
      have hX := HX.out.only hO id
      have hX3 := hX.alloc (.cells #[.int .i64 0, .int .i64 0, .int .i64 0, .int .i64 0, .slice none 0 0] 192)
      have x2 := hX.cell 2
      have y0 := hX3.cell 0
      have y1 := hX3.cell 1
      have y2 := hX3.cell 2
      have y3 := hX3.cell 3
      have y4 := hX3.cell 4
      simp only [List.getElem?_toArray, List.getElem?_cons_zero, List.getElem?_cons_succ] at x2 y0 y1 y2 y3 y4
      have hlk := look_none 189 3 192 Tryz.underlying189 Tryz.underlying3 (z := .agg #[.int .i64 0, .int .i64 0, .int .i64 0, .int .i64 0, .slice none 0 0]) (w := w2) (by kernel_rfl) hM2 1
      have oq := oa.alloc (.cells #[.int .i64 0, .int .i64 0, .int .i64 0, .int .i64 0, .slice none 0 0] 192)
      have hM3 := map_at HM.out oq id
      have hms := ins_found (z := 1) (v := .agg #[.int .i64 0, .int .i64 1, .int .i64 1, .int .i64 5, .slice (some ⟨p, 0, none⟩) 16 q]) hM3 (by rfl)
      have HOq := Lib.hid ((HOB.out.trans oq).trans' (wm_only _ w.heap.size (.map (#[].push ⟨.int .i64 1, .agg #[.int .i64 0, .int .i64 1, .int .i64 1, .int .i64 5, .slice (some ⟨p, 0, none⟩) 16 q], 0⟩) (0 + 1))) (S := fun _ => False) (fun i hi e => by omega))
      have HMq := Lib.hid (wm_at (o := .map (#[].push ⟨.int .i64 1, .agg #[.int .i64 0, .int .i64 1, .int .i64 1, .int .i64 5, .slice (some ⟨p, 0, none⟩) 16 q], 0⟩) (0 + 1)) hM3)
      clear oa hO hM2 hX hX3 oq hM3
      go_wp2_with (fail)
      go_roundw
      case rel => exact .inr ⟨by simp, HMq.out, HOq.out⟩
      case measure => simp [intOf]
    · have HOr := Lib.hid hO
      have HMr := Lib.hid hm
      clear hO hm t0 t1 t2 t3 t4
      go_wp2
      go_ret
      exact ⟨w.heap.size, rfl, HMr.out, Nat.le_refl _, HOr.out⟩
end Go.Proofs.YtjobaplioidogaaGreat
