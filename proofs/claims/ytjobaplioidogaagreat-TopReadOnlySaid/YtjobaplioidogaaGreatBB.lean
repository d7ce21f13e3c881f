/- Top: where the one sector is, by what was found. -/
import Derived.Test.YtjobaplioidogaaGreatBA
import Derived.Maps.RangeRun
namespace Go.Proofs.YtjobaplioidogaaGreat
open Go.RowKit

theorem Rd.far {w w' : World} {g : Nat} {A : Option Addr} {xs : List Value} (h : Rd w g A xs) (o : Only (fun i => w.heap.size ≤ i) w w') : Rd w' g A xs := by
  rcases h with h | ⟨off, h1, h2, h3⟩
  · exact .inl h
  · exact Rd.only (.inr ⟨off, h1, h2, h3⟩) o (by omega)
/-- The range's first step hands out the one entry; the second one ends. -/
theorem next_first (w : World) (ty : TypeId) (r bm : Nat) (e : MapEntry) (he : e.born = 0) (hr : w.heap[r]? = some (.mapIter (some bm) 1 #[] 1)) (hb : w.heap[bm]? = some (.map #[e] 1)) :
    ∃ w1 : World, (w1 = w ∨ w1 = w.drew) ∧ (Instr.next (.pointer (some ⟨r, 0, none⟩)) false ty).run Tryz.prog w = .ok (.tuple #[.bool true, e.key, e.val]) (wm w1 r (.mapIter (some bm) 1 #[0] 1)) := by
  have hl : leftOf #[e] #[] = #[e] := by simp [leftOf]
  rcases run_next_at (P := Tryz.prog) w ty r bm 1 1 #[] #[e] 1 hr hb (by simp [he]) (Nat.le_refl _) with ⟨h, _⟩ | ⟨e', he', w1, hw, h⟩
  · rw [hl] at h; simp at h
  · rw [hl] at he'
    have : e' = e := by simpa using he'
    subst this
    rw [he] at h
    exact ⟨w1, hw, h⟩
theorem next_last (w : World) (ty : TypeId) (r bm : Nat) (e : MapEntry) (he : e.born = 0) (hr : w.heap[r]? = some (.mapIter (some bm) 1 #[0] 1)) (hb : w.heap[bm]? = some (.map #[e] 1)) :
    (Instr.next (.pointer (some ⟨r, 0, none⟩)) false ty).run Tryz.prog w = .ok (.tuple #[.bool false]) w := by
  have hl : leftOf #[e] #[0] = #[] := by simp [leftOf, he]
  rcases run_next_at (P := Tryz.prog) w ty r bm 1 1 #[0] #[e] 1 hr hb (by simp [he]) (Nat.le_refl _) with ⟨_, h⟩ | ⟨e', he', _⟩
  · exact h
  · rw [hl] at he'; simp at he'
theorem entry_first (w : World) (r bm : Nat) (e : MapEntry) (he : e.born = 0) (hr : w.heap[r]? = some (.mapIter (some bm) 1 #[0] 1)) (hb : w.heap[bm]? = some (.map #[e] 1)) :
    (Instr.entry (.pointer (some ⟨r, 0, none⟩))).run Tryz.prog w = .ok (.tuple #[e.key, e.val]) w :=
  run_entry_at (P := Tryz.prog) w r bm 1 #[] #[e] 1 e (by rw [he]; exact hr) hb (by simp) (by simp)

set_option maxRecDepth 100000 in
set_option maxHeartbeats 16000000 in
theorem newest_one (A : Option Addr) (c g p q : Nat) (w : World) (hr : Rd w g A (fnd p q)) :
    Calls Tryz.prog 53 #[.slice A 1 c, .int .i64 2] w fun e w' => ∃ g, e = .returned (.tuple #[.slice (some ⟨g, 0, none⟩) 2 2, .int .i64 5]) ∧ At w' g 163 #[.int .i64 (-1), .int .i64 0, .int .i64 0, .int .i64 0, .int .i64 5, .int .i64 1] ∧ w.heap.size ≤ g ∧ Only (fun _ => False) w w' := by
  have HB := Lib.hid (fun W (o : Only (fun i => w.heap.size ≤ i) w W) => best_one A c g p q W (hr.far o))
  clear hr
  have hmk : ∀ W : World, (Instr.makeSlice 130 (.int .i64 2) (.int .i64 2)).run Tryz.prog W = .ok (.slice (some ⟨W.heap.size, 0, none⟩) 2 2) (W.alloc (.cells (ecs (List.replicate 2 (⟨0, 0, 0⟩ : En))).toArray 163)) := fun W => make_entries 2 (by omega) W
  have HN := Lib.hid (At.new w 163 (ecs (lessE 2 0)).toArray)
  have HO0 := Lib.hid ((Only.refl (fun i => w.heap.size ≤ i) w).alloc (.cells (ecs (lessE 2 0)).toArray 163))
  have e0 : List.replicate 2 (⟨0, 0, 0⟩ : En) = lessE 2 0 := by simp [lessE]
  rw [e0] at hmk
  clear e0
  go_enter Tryz.func53, Tryz.ntmps53
  go_wp2_with (fail)
  clear hmk
  go_loopw [7, 21] (fun v7 v21 wr => ∃ i : Nat, i ≤ 2 ∧ v21 = .int .i64 i ∧ At wr w.heap.size 163 (ecs (lessE 2 i)).toArray ∧ Only (fun i => w.heap.size ≤ i) w wr) (fun _ v21 _ => (2 - intOf v21).toNat)
  case atStart => exact ⟨0, by omega, rfl, HN.out, HO0.out⟩
  case round =>
    obtain ⟨i, hi, rfl, hx, hO⟩ := hrel
    have HX := Lib.hid hx
    have HO := Lib.hid hO
    clear hx hO HN HO0
    by_cases hin : i < 2
    · have i1 : (i : Int) < 2 := by omega
      have i0 : (0 : Int) ≤ i := by omega
      have hlen := lessE_len 2 i (by omega)
      have c0 := HX.out.cell (i * 3)
      have := ecs_get (lessE 2 i) i 0 (by omega) (by omega)
      rw [lessE_get 2 i hin] at this
      simp only [Nat.add_zero, En.cells, List.getElem?_cons_zero] at this
      rw [List.getElem?_toArray, this] at c0
      have f0 := HX.out.frozen (i * 3)
      have hset := HX.out.set (i * 3) (.int .i64 (-1))
      rw [List.setIfInBounds_toArray] at hset
      have e2 := ecs_set (lessE 2 i) i 0 (by omega) (by omega) (.int .i64 (-1)) ⟨-1, 0, 0⟩ (by rw [lessE_get 2 i hin]; rfl)
      rw [Nat.add_zero, lessE_set 2 i hin] at e2
      rw [e2] at hset
      have HS := Lib.hid hset
      clear this e2 hset hlen
      go_wp2
      go_roundw
      case rel => exact ⟨i + 1, by omega, by simp, HS.out, HO.out.setCell (p := ⟨w.heap.size, i * 3, none⟩) (fun _ => Nat.le_refl _) _⟩
      case measure => simp [intOf]; omega
    · obtain rfl : i = 2 := by omega
      have i1 : decide (((2 : Nat) : Int) < 2) = false := by decide
      have hx : At wr w.heap.size 163 #[.int .i64 (-1), .int .i64 0, .int .i64 0, .int .i64 (-1), .int .i64 0, .int .i64 0] := HX.out
      have HX1 := Lib.hid hx
      clear hx HX
      go_wp2_with (fail)
      refine (HB.out _ HO.out).mono ?_
      rintro e V ⟨b, rfl, hM, hbs, hO⟩
      have HM := Lib.hid hM
      have HX2 := Lib.hid (HX1.out.only hO id)
      have HO2 := Lib.hid (HO.out.trans (hO.mono (fun _ _ h => h.elim)))
      have HBL := Lib.hid (show b < V.heap.size from (Array.getElem?_eq_some_iff.1 hM).1)
      have HBS := Lib.hid hbs
      have HWS := Lib.hid (show w.heap.size < wr.heap.size from HX1.out.lt)
      have hrg : (Instr.range 189 (.map (some b))).run Tryz.prog V = .ok (.pointer (some ⟨V.heap.size, 0, none⟩)) (V.alloc (.mapIter (some b) 1 #[] 1)) := run_range_map V 189 _ _ b _ 1 Tryz.underlying189 hM
      clear hM hO hbs HX1 HO
      go_wp2_with (fail)
      clear hrg
      go_loopw [8, 9, 10] (fun v8 v9 v10 wq => (v8 = .int .i64 0 ∧ wq = V.alloc (.mapIter (some b) 1 #[] 1)) ∨ (v8 = .int .i64 5 ∧ wq.heap[V.heap.size]? = some (.mapIter (some b) 1 #[0] 1) ∧ wq.heap[b]? = some (.map (bestE p q) 1) ∧ At wq w.heap.size 163 #[.int .i64 (-1), .int .i64 0, .int .i64 0, .int .i64 0, .int .i64 5, .int .i64 1] ∧ Only (fun i => w.heap.size ≤ i) w wq)) (fun v8 _ _ _ => (5 - intOf v8).toNat)
      case atStart => exact .inl ⟨rfl, rfl⟩
      case round =>
        rcases hrel with ⟨rfl, rfl⟩ | ⟨rfl, hI, hM, hX, hO⟩
        · have oi := (Only.refl (fun _ => False) V).alloc (.mapIter (some b) 1 #[] 1)
          have HI := Lib.hid (heap_alloc_new V (.mapIter (some b) 1 #[] 1))
          have HM3 := Lib.hid (map_at HM.out oi id)
          have HX3 := Lib.hid (HX2.out.only oi id)
          have HO3 := Lib.hid (HO2.out.alloc (.mapIter (some b) 1 #[] 1))
          obtain ⟨V1, hV1⟩ : ∃ V1, V1 = V.alloc (.mapIter (some b) 1 #[] 1) := ⟨_, rfl⟩
          rw [← hV1] at HI HM3 HX3 HO3 ⊢
          clear hV1 oi
          obtain ⟨w1, hw1, hnx⟩ := next_first V1 0 V.heap.size b ⟨.int .i64 1, .agg #[.int .i64 0, .int .i64 1, .int .i64 1, .int .i64 5, .slice (some ⟨p, 0, none⟩) 16 q], 0⟩ rfl HI.out HM3.out
          have ow : Only (fun _ => False) V1 w1 := by
            rcases hw1 with rfl | rfl
            · exact Only.refl _ _
            · exact (Only.refl _ _).drew
          have hI2 := wm_at (o := .mapIter (some b) 1 #[0] 1) (map_at HI.out ow id)
          have oit := wm_only w1 V.heap.size (.mapIter (some b) 1 #[0] 1)
          have hM4 := map_at (map_at HM3.out ow id) oit (by have := HBL.out; omega)
          have hX4 := (HX3.out.only ow id).only oit (by have := HX2.out.lt; omega)
          have hO4 := (HO3.out.trans (ow.mono (fun _ _ h => h.elim))).trans' oit (S := fun i => w.heap.size ≤ i) (fun i hi e => by have := HX2.out.lt; omega)
          obtain ⟨W2, hW2⟩ : ∃ W2, W2 = wm w1 V.heap.size (.mapIter (some b) 1 #[0] 1) := ⟨_, rfl⟩
          rw [← hW2] at hnx hI2 hM4 hX4 hO4
          have hen := entry_first W2 V.heap.size b ⟨.int .i64 1, .agg #[.int .i64 0, .int .i64 1, .int .i64 1, .int .i64 5, .slice (some ⟨p, 0, none⟩) 16 q], 0⟩ rfl hI2 hM4
          clear hW2 oit ow hw1
          have hN := At.new W2 192 #[.int .i64 0, .int .i64 1, .int .i64 1, .int .i64 5, .slice (some ⟨p, 0, none⟩) 16 q]
          have y0 := hN.cell 0
          have y1 := hN.cell 1
          have y3 := hN.cell 3
          have hX5 := hX4.alloc (.cells #[.int .i64 0, .int .i64 1, .int .i64 1, .int .i64 5, .slice (some ⟨p, 0, none⟩) 16 q] 192)
          have x3 := hX5.cell 3
          have x4 := hX5.cell 4
          have x5 := hX5.cell 5
          have f3 := hX5.frozen 3
          have f4 := hX5.frozen 4
          have f5 := hX5.frozen 5
          have hne : ¬ W2.heap.size = w.heap.size := by have := hX4.lt; omega
          have q0 := (((hN.far (p := ⟨w.heap.size, 3, none⟩) hne (.int .i64 0)).far (p := ⟨w.heap.size, 4, none⟩) hne (.int .i64 5)).far (p := ⟨w.heap.size, 5, none⟩) hne (.int .i64 1))
          have q3 := q0.cell 3
          simp only [List.getElem?_toArray, List.getElem?_cons_zero, List.getElem?_cons_succ] at y0 y1 y3 x3 x4 x5 q3
          have hX6 := ((hX5.set 3 (.int .i64 0)).set 4 (.int .i64 5)).set 5 (.int .i64 1)
          simp only [List.setIfInBounds_toArray, List.set_cons_zero, List.set_cons_succ] at hX6
          have oa := (Only.refl (fun i => i = w.heap.size) W2).alloc (.cells #[.int .i64 0, .int .i64 1, .int .i64 1, .int .i64 5, .slice (some ⟨p, 0, none⟩) 16 q] 192)
          have os := ((oa.setCell (p := ⟨w.heap.size, 3, none⟩) (fun _ => rfl) (.int .i64 0)).setCell (p := ⟨w.heap.size, 4, none⟩) (fun _ => rfl) (.int .i64 5)).setCell (p := ⟨w.heap.size, 5, none⟩) (fun _ => rfl) (.int .i64 1)
          have HI9 := Lib.hid (map_at hI2 os (by have := HX2.out.lt; omega))
          have HM9 := Lib.hid (map_at hM4 os (by have := HBS.out; have := HWS.out; omega))
          have HX9 := Lib.hid hX6
          have HO9 := Lib.hid (hO4.trans (os.mono (fun i _ e => Nat.le_of_eq e.symm)))
          clear hI2 hM4 hX4 hO4 hN hX5 q0 hX6 oa os hne
          go_wp2_with (fail)
          go_roundw
          case rel => exact .inr ⟨by simp, HI9.out, HM9.out, HX9.out, HO9.out⟩
          case measure => simp [intOf]
        · have hnx := next_last wr 0 V.heap.size b ⟨.int .i64 1, .agg #[.int .i64 0, .int .i64 1, .int .i64 1, .int .i64 5, .slice (some ⟨p, 0, none⟩) 16 q], 0⟩ rfl hI hM
          have HXq := Lib.hid hX
          have HOq := Lib.hid hO
          clear hI hM hX hO
          go_wp2
          go_ret2
          exact ⟨w.heap.size, rfl, HXq.out, Nat.le_refl _, HOq.out.fresh _⟩
end Go.Proofs.YtjobaplioidogaaGreat
