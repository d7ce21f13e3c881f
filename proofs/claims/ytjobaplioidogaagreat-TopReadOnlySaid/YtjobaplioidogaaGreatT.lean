/- Top: how often each line was erased, of a device that holds nothing. -/
import Derived.Test.YtjobaplioidogaaGreatQ
namespace Go.Proofs.YtjobaplioidogaaGreat
open Go.RowKit

set_option maxRecDepth 100000 in
theorem make_ints (n : Nat) (hn : n ≤ 1000000) (w : World) : (Instr.makeSlice 26 (.int .i64 (n : Int)) (.int .i64 (n : Int))).run Tryz.prog w = .ok (.slice (some ⟨w.heap.size, 0, none⟩) n n) (w.alloc (.cells (zeros (.int .i64 0) n) 3)) := by
  obtain ⟨i0, hi⟩ : ∃ i, Tryz.prog.info? 3 = some i := ⟨_, rfl⟩
  have h1 : i0.zero = some (.int .i64 0) := by cases hi; rfl
  have h2 : i0.size = 1 := by cases hi; rfl
  have h3 : i0.bytes = 8 := by cases hi; rfl
  exact run_make_one Tryz.underlying26 hi h1 rfl h2 n (by rw [h3]; omega) (by omega) w
set_option maxRecDepth 100000 in
theorem make_bools (n : Nat) (hn : n ≤ 1000000) (w : World) : (Instr.makeSlice 198 (.int .i64 (n : Int)) (.int .i64 (n : Int))).run Tryz.prog w = .ok (.slice (some ⟨w.heap.size, 0, none⟩) n n) (w.alloc (.cells (zeros (.bool false) n) 4)) := by
  obtain ⟨i0, hi⟩ : ∃ i, Tryz.prog.info? 4 = some i := ⟨_, rfl⟩
  have h1 : i0.zero = some (.bool false) := by cases hi; rfl
  have h2 : i0.size = 1 := by cases hi; rfl
  have h3 : i0.bytes = 1 := by cases hi; rfl
  exact run_make_one Tryz.underlying198 hi h1 rfl h2 n (by rw [h3]; omega) (by omega) w

/-- Rows of zeros. -/
def WearsP (n : Nat) (w : World) (e : Ending) (w' : World) : Prop :=
  ∃ g, e = .returned (.tuple #[.slice (some ⟨g, 0, none⟩) n n, .int .i64 0]) ∧ At w' g 3 (zeros (.int .i64 0) n) ∧ w.heap.size ≤ g ∧ Only (fun _ => False) w w'

set_option maxRecDepth 100000 in
set_option maxHeartbeats 8000000 in
theorem wears_none (d gb mp pp : Nat) (G : Ge) (l : List Bk) (ck : Nat) (w : World) (k : NAt w d gb mp pp G l #[] ck) :
    Calls Tryz.prog 56 #[.pointer (some ⟨d, 0, none⟩)] w (WearsP G.b.toNat w) := by
  have HAL := Lib.hid (fun W (o : Only (fun _ => False) w W) => all_none d gb mp pp G l ck W (k.quiet o))
  have HGE := Lib.hid (fun W (o : Only (fun _ => False) w W) => geometry_any d gb mp pp G l #[] ck W (k.quiet o))
  have hbb := k.is.b
  have hmf : ∀ (fn : Fn) (first cap : Array Value) (w : World), (Instr.makeFunc fn first cap).run Tryz.prog w = .ok (.func fn first cap) w := fun _ _ _ _ => rfl
  clear k
  unfold WearsP
  obtain ⟨n, hn⟩ : ∃ n : Nat, G.b = n := ⟨G.b.toNat, by omega⟩
  unfold Ge.val at *
  rw [hn] at HGE hbb ⊢
  have hmk := fun W => make_ints n (by omega) W
  have hmb := fun W => make_bools n (by omega) W
  have HMK := Lib.hid hmk
  have HMB := Lib.hid hmb
  clear hmk hmb
  simp only [Int.toNat_natCast]
  obtain ⟨gc, gl, gbb, gp, gs⟩ := G
  simp only at *
  clear hn
  go_enter_defers Tryz.func56, Tryz.ntmps56
  have HB := Lib.hid (((Only.refl (fun _ => False) w).alloc (.cells #[.slice none 0 0] 26)).alloc (.cells #[.int .i64 0] 41))
  have HA1 := Lib.hid ((At.new w 26 #[.slice none 0 0]).alloc (.cells #[.int .i64 0] 41))
  have HA2 : Hid (At ((w.alloc (.cells #[.slice none 0 0] 26)).alloc (.cells #[.int .i64 0] 41)) (w.heap.size + 1) 41 #[.int .i64 0]) := Lib.hid (At.new' (w := w.alloc (.cells #[.slice none 0 0] 26)) (by simp) 41 #[.int .i64 0])
  go_wp2_with (fail)
  refine (HAL.out _ HB.out).mono ?_
  rintro e w2 ⟨rfl, hO⟩
  have HB2 := Lib.hid (HB.out.trans hO)
  have HA1b := Lib.hid (HA1.out.only hO id)
  have HA2b := Lib.hid (HA2.out.only hO id)
  clear hO HB HA1 HA2
  go_wp2_with (fail)
  refine (HGE.out _ HB2.out).mono ?_
  rintro e w3 ⟨rfl, hO⟩
  have oa := hO.alloc (.cells #[.int .i64 gc, .int .i64 gl, .int .i64 n, .int .i64 gp, .int .i64 gs] 23)
  have HO3 := Lib.hid (HB2.out.trans oa)
  have HX1 := Lib.hid (HA1b.out.only oa id)
  have HX2 := Lib.hid (HA2b.out.only oa id)
  have HX3 := Lib.hid (At.new w3 23 #[.int .i64 gc, .int .i64 gl, .int .i64 n, .int .i64 gp, .int .i64 gs])
  have HSZ : Hid (w.heap.size + 1 < w3.heap.size) := Lib.hid (by have := HA2b.out.lt; have := hO.size; omega)
  clear oa hO HB2 HA1b HA2b
  go_upto_region 4 with (fail)
  generalize w3.heap.size = q3 at *
  generalize w3.alloc (.cells #[.int .i64 gc, .int .i64 gl, .int .i64 n, .int .i64 gp, .int .i64 gs] 23) = W at *
  have c2 := HX3.out.cell 2
  have c1 := HX1.out.cell 0
  simp only [List.getElem?_toArray, List.getElem?_cons_zero, List.getElem?_cons_succ] at c1 c2
  have f1 := (HX1.out.alloc (.cells (zeros (.int .i64 0) n) 3)).frozen 0
  have d1 := (HX1.out.alloc (.cells (zeros (.int .i64 0) n) 3)).cell 0
  simp only [List.getElem?_toArray, List.getElem?_cons_zero, List.getElem?_cons_succ] at d1
  have o1 := ((Only.refl (fun i => i = w.heap.size) W).alloc (.cells (zeros (.int .i64 0) n) 3)).setCell (p := ⟨w.heap.size, 0, none⟩) (fun _ => rfl) (.slice (some ⟨W.heap.size, 0, none⟩) n n)
  have HY1 : Hid (At ((W.alloc (.cells (zeros (.int .i64 0) n) 3)).setCell ⟨w.heap.size, 0, none⟩ (.slice (some ⟨W.heap.size, 0, none⟩) n n)) w.heap.size 26 #[.slice (some ⟨W.heap.size, 0, none⟩) n n]) := Lib.hid ((HX1.out.alloc (.cells (zeros (.int .i64 0) n) 3)).set 0 _)
  have HY2 := Lib.hid (HX2.out.only o1 (by omega))
  have HY3 := Lib.hid (HX3.out.only o1 (by have := HSZ.out; omega))
  have HY4 := Lib.hid ((At.new W 3 (zeros (.int .i64 0) n)).only ((Only.refl (fun i => i = w.heap.size) _).setCell (p := ⟨w.heap.size, 0, none⟩) (fun _ => rfl) (.slice (some ⟨W.heap.size, 0, none⟩) n n)) (by have := HX1.out.lt; omega))
  have HO4 := Lib.hid ((HO3.out.alloc (.cells (zeros (.int .i64 0) n) 3)).setCell (p := ⟨w.heap.size, 0, none⟩) (fun h => by simp at h) (.slice (some ⟨W.heap.size, 0, none⟩) n n))
  have HWS := Lib.hid HX1.out.lt
  have hmk := HMK.out
  clear o1 HX1 HX2 HX3
  go_upto_region 5 with (fail)
  clear hmk c1 c2 d1 f1
  generalize W.heap.size = q4 at *
  generalize (W.alloc (.cells (zeros (.int .i64 0) n) 3)).setCell ⟨w.heap.size, 0, none⟩ (.slice (some ⟨q4, 0, none⟩) n n) = V at *
  have c2 := HY3.out.cell 2
  simp only [List.getElem?_toArray, List.getElem?_cons_zero, List.getElem?_cons_succ] at c2
  have hmb := HMB.out
  go_upto_region 6 with (fail)
  clear hmb c2
  have ob := (Only.refl (fun _ => False) V).alloc (.cells (zeros (.bool false) n) 4)
  have HZ1 := Lib.hid (HY1.out.only ob id)
  have HZ2 := Lib.hid (HY2.out.only ob id)
  have HZ4 := Lib.hid (HY4.out.only ob id)
  have HO5 := Lib.hid (HO4.out.trans ob)
  clear ob HY1 HY2 HY3 HY4 HO4 HO3
  generalize V.heap.size = q5 at *
  generalize V.alloc (.cells (zeros (.bool false) n) 4) = U at *
  obtain ⟨U0, hU0⟩ : ∃ U0, U0 = U := ⟨_, rfl⟩
  subst hU0
  go_wp2_with (fail)
  go_loopw [8, 9, 10, 11, 25] (fun v8 v9 v10 v11 v25 wr => v25 = .int .i64 0 ∧ wr = U0) (fun _ _ _ _ _ _ => 0)
  case atStart => exact ⟨rfl, rfl⟩
  case round =>
    obtain ⟨rfl, rfl⟩ := hrel
    have d0 := HZ1.out.cell 0
    have d1 := HZ2.out.cell 0
    simp only [List.getElem?_toArray, List.getElem?_cons_zero, List.getElem?_cons_succ] at d0 d1
    have f1 := HZ1.out.frozen 0
    have f2 := HZ2.out.frozen 0
    have b1 := ((HZ1.out.set 0 (.slice (some ⟨q4, 0, none⟩) n n)).far (p := ⟨w.heap.size + 1, 0, none⟩) (by simp) (.int .i64 0)).cell 0
    have b2 := ((HZ2.out.far (p := ⟨w.heap.size, 0, none⟩) (by simp) (.slice (some ⟨q4, 0, none⟩) n n)).set 0 (.int .i64 0)).cell 0
    simp only [List.setIfInBounds_toArray, List.set_cons_zero, List.getElem?_toArray, List.getElem?_cons_zero] at b1 b2
    have HY := Lib.hid ((HZ4.out.far (p := ⟨w.heap.size, 0, none⟩) (by have := HWS.out; have := HSZ.out; simp; omega) (.slice (some ⟨q4, 0, none⟩) n n)).far (p := ⟨w.heap.size + 1, 0, none⟩) (by have := HSZ.out; have := HZ4.out.ne HZ2.out (by decide); exact this) (.int .i64 0))
    have HO6 := Lib.hid ((HO5.out.setCell (p := ⟨w.heap.size, 0, none⟩) (fun h => by simp at h) (.slice (some ⟨q4, 0, none⟩) n n)).setCell (p := ⟨w.heap.size + 1, 0, none⟩) (fun h => by simp at h; omega) (.int .i64 0))
    go_wp2
    refine leaves_cons (f := 110) (args := #[.pointer (some ⟨w.heap.size, 0, none⟩), .pointer (some ⟨w.heap.size + 1, 0, none⟩)]) (by simp) (by simp [go_sem]) ?_
    refine (cut_wears _ _ _).mono ?_
    rintro e u' w'' ⟨rfl, rfl, rfl⟩
    simp [Leaves, settle, results, Tryz.results56, go_sem, b1, b2]
    exact ⟨HY.out, by have := HWS.out; omega, HO6.out⟩
end Go.Proofs.YtjobaplioidogaaGreat
