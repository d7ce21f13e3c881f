/- Queue: a job that shares nothing: the program's own, the reference's. -/
import Derived.Test.YtgaikacjophngaaA
namespace Go.Proofs.Ytgaikacjophngaa
open Go.RowKit

def iv (l : List Int) : List Value := l.map (Value.int .i64)
theorem iv_len (l : List Int) : (iv l).length = l.length := by simp [iv]
theorem iv_one (l : List Int) : ∀ u ∈ iv l, u.oneCell' = true := by
  intro u hu
  obtain ⟨z, _, rfl⟩ := List.mem_map.1 hu
  rfl

def OwnPost (k l u p : Int) (pos : List Int) (w : World) (e : Ending) (w' : World) : Prop :=
  ∃ A' c' gp, e = .returned (.agg #[.int .i64 k, .int .i64 l, .int .i64 u, .int .i64 p, .slice A' pos.length c']) ∧ RowAt w' A' pos.length c' gp 3 1 (iv pos) ∧ A' ≠ none ∧ w.heap.size ≤ gp ∧ Only (fun _ => False) w w'

theorem At.new' {w : World} {g : Nat} (h : g = w.heap.size) (t : TypeId) (cs : Array Value) : At (w.alloc (.cells cs t)) g t cs := by subst h; exact At.new w t cs

theorem At.of_below {w w' : World} {g B : Nat} {t : TypeId} {cs : Array Value} (h : At w g t cs) (k : Below B w w') (hg : g < B) : At w' g t cs := (k.block g hg).trans h

theorem splice_all (z : Value) (cs : List Value) : splice (List.replicate cs.length z) 0 cs = cs := by
  simp [splice]

set_option maxHeartbeats 2000000 in
theorem own_any (k l u p : Int) (pos : List Int) (A : Option Addr) (c gs : Nat) (w : World) (hr : Rd w gs A (iv pos)) (hl : pos.length ≤ 1000000) :
    Calls Try.prog 19 #[.agg #[.int .i64 k, .int .i64 l, .int .i64 u, .int .i64 p, .slice A pos.length c]] w (OwnPost k l u p pos w) := by
  obtain ⟨i0, hi⟩ : ∃ i, Try.prog.info? 3 = some i := ⟨_, rfl⟩
  have hmk := fun (w : World) => run_make_one (P := Try.prog) (t := 22) (e := 3) (z := .int .i64 0) Try.underlying22 hi (by cases hi; rfl) rfl (by cases hi; rfl) pos.length (by cases hi; show 8 * _ ≤ _; omega) (by omega) w
  have HR := Lib.hid hr
  obtain ⟨cs, hcs⟩ : ∃ cs, cs = iv pos := ⟨_, rfl⟩
  have hcl : cs.length = pos.length := by rw [hcs, iv_len]
  have HC := Lib.hid hcs
  have HCL := Lib.hid hcl
  clear hr hcs hcl
  go_enter Try.func19, Try.ntmps19
  have hW := At.new' (g := w.heap.size + 1 + 1) (w := ((w.alloc (.cells #[.int .i64 k, .int .i64 l, .int .i64 u, .int .i64 p, .slice A pos.length c] 31)).alloc (.cells #[.int .i64 0, .int .i64 0, .int .i64 0, .int .i64 0, .slice none 0 0] 31))) (by simp) 3 (zeros (.int .i64 0) pos.length)
  have h0 := (((At.new w 31 #[.int .i64 k, .int .i64 l, .int .i64 u, .int .i64 p, .slice A pos.length c])).alloc (.cells #[.int .i64 0, .int .i64 0, .int .i64 0, .int .i64 0, .slice none 0 0] 31)).alloc (.cells (zeros (.int .i64 0) pos.length) 3)
  have h1 := (At.new' (g := w.heap.size + 1) (w := (w.alloc (.cells #[.int .i64 k, .int .i64 l, .int .i64 u, .int .i64 p, .slice A pos.length c] 31))) (by simp) 31 #[.int .i64 0, .int .i64 0, .int .i64 0, .int .i64 0, .slice none 0 0]).alloc (.cells (zeros (.int .i64 0) pos.length) 3)
  have hO := ((((Only.refl (fun _ => False) w).alloc (.cells #[.int .i64 k, .int .i64 l, .int .i64 u, .int .i64 p, .slice A pos.length c] 31)).alloc (.cells #[.int .i64 0, .int .i64 0, .int .i64 0, .int .i64 0, .slice none 0 0] 31)).alloc (.cells (zeros (.int .i64 0) pos.length) 3))
  have HW := Lib.hid hW
  have H0 := Lib.hid h0
  have H1 := Lib.hid h1
  have HO := Lib.hid hO
  have HR2 := Lib.hid (HR.out.only hO id)
  clear hW h0 h1 hO
  have hsrc : 0 < cs.length → ∃ ad, A = some ad ∧ ∀ j v, cs[j]? = some v → (((w.alloc (.cells #[.int .i64 k, .int .i64 l, .int .i64 u, .int .i64 p, .slice A pos.length c] 31)).alloc (.cells #[.int .i64 0, .int .i64 0, .int .i64 0, .int .i64 0, .slice none 0 0] 31)).alloc (.cells (zeros (.int .i64 0) pos.length) 3)).cell? (ad.add j) = some v := by
    intro hpos
    have hne : iv pos ≠ [] := by
      intro e
      rw [HC.out, e] at hpos
      simp at hpos
    obtain ⟨off, rfl, hlt, hget⟩ := HR2.out.at hne
    refine ⟨_, rfl, fun j v hj => ?_⟩
    rw [HC.out] at hj
    have := hget j v hj
    unfold Addr.add
    split
    · subst j; exact this
    · exact this
  have HSRC := Lib.hid hsrc
  clear hsrc
  go_wp2_with (refine wpList_copy_splice rfl (.tmp 8) (.tmp 10) 22 22 rfl 3 Try.underlying22 (by kernel_rfl) (some ⟨w.heap.size + 1 + 1, 0, none⟩) A pos.length pos.length pos.length c rfl rfl (w.heap.size + 1 + 1) 0 (zeros (.int .i64 0) pos.length).toList 3 HW.out cs (by rw [HCL.out]; exact (Nat.min_self _).symm) (fun hpos => ⟨rfl, HSRC.out hpos⟩) (by rw [HCL.out]; simp [zeros]) (by rw [HC.out]; exact iv_one pos) (w.heap.size + 1 + 1) _ (Below.refl _ _) (Nat.le_refl _) ?_; intro w2 hg2 hb2; have H0' := Lib.hid (H0.out.of_below hb2 (by omega)); have H1' := Lib.hid (H1.out.of_below hb2 (by omega)); clear HR2 HSRC H0 H1; have a0 := H0'.out.cell 0; have b0 := H1'.out.cell 0; have bf0 := H1'.out.frozen 0; have a1 := H0'.out.cell 1; have b1 := H1'.out.cell 1; have bf1 := H1'.out.frozen 1; have a2 := H0'.out.cell 2; have b2 := H1'.out.cell 2; have bf2 := H1'.out.frozen 2; have a3 := H0'.out.cell 3; have b3 := H1'.out.cell 3; have bf3 := H1'.out.frozen 3; have a4 := H0'.out.cell 4; have b4 := H1'.out.cell 4; have bf4 := H1'.out.frozen 4; have af4 := H0'.out.frozen 4; simp at a0 a1 a2 a3 a4 b0 b1 b2 b3 b4)
  have hsp : splice (zeros (.int .i64 0) pos.length).toList 0 cs = iv pos := by
    have e : (zeros (.int .i64 0) pos.length).toList = List.replicate cs.length (.int .i64 0) := by rw [HCL.out]; simp [zeros]
    rw [e, splice_all]; exact HC.out
  have hP : At w2 (w.heap.size + 1 + 1) 3 (iv pos).toArray := by
    have := hg2.out
    rw [hsp] at this
    exact this
  refine bodyPost_ret (v := .agg #[.int .i64 k, .int .i64 l, .int .i64 u, .int .i64 p, .slice (some ⟨w.heap.size + 1 + 1, 0, none⟩) pos.length pos.length])
    (results_cell_row (ty := 31) rfl _ _ (w.heap.size + 1) 31 _ (0, 0) _ rfl ((((((H1'.out.far (p := ⟨w.heap.size, 4, none⟩) (by simp) _).set 0 _).set 1 _).set 2 _).set 3 _).set 4 _) Try.underlying31 rfl (by kernel_rfl)) rfl ?_
  have hb3 := HO.out.trans' (⟨hb2.os, hb2.tape, hb2.output, hb2.size, fun i hi hs => hb2.block i (by omega)⟩ : Only (fun i => w.heap.size + 1 + 1 ≤ i) _ w2) (fun i hi h => by omega)
  have hfar : ∀ (w2 : World), At w2 (w.heap.size + 1 + 1) 3 (iv pos).toArray → At ((((((w2.setCell ⟨w.heap.size, 4, none⟩ (.slice (some ⟨w.heap.size + 1 + 1, 0, none⟩) pos.length pos.length)).setCell ⟨w.heap.size + 1, 0, none⟩ (.int .i64 k)).setCell ⟨w.heap.size + 1, 1, none⟩ (.int .i64 l)).setCell ⟨w.heap.size + 1, 2, none⟩ (.int .i64 u)).setCell ⟨w.heap.size + 1, 3, none⟩ (.int .i64 p)).setCell ⟨w.heap.size + 1, 4, none⟩ (.slice (some ⟨w.heap.size + 1 + 1, 0, none⟩) pos.length pos.length)) (w.heap.size + 1 + 1) 3 (iv pos).toArray :=
    fun w2 h => (((((h.far (by simp; try omega) _).far (by simp) _).far (by simp) _).far (by simp) _).far (by simp) _).far (by simp) _
  refine ⟨_, _, w.heap.size + 1 + 1, rfl, .inr ⟨0, _, rfl, hfar w2 hP, Nat.le_refl _, by unfold maxLen; omega, by simp [iv], by simp [iv], fun j u hu => by simpa using hu⟩, by simp, by omega, ?_⟩
  refine Only.setCell (p := ⟨w.heap.size + 1, 4, none⟩) ?_ (fun h => by simp at h; omega) _
  refine Only.setCell (p := ⟨w.heap.size + 1, 3, none⟩) ?_ (fun h => by simp at h; omega) _
  refine Only.setCell (p := ⟨w.heap.size + 1, 2, none⟩) ?_ (fun h => by simp at h; omega) _
  refine Only.setCell (p := ⟨w.heap.size + 1, 1, none⟩) ?_ (fun h => by simp at h; omega) _
  refine Only.setCell (p := ⟨w.heap.size + 1, 0, none⟩) ?_ (fun h => by simp at h; omega) _
  refine Only.setCell (p := ⟨w.heap.size, 4, none⟩) ?_ (fun h => by simp at h) _
  exact hb3
end Go.Proofs.Ytgaikacjophngaa
