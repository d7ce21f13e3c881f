/- Ring: a slot that shares nothing. -/
import Derived.Test.YtookghkfghdadaaA
namespace Go.Proofs.Ytookghkfghdadaa
open Go.RowKit

set_option maxHeartbeats 2000000 in
theorem own_any (x : Sl) (A : Option Addr) (c gs : Nat) (w : World) (hr : Rd w gs A (bv x.data)) (hl : x.data.length ≤ 1000000) :
    Calls Try.prog 35 #[.agg #[.int .i64 x.k, .int .i64 x.l, .int .i64 x.s, .slice A x.data.length c, .int .i64 x.f]] w (OwnPost x w) := by
  obtain ⟨i0, hi⟩ : ∃ i, Try.prog.info? 5 = some i := ⟨_, rfl⟩
  have hz0 : i0.zero = some (.int .u8 0) := by cases hi; rfl
  have hz1 : i0.size = 1 := by cases hi; rfl
  have hz2 : i0.bytes = 1 := by cases hi; rfl
  have hO := ((((Only.refl (fun _ => False) w).alloc (.cells #[.int .i64 x.k, .int .i64 x.l, .int .i64 x.s, .slice A x.data.length c, .int .i64 x.f] 37)).alloc (.cells #[.int .i64 0, .int .i64 0, .int .i64 0, .slice none 0 0, .int .i64 0] 37)).alloc (.cells #[] 5))
  have h0 := (((At.new w 37 #[.int .i64 x.k, .int .i64 x.l, .int .i64 x.s, .slice A x.data.length c, .int .i64 x.f])).alloc (.cells #[.int .i64 0, .int .i64 0, .int .i64 0, .slice none 0 0, .int .i64 0] 37)).alloc (.cells #[] 5)
  have h1 := (At.new' (g := w.heap.size + 1) (w := (w.alloc (.cells #[.int .i64 x.k, .int .i64 x.l, .int .i64 x.s, .slice A x.data.length c, .int .i64 x.f] 37))) (by simp) 37 #[.int .i64 0, .int .i64 0, .int .i64 0, .slice none 0 0, .int .i64 0]).alloc (.cells #[] 5)
  have hown := ownsRow_fresh ((w.alloc (.cells #[.int .i64 x.k, .int .i64 x.l, .int .i64 x.s, .slice A x.data.length c, .int .i64 x.f] 37)).alloc (.cells #[.int .i64 0, .int .i64 0, .int .i64 0, .slice none 0 0, .int .i64 0] 37)) 5 1
  have es : ((w.alloc (.cells #[.int .i64 x.k, .int .i64 x.l, .int .i64 x.s, .slice A x.data.length c, .int .i64 x.f] 37)).alloc (.cells #[.int .i64 0, .int .i64 0, .int .i64 0, .slice none 0 0, .int .i64 0] 37)).heap.size = w.heap.size + 1 + 1 := by simp
  rw [es] at hown
  have HR := Lib.hid (hr.only hO id)
  have H0 := Lib.hid h0
  have H1 := Lib.hid h1
  have HO := Lib.hid hO
  have HOWN := Lib.hid hown
  have HI := Lib.hid hi
  clear hr hO h0 h1 hown es
  go_enter Try.func35, Try.ntmps35
  go_wp2_with (at_builtin; go_loud (refine wpList_append_src _ rfl (.tmp 3) (.tmp 5) 35 rfl (w.heap.size + 1 + 1) 5 i0 (.int .u8 0) 1 1 Try.underlying35 HI.out hz0 hz1 hz2 rfl (by decide) (.slice (some ⟨w.heap.size + 1 + 1, 0, none⟩) 0 0) 0 [] rfl HOWN.out gs A x.data.length c (bv x.data) rfl (by simp [bv]) HR.out (bv_one x.data) (by unfold maxLen; omega) (by omega) (by simp) ?_); intro A1 c1 w2 hc1 hown1 hgrow1 hat1; have hO2 := Only.of_grown hgrow1; have HOWN1 := Lib.hid hown1; have HAT := Lib.hid hat1; have H0' := Lib.hid (H0.out.only hO2 (by simp [Value.ownBlock]; omega)); have H1' := Lib.hid (H1.out.only hO2 (by simp [Value.ownBlock])); have HO2 := Lib.hid hO2; clear HR HOWN H0 H1 hown1 hgrow1 hat1 hO2 hz0 hz1 hz2; have a0 := H0'.out.cell 0; have a1 := H0'.out.cell 1; have a2 := H0'.out.cell 2; have a3 := H0'.out.cell 3; have a4 := H0'.out.cell 4; have af3 := H0'.out.frozen 3; have b0 := H1'.out.cell 0; have b1 := H1'.out.cell 1; have b2 := H1'.out.cell 2; have b3 := H1'.out.cell 3; have b4 := H1'.out.cell 4; have bf0 := H1'.out.frozen 0; have bf1 := H1'.out.frozen 1; have bf2 := H1'.out.frozen 2; have bf3 := H1'.out.frozen 3; have bf4 := H1'.out.frozen 4; simp at a0 a1 a2 a3 a4 b0 b1 b2 b3 b4)
  have hown1 := HOWN1.out
  have hb3 := HO.out.trans' HO2.out (fun i hi h => by simp [Value.ownBlock] at h; omega)
  obtain ⟨g', hg', hrow⟩ := ownsRow_rowAt hown1
  have hA1 : A1 ≠ none := by
    rintro rfl
    have := HAT.out
    simp [Value.ownBlock] at this
  have hg' := hg' hA1
  have hA1' : g' < w2.heap.size := hrow.lt hA1
  simp only [Nat.zero_add, List.nil_append] at hrow
  refine bodyPost_ret (v := .agg #[.int .i64 x.k, .int .i64 x.l, .int .i64 x.s, .slice A1 x.data.length c1, .int .i64 x.f])
    (results_cell_row (ty := 37) rfl _ _ (w.heap.size + 1) 37 _ (0, 0) _ rfl ((((((H1'.out.far (p := ⟨w.heap.size, 3, none⟩) (by simp) _).set 0 _).set 1 _).set 2 _).set 3 _).set 4 _) Try.underlying37 rfl (by kernel_rfl)) rfl ?_
  have hk : ∀ v, Only (fun i => i = w.heap.size ∨ i = w.heap.size + 1) w2 ((((((w2.setCell ⟨w.heap.size, 3, none⟩ v).setCell ⟨w.heap.size + 1, 0, none⟩ (.int .i64 x.k)).setCell ⟨w.heap.size + 1, 1, none⟩ (.int .i64 x.l)).setCell ⟨w.heap.size + 1, 2, none⟩ (.int .i64 x.s)).setCell ⟨w.heap.size + 1, 3, none⟩ v).setCell ⟨w.heap.size + 1, 4, none⟩ (.int .i64 x.f)) := by
    intro v
    refine Only.setCell (p := ⟨w.heap.size + 1, 4, none⟩) ?_ (fun _ => Or.inr rfl) _
    refine Only.setCell (p := ⟨w.heap.size + 1, 3, none⟩) ?_ (fun _ => Or.inr rfl) _
    refine Only.setCell (p := ⟨w.heap.size + 1, 2, none⟩) ?_ (fun _ => Or.inr rfl) _
    refine Only.setCell (p := ⟨w.heap.size + 1, 1, none⟩) ?_ (fun _ => Or.inr rfl) _
    refine Only.setCell (p := ⟨w.heap.size + 1, 0, none⟩) ?_ (fun _ => Or.inr rfl) _
    refine Only.setCell (p := ⟨w.heap.size, 3, none⟩) ?_ (fun _ => Or.inl rfl) _
    exact Only.refl _ _
  exact ⟨A1, c1, g', rfl, hrow.only (hk _) (fun _ => by omega), hA1, by omega, hb3.trans' (hk _) (fun i hi h => by omega)⟩

set_option maxHeartbeats 2000000 in
theorem copy_any (x : Sl) (A : Option Addr) (c gs : Nat) (w : World) (hr : Rd w gs A (bv x.data)) (hl : x.data.length ≤ 1000000) :
    Calls Try.prog 21 #[.agg #[.int .i64 x.k, .int .i64 x.l, .int .i64 x.s, .slice A x.data.length c, .int .i64 x.f]] w (OwnPost x w) := by
  obtain ⟨i0, hi⟩ : ∃ i, Try.prog.info? 5 = some i := ⟨_, rfl⟩
  have hz0 : i0.zero = some (.int .u8 0) := by cases hi; rfl
  have hz1 : i0.size = 1 := by cases hi; rfl
  have hz2 : i0.bytes = 1 := by cases hi; rfl
  have hO := ((((Only.refl (fun _ => False) w).alloc (.cells #[.int .i64 x.k, .int .i64 x.l, .int .i64 x.s, .slice A x.data.length c, .int .i64 x.f] 37)).alloc (.cells #[.int .i64 0, .int .i64 0, .int .i64 0, .slice none 0 0, .int .i64 0] 37)).alloc (.cells #[] 5))
  have h0 := (((At.new w 37 #[.int .i64 x.k, .int .i64 x.l, .int .i64 x.s, .slice A x.data.length c, .int .i64 x.f])).alloc (.cells #[.int .i64 0, .int .i64 0, .int .i64 0, .slice none 0 0, .int .i64 0] 37)).alloc (.cells #[] 5)
  have h1 := (At.new' (g := w.heap.size + 1) (w := (w.alloc (.cells #[.int .i64 x.k, .int .i64 x.l, .int .i64 x.s, .slice A x.data.length c, .int .i64 x.f] 37))) (by simp) 37 #[.int .i64 0, .int .i64 0, .int .i64 0, .slice none 0 0, .int .i64 0]).alloc (.cells #[] 5)
  have hown := ownsRow_fresh ((w.alloc (.cells #[.int .i64 x.k, .int .i64 x.l, .int .i64 x.s, .slice A x.data.length c, .int .i64 x.f] 37)).alloc (.cells #[.int .i64 0, .int .i64 0, .int .i64 0, .slice none 0 0, .int .i64 0] 37)) 5 1
  have es : ((w.alloc (.cells #[.int .i64 x.k, .int .i64 x.l, .int .i64 x.s, .slice A x.data.length c, .int .i64 x.f] 37)).alloc (.cells #[.int .i64 0, .int .i64 0, .int .i64 0, .slice none 0 0, .int .i64 0] 37)).heap.size = w.heap.size + 1 + 1 := by simp
  rw [es] at hown
  have HR := Lib.hid (hr.only hO id)
  have H0 := Lib.hid h0
  have H1 := Lib.hid h1
  have HO := Lib.hid hO
  have HOWN := Lib.hid hown
  have HI := Lib.hid hi
  clear hr hO h0 h1 hown es
  go_enter Try.func21, Try.ntmps21
  go_wp2_with (at_builtin; go_loud (refine wpList_append_src _ rfl (.tmp 3) (.tmp 5) 35 rfl (w.heap.size + 1 + 1) 5 i0 (.int .u8 0) 1 1 Try.underlying35 HI.out hz0 hz1 hz2 rfl (by decide) (.slice (some ⟨w.heap.size + 1 + 1, 0, none⟩) 0 0) 0 [] rfl HOWN.out gs A x.data.length c (bv x.data) rfl (by simp [bv]) HR.out (bv_one x.data) (by unfold maxLen; omega) (by omega) (by simp) ?_); intro A1 c1 w2 hc1 hown1 hgrow1 hat1; have hO2 := Only.of_grown hgrow1; have HOWN1 := Lib.hid hown1; have HAT := Lib.hid hat1; have H0' := Lib.hid (H0.out.only hO2 (by simp [Value.ownBlock]; omega)); have H1' := Lib.hid (H1.out.only hO2 (by simp [Value.ownBlock])); have HO2 := Lib.hid hO2; clear HR HOWN H0 H1 hown1 hgrow1 hat1 hO2 hz0 hz1 hz2; have a0 := H0'.out.cell 0; have a1 := H0'.out.cell 1; have a2 := H0'.out.cell 2; have a3 := H0'.out.cell 3; have a4 := H0'.out.cell 4; have af3 := H0'.out.frozen 3; have b0 := H1'.out.cell 0; have b1 := H1'.out.cell 1; have b2 := H1'.out.cell 2; have b3 := H1'.out.cell 3; have b4 := H1'.out.cell 4; have bf0 := H1'.out.frozen 0; have bf1 := H1'.out.frozen 1; have bf2 := H1'.out.frozen 2; have bf3 := H1'.out.frozen 3; have bf4 := H1'.out.frozen 4; simp at a0 a1 a2 a3 a4 b0 b1 b2 b3 b4)
  have hown1 := HOWN1.out
  have hb3 := HO.out.trans' HO2.out (fun i hi h => by simp [Value.ownBlock] at h; omega)
  obtain ⟨g', hg', hrow⟩ := ownsRow_rowAt hown1
  have hA1 : A1 ≠ none := by
    rintro rfl
    have := HAT.out
    simp [Value.ownBlock] at this
  have hg' := hg' hA1
  have hA1' : g' < w2.heap.size := hrow.lt hA1
  simp only [Nat.zero_add, List.nil_append] at hrow
  refine bodyPost_ret (v := .agg #[.int .i64 x.k, .int .i64 x.l, .int .i64 x.s, .slice A1 x.data.length c1, .int .i64 x.f])
    (results_cell_row (ty := 37) rfl _ _ (w.heap.size + 1) 37 _ (0, 0) _ rfl ((((((H1'.out.far (p := ⟨w.heap.size, 3, none⟩) (by simp) _).set 0 _).set 1 _).set 2 _).set 3 _).set 4 _) Try.underlying37 rfl (by kernel_rfl)) rfl ?_
  have hk : ∀ v, Only (fun i => i = w.heap.size ∨ i = w.heap.size + 1) w2 ((((((w2.setCell ⟨w.heap.size, 3, none⟩ v).setCell ⟨w.heap.size + 1, 0, none⟩ (.int .i64 x.k)).setCell ⟨w.heap.size + 1, 1, none⟩ (.int .i64 x.l)).setCell ⟨w.heap.size + 1, 2, none⟩ (.int .i64 x.s)).setCell ⟨w.heap.size + 1, 3, none⟩ v).setCell ⟨w.heap.size + 1, 4, none⟩ (.int .i64 x.f)) := by
    intro v
    refine Only.setCell (p := ⟨w.heap.size + 1, 4, none⟩) ?_ (fun _ => Or.inr rfl) _
    refine Only.setCell (p := ⟨w.heap.size + 1, 3, none⟩) ?_ (fun _ => Or.inr rfl) _
    refine Only.setCell (p := ⟨w.heap.size + 1, 2, none⟩) ?_ (fun _ => Or.inr rfl) _
    refine Only.setCell (p := ⟨w.heap.size + 1, 1, none⟩) ?_ (fun _ => Or.inr rfl) _
    refine Only.setCell (p := ⟨w.heap.size + 1, 0, none⟩) ?_ (fun _ => Or.inr rfl) _
    refine Only.setCell (p := ⟨w.heap.size, 3, none⟩) ?_ (fun _ => Or.inl rfl) _
    exact Only.refl _ _
  exact ⟨A1, c1, g', rfl, hrow.only (hk _) (fun _ => by omega), hA1, by omega, hb3.trans' (hk _) (fun i hi h => by omega)⟩
end Go.Proofs.Ytookghkfghdadaa
