/- Queue: Put. -/
import Derived.Test.YtgaikacjophngaaG
namespace Go.Proofs.Ytgaikacjophngaa
open Go.RowKit

theorem At.reads {w : World} {g : Nat} {t : TypeId} {cs : Array Value} (h : At w g t cs) (j : Nat) (u : Value) (hj : cs.toList[j]? = some u) : w.cell? ((⟨g, 0, none⟩ : Addr).add j) = some u := by
  have e : w.cell? ⟨g, j, none⟩ = some u := by rw [h.cell]; simpa using hj
  unfold Addr.add
  split
  · subst j; exact e
  · simpa using e

def PutPost (b chans : Nat) (q : Nat → QRow) (n : Nat) (j : Jb) (w : World) (e : Ending) (w' : World) : Prop :=
  ∃ r' s, e = .returned (.int .i64 0) ∧ QAt w' b chans (upd q n r') ∧ r'.js = (q n).js ++ [s] ∧ s.j = j ∧ r'.A ≠ none ∧ ((q n).A ≠ none ∧ r'.g = (q n).g ∨ w.heap.size ≤ r'.g) ∧ w.heap.size ≤ s.gp ∧
    Only (fun i => i = b ∨ (q n).A ≠ none ∧ i = (q n).g) w w'

set_option maxRecDepth 100000 in
set_option maxHeartbeats 4000000 in
theorem put_in (b chans : Nat) (q : Nat → QRow) (n : Nat) (hn : n < chans) (k l u p : Int) (pos : List Int) (A : Option Addr) (c gs : Nat) (w : World) (h : QAt w b chans q) (hr : Rd w gs A (iv pos)) (hl : pos.length ≤ 1000000) (hjl : (q n).js.length ≤ 100000) :
    Calls Try.prog 10 #[.pointer (some ⟨b, 0, none⟩), .int .i64 n, .agg #[.int .i64 k, .int .i64 l, .int .i64 u, .int .i64 p, .slice A pos.length c]] w (PutPost b chans q n ⟨k, l, u, p, pos⟩ w) := by
  obtain ⟨i0, hi⟩ : ∃ i, Try.prog.info? 31 = some i := ⟨_, rfl⟩
  have hz0 : i0.zero = some (.agg #[.int .i64 0, .int .i64 0, .int .i64 0, .int .i64 0, .slice none 0 0]) := by cases hi; rfl
  have hz1 : i0.size = 5 := by cases hi; rfl
  have hz2 : i0.bytes = 56 := by cases hi; rfl
  have HI := Lib.hid (And.intro hi (And.intro hz0 (And.intro hz1 hz2)))
  have h4 := h.hc.2
  have hn4 : n < 4 := by omega
  have hn4' : (n : Int) < 4 := by omega
  have hblt := h.st.lt
  have HB := Lib.hid (fun i (hi : QS b q i) => h.lt hi)
  have hQ1 := h.quiet ((Only.refl _ _).alloc (.cells #[.int .i64 k, .int .i64 l, .int .i64 u, .int .i64 p, .slice A pos.length c] 31))
  have HH := Lib.hid (has_in b chans q n hn _ hQ1)
  have hX := At.new w 31 #[.int .i64 k, .int .i64 l, .int .i64 u, .int .i64 p, .slice A pos.length c]
  have HX := Lib.hid hX
  have HQ1 := Lib.hid (hQ1.quiet ((Only.refl _ _).drew))
  have HO := Lib.hid (own_any k l u p pos A c gs _ (((hr.only ((Only.refl (fun _ => False) w).alloc (.cells #[.int .i64 k, .int .i64 l, .int .i64 u, .int .i64 p, .slice A pos.length c] 31)) id)).only (S := fun _ => False) ((Only.refl _ _).drew) id) hl)
  have x0 : (w.alloc (.cells #[.int .i64 k, .int .i64 l, .int .i64 u, .int .i64 p, .slice A pos.length c] 31)).cell? ⟨w.heap.size, 0, none⟩ = some (.int .i64 k) := hX.cell 0
  have x1 : (w.alloc (.cells #[.int .i64 k, .int .i64 l, .int .i64 u, .int .i64 p, .slice A pos.length c] 31)).cell? ⟨w.heap.size, 1, none⟩ = some (.int .i64 l) := hX.cell 1
  have x2 : (w.alloc (.cells #[.int .i64 k, .int .i64 l, .int .i64 u, .int .i64 p, .slice A pos.length c] 31)).cell? ⟨w.heap.size, 2, none⟩ = some (.int .i64 u) := hX.cell 2
  have x3 : (w.alloc (.cells #[.int .i64 k, .int .i64 l, .int .i64 u, .int .i64 p, .slice A pos.length c] 31)).cell? ⟨w.heap.size, 3, none⟩ = some (.int .i64 p) := hX.cell 3
  have x4 : (w.alloc (.cells #[.int .i64 k, .int .i64 l, .int .i64 u, .int .i64 p, .slice A pos.length c] 31)).cell? ⟨w.heap.size, 4, none⟩ = some (.slice A pos.length c) := hX.cell 4
  have hc := HQ1.out.cell n hn4
  have HC := Lib.hid hc
  simp only [QRow.val] at hc
  have HROW := Lib.hid (HQ1.out.row n hn4)
  have hjl2 : (q n).js.length + 1 ≤ maxLen := by unfold maxLen; omega
  clear h hQ1 hr hi hz0 hz1 hz2
  go_enter Try.func10, Try.ntmps10
  go_wp2_with (fail)
  refine HH.out.mono ?_
  rintro e w1 ⟨rfl, rfl⟩
  go_wp2_with (fail)
  go_region_law (first | (refine step_append_row rfl (.tmp 18) (.tmp 21) 47 rfl 31 i0 (.agg #[.int .i64 0, .int .i64 0, .int .i64 0, .int .i64 0, .slice none 0 0]) 5 56 Try.underlying47 HI.out.1 HI.out.2.1 HI.out.2.2.1 HI.out.2.2.2 rfl (by decide) (q n).A (q n).js.length (q n).c (q n).g (jv (q n).js) rfl ((HQx.out.quiet ((Only.refl _ _).alloc (.cells #[.int .i64 k, .int .i64 l, .int .i64 u, .int .i64 p, .slice A' pos.length c'] 31))).row n hn4) ⟨wx.heap.size, 0, none⟩ [.int .i64 k, .int .i64 l, .int .i64 u, .int .i64 p, .slice A' pos.length c'] 1 rfl rfl (fun j u' hj => (At.new wx 31 #[.int .i64 k, .int .i64 l, .int .i64 u, .int .i64 p, .slice A' pos.length c']).reads j u' hj) (by simp [Value.oneCell']) hjl2 (by omega) ?_; intro A3 c3 g3 wy hrow3 hO3 hA3; have HR3 := Lib.hid hrow3; have HO3 := Lib.hid hO3; have HA3 := Lib.hid hA3; have HQy := Lib.hid (show True from trivial); have hby : ¬ ((q n).A ≠ none ∧ b = (q n).g) := (fun h => HQx.out.g_ne n hn4 h.1 h.2.symm); have hsty := ((HQx.out.quiet ((Only.refl _ _).alloc (.cells #[.int .i64 k, .int .i64 l, .int .i64 u, .int .i64 p, .slice A' pos.length c'] 31))).st.only hO3 hby); have HSTY := Lib.hid hsty; have fy := hsty.frozen (1 + n); have cy : wy.cell? ⟨b, 1 + n, none⟩ = some (.slice (q n).A (q n).js.length (q n).c) := (hsty.cell _).trans (qcells_get chans q n hn4); clear hrow3 hO3 hA3 hsty hby) | (go_simp; go_at_call 19; refine HO.out.mono ?_; rintro e wx ⟨A', c', gp, rfl, hr2, hA2, hg2, hO2⟩; have hcx : wx.cell? ⟨b, 1 + n, none⟩ = some (.slice (q n).A (q n).js.length (q n).c) := (hO2.cell (p := ⟨b, 1 + n, none⟩) (by show _ < ((w.alloc (.cells #[.int .i64 k, .int .i64 l, .int .i64 u, .int .i64 p, .slice A pos.length c] 31))).heap.size; simp; omega) id).trans hc; have HO2 := Lib.hid hO2; have HR2 := Lib.hid hr2; have HQx := Lib.hid (HQ1.out.quiet hO2); have hcx2 : (wx.alloc (.cells #[.int .i64 k, .int .i64 l, .int .i64 u, .int .i64 p, .slice A' pos.length c'] 31)).cell? ⟨b, 1 + n, none⟩ = some (.slice (q n).A (q n).js.length (q n).c) := (HQx.out.quiet ((Only.refl _ _).alloc _)).cell n hn4; have fx := HQx.out.st.frozen (1 + n); clear hr2 hO2; try simp only []))
  go_wp2
  all_goals go_ret
  all_goals
    have hsz : w.heap.size + 1 ≤ wx.heap.size := by have := HO2.out.size; have e : (w.alloc (.cells #[.int .i64 k, .int .i64 l, .int .i64 u, .int .i64 p, .slice A pos.length c] 31)).drew.heap.size = w.heap.size + 1 := (by show ((w.alloc (.cells #[.int .i64 k, .int .i64 l, .int .i64 u, .int .i64 p, .slice A pos.length c] 31))).heap.size = _; simp); omega
    have hgp : w.heap.size + 1 ≤ gp := by have e : (w.alloc (.cells #[.int .i64 k, .int .i64 l, .int .i64 u, .int .i64 p, .slice A pos.length c] 31)).drew.heap.size = w.heap.size + 1 := (by show ((w.alloc (.cells #[.int .i64 k, .int .i64 l, .int .i64 u, .int .i64 p, .slice A pos.length c] 31))).heap.size = _; simp); omega
    have hQX := HQx.out.quiet ((Only.refl _ _).alloc (.cells #[.int .i64 k, .int .i64 l, .int .i64 u, .int .i64 p, .slice A' pos.length c'] 31))
    have hOX : Only (fun i => i = b ∨ (q n).A ≠ none ∧ i = (q n).g) _ wy := HO3.out.mono (fun i _ h => Or.inr h)
    have hOF := Only.setCell (p := ⟨b, 1 + n, none⟩) hOX (fun _ => Or.inl rfl) (.slice A3 ((q n).js.length + 1) c3)
    have hOb := Only.setCell (S := fun i => i = b) (p := ⟨b, 1 + n, none⟩) (Only.refl _ wy) (fun _ => rfl) (.slice A3 ((q n).js.length + 1) c3)
    obtain ⟨s, hs⟩ : ∃ s : SJ, s = ⟨⟨k, l, u, p, pos⟩, A', c', gp⟩ := ⟨_, rfl⟩
    obtain ⟨r', hr'⟩ : ∃ r' : QRow, r' = ⟨A3, c3, g3, (q n).js ++ [s]⟩ := ⟨_, rfl⟩
    have hrl : r'.js.length = (q n).js.length + 1 := by rw [hr']; simp
    have hv : r'.val = .slice A3 ((q n).js.length + 1) c3 := by rw [← hrl, hr']; rfl
    have hst := HSTY.out.set (1 + n) r'.val
    rw [qcells_set _ _ _ hn4] at hst
    have hqlt : ∀ i, QS b q i → i < w.heap.size := HB.out
    have hnS : ∀ i, w.heap.size ≤ i → ¬ (i = b ∨ (q n).A ≠ none ∧ i = (q n).g) := by
      rintro i hi (h | ⟨h1, h2⟩)
      · omega
      · have := hqlt i (.inr ⟨n, hn4, h1, h2⟩); omega
    have hsub : ∀ i, (i = b ∨ (q n).A ≠ none ∧ i = (q n).g) → QS b q i := by
      rintro i (h | ⟨h1, h2⟩)
      · exact .inl h
      · exact .inr ⟨n, hn4, h1, h2⟩
    have hg3b : g3 ≠ b := by
      rcases HA3.out.2 with ⟨h1, h2⟩ | h2
      · rw [h2]; exact hQX.g_ne n hn4 h1
      · simp at h2; omega
    have hrow : RowAt (wy.setCell ⟨b, 1 + n, none⟩ (.slice A3 ((q n).js.length + 1) c3)) r'.A r'.js.length r'.c r'.g 31 5 (jv r'.js) := by
      have h1 := HR3.out.only hOb (fun _ => hg3b)
      rw [hrl, hr', jv_append, jv_one, hs]
      exact h1
    rw [hv] at hst
    refine ⟨r', s, rfl, hQX.turn hOF hst hrow ?_ ?_ ?_ ?_, by rw [hr'], by rw [hs], by rw [hr']; exact HA3.out.1, ?_, by rw [hs]; simp only; omega, ?_⟩
    · intro x hx
      rw [hr'] at hx
      rcases List.mem_append.1 hx with hx | hx
      · refine (hQX.ok n hn4 x hx).only hOF (fun hA h => ?_)
        exact hQX.apart ⟨n, hn4, x, hx, hA, rfl⟩ (hsub _ h)
      · simp at hx
        subst hx
        rw [hs]
        exact ⟨(HR2.out.only ((Only.refl (fun _ => False) _).alloc _) (fun _ => id)).only hOF (fun _ => hnS _ (by omega)), hl⟩
    · rintro i hi hne hA (h | ⟨h1, h2⟩)
      · exact hQX.g_ne i hi hA h
      · exact hQX.far i n hi hn4 hne hA h1 h2
    · intro i hi h
      exact hQX.apart hi (hsub _ h)
    · intro i hi hne hA _
      rw [hr']
      rcases HA3.out.2 with ⟨h1, h2⟩ | h2
      · simp only; rw [h2]; exact hQX.far n i hn4 hi (Ne.symm hne) h1 hA
      · have := hqlt _ (.inr ⟨i, hi, hA, rfl⟩)
        simp at h2 ⊢; omega
    · rw [hr']
      rcases HA3.out.2 with h | h
      · exact Or.inl h
      · right; simp at h ⊢; omega
    · exact (((((Only.refl (fun _ => False) w).alloc _).drew).trans (HO2.out.trans ((Only.refl _ _).alloc _))).mono (fun i _ h => h.elim)).trans hOF
end Go.Proofs.Ytgaikacjophngaa
