/- Queue: Pop. -/
import Derived.Test.YtgaikacjophngaaE
import Derived.RegionTactic
import Derived.ChangeAlike
namespace Go.Proofs.Ytgaikacjophngaa
open Go.RowKit

def Z5 : Array Value := #[.int .i64 0, .int .i64 0, .int .i64 0, .int .i64 0, .slice none 0 0]

set_option maxHeartbeats 2000000 in
theorem pop_none (b chans : Nat) (q : Nat → QRow) (n : Int) (hn : ¬ isIn chans q n) (w : World) (h : QAt w b chans q) :
    Calls Try.prog 11 #[.pointer (some ⟨b, 0, none⟩), .int .i64 n] w fun e w' => e = .returned (.tuple #[zeroJob, .bool false]) ∧ Only (fun _ => False) w w' := by
  have HF := Lib.hid (first_none b chans q n hn (w.alloc (.cells #[.int .i64 0, .int .i64 0, .int .i64 0, .int .i64 0, .slice none 0 0] 31)) (h.quiet ((Only.refl _ _).alloc _)))
  have HZ := Lib.hid (At.new w 31 #[.int .i64 0, .int .i64 0, .int .i64 0, .int .i64 0, .slice none 0 0])
  clear h hn
  go_enter Try.func11, Try.ntmps11
  go_wp2_with (fail)
  refine HF.out.mono ?_
  rintro e w1 ⟨rfl, hO⟩
  have HZ2 := Lib.hid ((HZ.out.only hO id).alloc (.cells #[.int .i64 0, .int .i64 0, .int .i64 0, .int .i64 0, .slice none 0 0] 31))
  have HO := Lib.hid hO
  have z0 := HZ2.out.frozen 0
  have y0 := HZ2.out.cell 0
  have z1 := HZ2.out.frozen 1
  have y1 := HZ2.out.cell 1
  have z2 := HZ2.out.frozen 2
  have y2 := HZ2.out.cell 2
  have z3 := HZ2.out.frozen 3
  have y3 := HZ2.out.cell 3
  have z4 := HZ2.out.frozen 4
  have y4 := HZ2.out.cell 4
  simp at y0 y1 y2 y3 y4
  clear hO
  simp only [zeroJob]
  go_wp2
  refine bodyPost_ret (v := .tuple #[zeroJob, .bool false])
    (results_row_tmp (p := 4) (u := 5) (ty := 31) rfl _ _ w.heap.size 31 #[.int .i64 0, .int .i64 0, .int .i64 0, .int .i64 0, .slice none 0 0] (0, 0) _ rfl (((((HZ2.out.set 0 _).set 1 _).set 2 _).set 3 _).set 4 _) Try.underlying31 rfl (by kernel_rfl)) rfl ?_
  refine ⟨rfl, ?_⟩
  have hk : ∀ w1 : World, Only (fun i => i = w.heap.size) w1 (((((w1.setCell ⟨w.heap.size, 0, none⟩ (.int .i64 0)).setCell ⟨w.heap.size, 1, none⟩ (.int .i64 0)).setCell ⟨w.heap.size, 2, none⟩ (.int .i64 0)).setCell ⟨w.heap.size, 3, none⟩ (.int .i64 0)).setCell ⟨w.heap.size, 4, none⟩ (.slice none 0 0)) := by
    intro w1
    refine Only.setCell (S := fun i => i = w.heap.size) (p := ⟨w.heap.size, 4, none⟩) ?_ (fun _ => rfl) _
    refine Only.setCell (S := fun i => i = w.heap.size) (p := ⟨w.heap.size, 3, none⟩) ?_ (fun _ => rfl) _
    refine Only.setCell (S := fun i => i = w.heap.size) (p := ⟨w.heap.size, 2, none⟩) ?_ (fun _ => rfl) _
    refine Only.setCell (S := fun i => i = w.heap.size) (p := ⟨w.heap.size, 1, none⟩) ?_ (fun _ => rfl) _
    refine Only.setCell (S := fun i => i = w.heap.size) (p := ⟨w.heap.size, 0, none⟩) ?_ (fun _ => rfl) _
    exact Only.refl _ _
  exact ((((Only.refl (fun _ => False) w).alloc _).trans HO.out).alloc _).trans' (hk _) (fun i hi h => by omega)

theorem QAt.turn {S : Nat → Prop} {w w' : World} {b chans : Nat} {q : Nat → QRow} {n : Nat} {r' : QRow} (h : QAt w b chans q) (k : Only S w w') (hst : At w' b 50 (qcells chans (upd q n r')))
    (hrow : RowAt w' r'.A r'.js.length r'.c r'.g 31 5 (jv r'.js)) (hok : ∀ s ∈ r'.js, s.Ok w') (hS : ∀ i, i < 4 → i ≠ n → (q i).A ≠ none → ¬ S (q i).g) (hP : ∀ i, QP q i → ¬ S i)
    (hfar : ∀ i, i < 4 → i ≠ n → (q i).A ≠ none → r'.A ≠ none → r'.g ≠ (q i).g) : QAt w' b chans (upd q n r') := by
  refine ⟨hst, fun i hi => ?_, fun i hi s hs => ?_, fun i j hi hj hij hA hA' => ?_, h.hc⟩
  · by_cases e : i = n
    · subst e; rw [upd_self]; exact hrow
    · rw [upd_ne _ _ _ _ e]; exact (h.row i hi).only k (hS i hi e)
  · by_cases e : i = n
    · subst e; rw [upd_self] at hs; exact hok s hs
    · rw [upd_ne _ _ _ _ e] at hs; exact (h.ok i hi s hs).only k (fun hA => hP _ ⟨i, hi, s, hs, hA, rfl⟩)
  · by_cases e : i = n
    · subst e
      rw [upd_self] at hA ⊢
      rw [upd_ne _ _ _ _ (Ne.symm hij)] at hA' ⊢
      exact hfar j hj (Ne.symm hij) hA' hA
    · rw [upd_ne _ _ _ _ e] at hA ⊢
      by_cases e' : j = n
      · subst e'
        rw [upd_self] at hA' ⊢
        exact Ne.symm (hfar i hi hij hA hA')
      · rw [upd_ne _ _ _ _ e'] at hA' ⊢
        exact h.far i j hi hj hij hA hA'

theorem QAt.g_ne {w : World} {b chans : Nat} {q : Nat → QRow} (h : QAt w b chans q) (i : Nat) (hi : i < 4) (hA : (q i).A ≠ none) : (q i).g ≠ b := (h.row i hi).neAt h.st hA (by decide)
theorem QAt.p_ne {w : World} {b chans : Nat} {q : Nat → QRow} (h : QAt w b chans q) (i : Nat) (hi : QP q i) : i ≠ b := fun e => h.apart hi (.inl e)
theorem QAt.lt {w : World} {b chans : Nat} {q : Nat → QRow} (h : QAt w b chans q) {i : Nat} (hi : QS b q i) : i < w.heap.size := by
  obtain ⟨t, cs, h1, _⟩ := h.ty hi
  exact h1.lt

set_option maxRecDepth 100000 in
set_option maxHeartbeats 4000000 in
theorem pop_some (b chans : Nat) (q : Nat → QRow) (n : Nat) (hn : n < chans) (s : SJ) (r : List SJ) (hj : (q n).js = s :: r) (w : World) (h : QAt w b chans q) (hl : (q n).js.length ≤ 100000) :
    Calls Try.prog 11 #[.pointer (some ⟨b, 0, none⟩), .int .i64 n] w fun e w' => ∃ A c gp r', e = .returned (.tuple #[.agg #[.int .i64 s.j.k, .int .i64 s.j.l, .int .i64 s.j.u, .int .i64 s.j.p, .slice A s.j.pos.length c], .bool true]) ∧ RowAt w' A s.j.pos.length c gp 3 1 (iv s.j.pos) ∧ A ≠ none ∧ w.heap.size ≤ gp ∧
      QAt w' b chans (upd q n r') ∧ r'.js = r ∧ r'.g = (q n).g ∧ (q n).A ≠ none ∧ Only (fun i => i = b) w w' := by
  have h4 := h.hc.2
  have hn4 : n < 4 := by omega
  have hQ := h.quiet ((Only.refl _ _).alloc (.cells #[.int .i64 0, .int .i64 0, .int .i64 0, .int .i64 0, .slice none 0 0] 31))
  have HF := Lib.hid (first_some b chans q n hn s r hj _ hQ hl)
  have HZ := Lib.hid (At.new w 31 #[.int .i64 0, .int .i64 0, .int .i64 0, .int .i64 0, .slice none 0 0])
  have HQ := Lib.hid hQ
  have hblt := h.st.lt
  have HLT0 := Lib.hid (fun i (hi : QS b q i) => h.lt hi)
  obtain ⟨off, hA⟩ : ∃ off, (q n).A = some ⟨(q n).g, off, none⟩ := by
    rcases h.row n hn4 with ⟨_, h0, _⟩ | ⟨off, _, h1, _⟩
    · rw [hj] at h0; cases h0
    · exact ⟨off, h1⟩
  have hrow := h.row n hn4
  rw [hA, hj] at hrow
  obtain ⟨k, hk⟩ : ∃ k, (q n).c = k + 1 := ⟨(q n).c - 1, by have := hrow.le; simp at this; omega⟩
  rw [hk] at hrow
  have hle := hrow.le
  rw [List.length_cons] at hle
  have hrl : r.length ≤ 100000 := by rw [hj] at hl; simp at hl; omega
  have HROW := Lib.hid hrow
  have hkb : k ≤ 9223372036854775807 := by
    rcases hrow with ⟨h, _⟩ | ⟨_, _, _, _, _, h, _⟩
    · cases h
    · unfold maxLen at h; omega
  clear h hQ hl hrow
  go_enter Try.func11, Try.ntmps11
  go_wp2_with (fail)
  refine HF.out.mono ?_
  rintro e w2 ⟨A, c, gp, rfl, hr2, hA2, hg2, hO2⟩
  have hQ3 := HQ.out.quiet (hO2.alloc (.cells #[.int .i64 s.j.k, .int .i64 s.j.l, .int .i64 s.j.u, .int .i64 s.j.p, .slice A s.j.pos.length c] 31))
  have hc := hQ3.cell n hn4
  simp only [QRow.val] at hc
  rw [hA, hj, hk, List.length_cons] at hc
  have fc := hQ3.st.frozen (1 + n)
  have hn4' : (n : Int) < 4 := by omega
  have HQ3 := Lib.hid hQ3
  have HO2 := Lib.hid hO2
  have HR2 := Lib.hid hr2
  clear hQ3 hO2 hr2
  have HLT := Lib.hid (fun i (hi : QS b q i) => HLT0.out i hi)
  by_cases hk0 : k = 0
  · subst hk0
    have hr0 : r = [] := List.eq_nil_of_length_eq_zero (by omega)
    subst hr0
    go_wp2_with (fail)
    go_region
    obtain ⟨r', hr'⟩ : ∃ r' : QRow, r' = ⟨some ⟨(q n).g, off, none⟩, 0, (q n).g, []⟩ := ⟨_, rfl⟩
    have H6 := Lib.hid ((At.new w2 31 #[.int .i64 s.j.k, .int .i64 s.j.l, .int .i64 s.j.u, .int .i64 s.j.p, .slice A s.j.pos.length c]).far (p := ⟨b, 1 + n, none⟩) (by have := HO2.out.size; simp at this ⊢; omega) (.slice (some ⟨(q n).g, off, none⟩) 0 0))
    have HZ3 := Lib.hid (((HZ.out.only HO2.out id).alloc (.cells #[.int .i64 s.j.k, .int .i64 s.j.l, .int .i64 s.j.u, .int .i64 s.j.p, .slice A s.j.pos.length c] 31)).far (p := ⟨b, 1 + n, none⟩) (by simp; omega) (.slice (some ⟨(q n).g, off, none⟩) 0 0))
    have hOb := Only.setCell (S := fun i => i = b) (p := ⟨b, 1 + n, none⟩) (Only.refl _ (w2.alloc (.cells #[.int .i64 s.j.k, .int .i64 s.j.l, .int .i64 s.j.u, .int .i64 s.j.p, .slice A s.j.pos.length c] 31))) (fun _ => rfl) (.slice (some ⟨(q n).g, off, none⟩) 0 0)
    have hst := HQ3.out.st.set (1 + n) (.slice (some ⟨(q n).g, off, none⟩) 0 0)
    have hv : r'.val = .slice (some ⟨(q n).g, off, none⟩) 0 0 := by rw [hr']; rfl
    rw [← hv, qcells_set _ _ _ hn4] at hst
    have hrow2 : RowAt (w2.alloc (.cells #[.int .i64 s.j.k, .int .i64 s.j.l, .int .i64 s.j.u, .int .i64 s.j.p, .slice A s.j.pos.length c] 31)) (some ⟨(q n).g, off, none⟩) 0 0 (q n).g 31 5 (jv []) := by
      have h1 := HQ3.out.row n hn4
      rw [hA, hj, hk, jv_cons, List.length_cons] at h1
      simp only [jv, List.flatMap_nil, List.append_nil, List.length_nil, Nat.zero_add] at h1 ⊢
      exact h1.tail0
    have HQ4 : Hid (QAt ((w2.alloc (.cells #[.int .i64 s.j.k, .int .i64 s.j.l, .int .i64 s.j.u, .int .i64 s.j.p, .slice A s.j.pos.length c] 31)).setCell ⟨b, 1 + n, none⟩ (.slice (some ⟨(q n).g, off, none⟩) 0 0)) b chans (upd q n r')) := Lib.hid (by
      rw [hv] at hst
      refine HQ3.out.turn hOb hst ?_ ?_ (fun i hi _ hA => HQ3.out.g_ne i hi hA) (fun i hi => HQ3.out.p_ne i hi) ?_
      · rw [hr']; exact hrow2.only hOb (fun _ => HQ3.out.g_ne n hn4 (by rw [hA]; simp))
      · rw [hr']; intro x hx; cases hx
      · rw [hr']; intro i hi hne hAi _
        exact HQ3.out.far n i hn4 hi (Ne.symm hne) (by rw [hA]; simp) hAi)
    have HOB := Lib.hid ((((Only.refl (fun i => i = b) w).alloc (.cells #[.int .i64 0, .int .i64 0, .int .i64 0, .int .i64 0, .slice none 0 0] 31)).trans (HO2.out.mono (fun _ _ h => h.elim))).trans (((Only.refl _ _).alloc (.cells #[.int .i64 s.j.k, .int .i64 s.j.l, .int .i64 s.j.u, .int .i64 s.j.p, .slice A s.j.pos.length c] 31)).trans hOb))
    have HR4 := Lib.hid ((HR2.out.only ((Only.refl (fun _ => False) _).alloc (.cells #[.int .i64 s.j.k, .int .i64 s.j.l, .int .i64 s.j.u, .int .i64 s.j.p, .slice A s.j.pos.length c] 31)) (fun _ => id)).only hOb (fun _ => by simp at hg2; omega))
    generalize hw3 : (w2.alloc (.cells #[.int .i64 s.j.k, .int .i64 s.j.l, .int .i64 s.j.u, .int .i64 s.j.p, .slice A s.j.pos.length c] 31)).setCell ⟨b, 1 + n, none⟩ (.slice (some ⟨(q n).g, off, none⟩) 0 0) = w3 at *
    clear hst hrow2 hv hc fc hOb HO2 HR2 HQ3
    have hr'1 : r'.js = [] ∧ r'.g = (q n).g := by rw [hr']; exact ⟨rfl, rfl⟩
    have hAn : (q n).A ≠ none := by rw [hA]; simp
    clear hr' hA hj hk
    have z0 := HZ3.out.frozen 0
    have y0 := HZ3.out.cell 0
    have x0 := H6.out.cell 0
    have z1 := HZ3.out.frozen 1
    have y1 := HZ3.out.cell 1
    have x1 := H6.out.cell 1
    have z2 := HZ3.out.frozen 2
    have y2 := HZ3.out.cell 2
    have x2 := H6.out.cell 2
    have z3 := HZ3.out.frozen 3
    have y3 := HZ3.out.cell 3
    have x3 := H6.out.cell 3
    have z4 := HZ3.out.frozen 4
    have y4 := HZ3.out.cell 4
    have x4 := H6.out.cell 4
    simp at y0 y1 y2 y3 y4 x0 x1 x2 x3 x4
    go_wp2
    refine bodyPost_ret (v := .tuple #[.agg #[.int .i64 s.j.k, .int .i64 s.j.l, .int .i64 s.j.u, .int .i64 s.j.p, .slice A s.j.pos.length c], .bool true])
      (results_row_tmp (p := 4) (u := 5) (ty := 31) rfl _ _ w.heap.size 31 #[.int .i64 s.j.k, .int .i64 s.j.l, .int .i64 s.j.u, .int .i64 s.j.p, .slice A s.j.pos.length c] (0, 0) _ rfl (((((HZ3.out.set 0 _).set 1 _).set 2 _).set 3 _).set 4 _) Try.underlying31 rfl (by kernel_rfl)) rfl ?_
    have hkk : ∀ (w1 : World) v, Only (fun i => i = w.heap.size) w1 (((((w1.setCell ⟨w.heap.size, 0, none⟩ (.int .i64 s.j.k)).setCell ⟨w.heap.size, 1, none⟩ (.int .i64 s.j.l)).setCell ⟨w.heap.size, 2, none⟩ (.int .i64 s.j.u)).setCell ⟨w.heap.size, 3, none⟩ (.int .i64 s.j.p)).setCell ⟨w.heap.size, 4, none⟩ v) := by
      intro w1 v
      refine Only.setCell (S := fun i => i = w.heap.size) (p := ⟨w.heap.size, 4, none⟩) ?_ (fun _ => rfl) _
      refine Only.setCell (S := fun i => i = w.heap.size) (p := ⟨w.heap.size, 3, none⟩) ?_ (fun _ => rfl) _
      refine Only.setCell (S := fun i => i = w.heap.size) (p := ⟨w.heap.size, 2, none⟩) ?_ (fun _ => rfl) _
      refine Only.setCell (S := fun i => i = w.heap.size) (p := ⟨w.heap.size, 1, none⟩) ?_ (fun _ => rfl) _
      refine Only.setCell (S := fun i => i = w.heap.size) (p := ⟨w.heap.size, 0, none⟩) ?_ (fun _ => rfl) _
      exact Only.refl _ _
    have hg2' : w.heap.size + 1 ≤ gp := by simpa using hg2
    have hz : ∀ i, QS b q i → i ≠ w.heap.size := fun i hi => by have := HLT.out i hi; omega
    have hkd := fun v => (hkk w3 v).drew
    refine ⟨A, c, gp, r', rfl, HR4.out.only (hkd _) (fun _ h => by omega), hA2, by omega, ?_, hr'1.1, hr'1.2, hAn, HOB.out.trans' (hkd _) (fun i hi h => by omega)⟩
    refine HQ4.out.only (hkd _) (fun i hi e => ?_) (fun i hi e => ?_)
    · rcases hi with hi | ⟨m, hm, hmA, hi⟩
      · exact hz i (.inl hi) e
      · by_cases e' : m = n
        · subst e'
          rw [upd_self, hr'1.2] at hi
          exact hz i (.inr ⟨m, hm, hAn, hi⟩) e
        · rw [upd_ne _ _ _ _ e'] at hi hmA
          exact hz i (.inr ⟨m, hm, hmA, hi⟩) e
    · obtain ⟨cs, hcs⟩ := HQ4.out.tyP hi
      exact hcs.ne HZ3.out (by decide) e
  · go_wp2_with (fail)
    go_region
    obtain ⟨r', hr'⟩ : ∃ r' : QRow, r' = ⟨some ⟨(q n).g, off + 5, none⟩, k, (q n).g, r⟩ := ⟨_, rfl⟩
    have H6 := Lib.hid ((At.new w2 31 #[.int .i64 s.j.k, .int .i64 s.j.l, .int .i64 s.j.u, .int .i64 s.j.p, .slice A s.j.pos.length c]).far (p := ⟨b, 1 + n, none⟩) (by have := HO2.out.size; simp at this ⊢; omega) (.slice (some ⟨(q n).g, off + 5, none⟩) r.length k))
    have HZ3 := Lib.hid (((HZ.out.only HO2.out id).alloc (.cells #[.int .i64 s.j.k, .int .i64 s.j.l, .int .i64 s.j.u, .int .i64 s.j.p, .slice A s.j.pos.length c] 31)).far (p := ⟨b, 1 + n, none⟩) (by simp; omega) (.slice (some ⟨(q n).g, off + 5, none⟩) r.length k))
    have hOb := Only.setCell (S := fun i => i = b) (p := ⟨b, 1 + n, none⟩) (Only.refl _ (w2.alloc (.cells #[.int .i64 s.j.k, .int .i64 s.j.l, .int .i64 s.j.u, .int .i64 s.j.p, .slice A s.j.pos.length c] 31))) (fun _ => rfl) (.slice (some ⟨(q n).g, off + 5, none⟩) r.length k)
    have hst := HQ3.out.st.set (1 + n) (.slice (some ⟨(q n).g, off + 5, none⟩) r.length k)
    have hv : r'.val = .slice (some ⟨(q n).g, off + 5, none⟩) r.length k := by rw [hr']; rfl
    rw [← hv, qcells_set _ _ _ hn4] at hst
    have hrow2 : RowAt (w2.alloc (.cells #[.int .i64 s.j.k, .int .i64 s.j.l, .int .i64 s.j.u, .int .i64 s.j.p, .slice A s.j.pos.length c] 31)) (some ⟨(q n).g, off + 5, none⟩) r.length k (q n).g 31 5 (jv r) := by
      have h1 := HQ3.out.row n hn4
      rw [hA, hj, hk, jv_cons, List.length_cons] at h1
      exact h1.tail rfl
    have HQ4 : Hid (QAt ((w2.alloc (.cells #[.int .i64 s.j.k, .int .i64 s.j.l, .int .i64 s.j.u, .int .i64 s.j.p, .slice A s.j.pos.length c] 31)).setCell ⟨b, 1 + n, none⟩ (.slice (some ⟨(q n).g, off + 5, none⟩) r.length k)) b chans (upd q n r')) := Lib.hid (by
      rw [hv] at hst
      refine HQ3.out.turn hOb hst ?_ ?_ (fun i hi _ hA => HQ3.out.g_ne i hi hA) (fun i hi => HQ3.out.p_ne i hi) ?_
      · rw [hr']; exact hrow2.only hOb (fun _ => HQ3.out.g_ne n hn4 (by rw [hA]; simp))
      · rw [hr']; intro x hx
        exact (HQ3.out.ok n hn4 x (by rw [hj]; simp [hx])).only hOb (fun hA' => HQ3.out.p_ne _ ⟨n, hn4, x, by rw [hj]; simp [hx], hA', rfl⟩)
      · rw [hr']; intro i hi hne hAi _
        exact HQ3.out.far n i hn4 hi (Ne.symm hne) (by rw [hA]; simp) hAi)
    have HOB := Lib.hid ((((Only.refl (fun i => i = b) w).alloc (.cells #[.int .i64 0, .int .i64 0, .int .i64 0, .int .i64 0, .slice none 0 0] 31)).trans (HO2.out.mono (fun _ _ h => h.elim))).trans (((Only.refl _ _).alloc (.cells #[.int .i64 s.j.k, .int .i64 s.j.l, .int .i64 s.j.u, .int .i64 s.j.p, .slice A s.j.pos.length c] 31)).trans hOb))
    have HR4 := Lib.hid ((HR2.out.only ((Only.refl (fun _ => False) _).alloc (.cells #[.int .i64 s.j.k, .int .i64 s.j.l, .int .i64 s.j.u, .int .i64 s.j.p, .slice A s.j.pos.length c] 31)) (fun _ => id)).only hOb (fun _ => by simp at hg2; omega))
    generalize hw3 : (w2.alloc (.cells #[.int .i64 s.j.k, .int .i64 s.j.l, .int .i64 s.j.u, .int .i64 s.j.p, .slice A s.j.pos.length c] 31)).setCell ⟨b, 1 + n, none⟩ (.slice (some ⟨(q n).g, off + 5, none⟩) r.length k) = w3 at *
    clear hst hrow2 hv hc fc hOb HO2 HR2 HQ3
    have hr'1 : r'.js = r ∧ r'.g = (q n).g := by rw [hr']; exact ⟨rfl, rfl⟩
    have hAn : (q n).A ≠ none := by rw [hA]; simp
    clear hr' hA hj hk
    have z0 := HZ3.out.frozen 0
    have y0 := HZ3.out.cell 0
    have x0 := H6.out.cell 0
    have z1 := HZ3.out.frozen 1
    have y1 := HZ3.out.cell 1
    have x1 := H6.out.cell 1
    have z2 := HZ3.out.frozen 2
    have y2 := HZ3.out.cell 2
    have x2 := H6.out.cell 2
    have z3 := HZ3.out.frozen 3
    have y3 := HZ3.out.cell 3
    have x3 := H6.out.cell 3
    have z4 := HZ3.out.frozen 4
    have y4 := HZ3.out.cell 4
    have x4 := H6.out.cell 4
    simp at y0 y1 y2 y3 y4 x0 x1 x2 x3 x4
    go_wp2
    refine bodyPost_ret (v := .tuple #[.agg #[.int .i64 s.j.k, .int .i64 s.j.l, .int .i64 s.j.u, .int .i64 s.j.p, .slice A s.j.pos.length c], .bool true])
      (results_row_tmp (p := 4) (u := 5) (ty := 31) rfl _ _ w.heap.size 31 #[.int .i64 s.j.k, .int .i64 s.j.l, .int .i64 s.j.u, .int .i64 s.j.p, .slice A s.j.pos.length c] (0, 0) _ rfl (((((HZ3.out.set 0 _).set 1 _).set 2 _).set 3 _).set 4 _) Try.underlying31 rfl (by kernel_rfl)) rfl ?_
    have hkk : ∀ (w1 : World) v, Only (fun i => i = w.heap.size) w1 (((((w1.setCell ⟨w.heap.size, 0, none⟩ (.int .i64 s.j.k)).setCell ⟨w.heap.size, 1, none⟩ (.int .i64 s.j.l)).setCell ⟨w.heap.size, 2, none⟩ (.int .i64 s.j.u)).setCell ⟨w.heap.size, 3, none⟩ (.int .i64 s.j.p)).setCell ⟨w.heap.size, 4, none⟩ v) := by
      intro w1 v
      refine Only.setCell (S := fun i => i = w.heap.size) (p := ⟨w.heap.size, 4, none⟩) ?_ (fun _ => rfl) _
      refine Only.setCell (S := fun i => i = w.heap.size) (p := ⟨w.heap.size, 3, none⟩) ?_ (fun _ => rfl) _
      refine Only.setCell (S := fun i => i = w.heap.size) (p := ⟨w.heap.size, 2, none⟩) ?_ (fun _ => rfl) _
      refine Only.setCell (S := fun i => i = w.heap.size) (p := ⟨w.heap.size, 1, none⟩) ?_ (fun _ => rfl) _
      refine Only.setCell (S := fun i => i = w.heap.size) (p := ⟨w.heap.size, 0, none⟩) ?_ (fun _ => rfl) _
      exact Only.refl _ _
    have hg2' : w.heap.size + 1 ≤ gp := by simpa using hg2
    have hz : ∀ i, QS b q i → i ≠ w.heap.size := fun i hi => by have := HLT.out i hi; omega
    have hkd := fun v => (hkk w3 v).drew
    refine ⟨A, c, gp, r', rfl, HR4.out.only (hkd _) (fun _ h => by omega), hA2, by omega, ?_, hr'1.1, hr'1.2, hAn, HOB.out.trans' (hkd _) (fun i hi h => by omega)⟩
    refine HQ4.out.only (hkd _) (fun i hi e => ?_) (fun i hi e => ?_)
    · rcases hi with hi | ⟨m, hm, hmA, hi⟩
      · exact hz i (.inl hi) e
      · by_cases e' : m = n
        · subst e'
          rw [upd_self, hr'1.2] at hi
          exact hz i (.inr ⟨m, hm, hAn, hi⟩) e
        · rw [upd_ne _ _ _ _ e'] at hi hmA
          exact hz i (.inr ⟨m, hm, hmA, hi⟩) e
    · obtain ⟨cs, hcs⟩ := HQ4.out.tyP hi
      exact hcs.ne HZ3.out (by decide) e
end Go.Proofs.Ytgaikacjophngaa
