/- Gate: Take, of either kind; the reference's Take and Fill. -/
import Derived.Test.YtpfgjnklfdfiaaaI
namespace Go.Proofs.Ytpfgjnklfdfiaaa
open Go.RowKit Go.Conc

def lessU (nu : Nat) (kind : Int) : Nat := if kind = 1 then nu - 1 else nu
def lessM (nm : Nat) (kind : Int) : Nat := if kind = 2 then nm - 1 else nm

theorem At.chan {w : World} {b c cap s r : Nat} {t : TypeId} {cs buf : Array Value} (h : At w b t cs) (hne : b ≠ c) : At (w.setChan c cap buf false s r false) b t cs := h.setChan (Ne.symm hne) _ _ _ _ _ _

theorem take_any (b cu cm many nu nm : Nat) (kind : Int) (w : World) (h : GAt w b cu cm many nu nm) :
    Calls Try.prog 13 #[.pointer (some ⟨b, 0, none⟩), .int .i64 kind] w fun e w' => e = .returned (.bool (decide (0 < leftN nu nm kind))) ∧ GAt w' b cu cm many (lessU nu kind) (lessM nm kind) ∧ Only (fun i => i = cu ∨ i = cm) w w' := by
  by_cases h0 : leftN nu nm kind = 0
  · refine (take_none b cu cm many nu nm kind w h h0).mono ?_
    rintro e w' ⟨rfl, rfl⟩
    refine ⟨by simp [h0], ?_, Only.refl _ _⟩
    have e1 : lessU nu kind = nu := by
      by_cases h1 : kind = 1
      · simp [leftN, h1] at h0; simp [lessU, h0]
      · simp [lessU, h1]
    have e2 : lessM nm kind = nm := by
      by_cases h2 : kind = 2
      · subst h2; simp [leftN] at h0; simp [lessM, h0]
      · simp [lessM, h2]
    rw [e1, e2]; exact h
  · obtain ⟨hn1, hn2, hn3⟩ := h.ne
    have ho := of_any b cu cm many nu nm kind w h
    by_cases h1 : kind = 1
    · subst h1
      have hl : leftN nu nm 1 = nu := rfl
      rw [hl] at h0 ⊢
      obtain ⟨n, rfl⟩ : ∃ n, nu = n + 1 := ⟨nu - 1, by omega⟩
      have e1 : ofC cu cm 1 = some cu := rfl
      rw [e1] at ho
      refine (take_ch b cu many n 1 w h.u ho).mono ?_
      rintro e w' ⟨rfl, s, r, rfl⟩
      have d : decide (0 < n + 1) = true := by simp
      rw [d]
      exact ⟨rfl, ⟨h.st.chan hn2, ChAt.here h.u.lt _ _ _ _, h.m.far (Ne.symm hn1), h.ne⟩, (Only.refl _ _).setChan (fun _ => Or.inl rfl) _ _ _ _ _ _⟩
    · by_cases h2 : kind = 2
      · subst h2
        have hl : leftN nu nm 2 = nm := rfl
        rw [hl] at h0 ⊢
        obtain ⟨n, rfl⟩ : ∃ n, nm = n + 1 := ⟨nm - 1, by omega⟩
        have e1 : ofC cu cm 2 = some cm := rfl
        rw [e1] at ho
        refine (take_ch b cm many n 2 w h.m ho).mono ?_
        rintro e w' ⟨rfl, s, r, rfl⟩
        have d : decide (0 < n + 1) = true := by simp
        rw [d]
        exact ⟨rfl, ⟨h.st.chan hn3, h.u.far hn1, ChAt.here h.m.lt _ _ _ _, h.ne⟩, (Only.refl _ _).setChan (fun _ => Or.inr rfl) _ _ _ _ _ _⟩
      · exact absurd (by simp [leftN, h1, h2]) h0

set_option maxHeartbeats 2000000 in
theorem reftake_any (r many nu nm : Nat) (kind : Int) (w : World) (h : RAt w r many nu nm) (hu : nu ≤ 256) (hm : nm ≤ 256) :
    Calls Try.prog 14 #[.pointer (some ⟨r, 0, none⟩), .int .i64 kind] w fun e w' => e = .returned (.bool (decide (0 < leftN nu nm kind))) ∧ RAt w' r many (lessU nu kind) (lessM nm kind) ∧ Only (fun i => i = r) w w' := by
  have Hl := Lib.hid (refleft_any r many nu nm kind w h)
  have hr := h
  obtain ⟨z, h⟩ := h
  have c0 := h.cell 2
  have c1 := h.cell 3
  have f0 := h.frozen 2
  have f1 := h.frozen 3
  simp at c0 c1
  by_cases h0 : leftN nu nm kind = 0
  · have d : decide (0 < leftN nu nm kind) = false := by simp [h0]
    have e1 : lessU nu kind = nu := by
      by_cases h1 : kind = 1
      · simp [leftN, h1] at h0; simp [lessU, h0]
      · simp [lessU, h1]
    have e2 : lessM nm kind = nm := by
      by_cases h2 : kind = 2
      · subst h2; simp [leftN] at h0; simp [lessM, h0]
      · simp [lessM, h2]
    rw [d, e1, e2]
    clear d e1 e2
    rw [h0] at Hl
    clear h0
    go_enter Try.func14, Try.ntmps14
    go_wp2_with (fail)
    refine Hl.out.mono ?_
    rintro e w1 ⟨rfl, rfl⟩
    go_wp2
    go_ret
    exact ⟨rfl, hr, Only.refl _ _⟩
  · by_cases h1 : kind = 1
    · subst h1
      have hl : leftN nu nm 1 = nu := rfl
      rw [hl] at h0 Hl ⊢
      have d : decide (0 < nu) = true := by simp; omega
      rw [d]
      obtain ⟨x, hx⟩ : ∃ x : Int, x = (nu : Int) := ⟨_, rfl⟩
      rw [← hx] at Hl c0
      have x1 : 1 ≤ x := by omega
      have x2 : x ≤ 256 := by omega
      have t : (x == 0) = false := beq_false_of_ne (by omega)
      have hres : RAt (w.setCell ⟨r, 2, none⟩ (.int .i64 (x - 1))) r many (lessU nu 1) (lessM nm 1) := ⟨z, by
        have e := h.set 2 (.int .i64 (x - 1))
        have ex : x - 1 = ((nu - 1 : Nat) : Int) := by omega
        rw [ex] at e ⊢
        exact e⟩
      have Hres := Lib.hid hres
      clear h0 d hr hl hx hres
      go_enter Try.func14, Try.ntmps14
      go_wp2_with (fail)
      refine Hl.out.mono ?_
      rintro e w1 ⟨rfl, rfl⟩
      go_wp2
      go_region
      all_goals (go_wp2; go_ret; exact ⟨rfl, Hres.out, (Only.setCell (S := fun i => i = r) (p := ⟨r, _, none⟩) (Only.refl _ w1) (fun _ => rfl) _).drew⟩)
    · by_cases h2 : kind = 2
      · subst h2
        have hl : leftN nu nm 2 = nm := rfl
        rw [hl] at h0 Hl ⊢
        have d : decide (0 < nm) = true := by simp; omega
        rw [d]
        obtain ⟨x, hx⟩ : ∃ x : Int, x = (nm : Int) := ⟨_, rfl⟩
        rw [← hx] at Hl c1
        have x1 : 1 ≤ x := by omega
        have x2 : x ≤ 256 := by omega
        have t : (x == 0) = false := beq_false_of_ne (by omega)
        have hres : RAt (w.setCell ⟨r, 3, none⟩ (.int .i64 (x - 1))) r many (lessU nu 2) (lessM nm 2) := ⟨z, by
          have e := h.set 3 (.int .i64 (x - 1))
          have ex : x - 1 = ((nm - 1 : Nat) : Int) := by omega
          rw [ex] at e ⊢
          exact e⟩
        have Hres := Lib.hid hres
        clear h0 d hr hl hx hres
        go_enter Try.func14, Try.ntmps14
        go_wp2_with (fail)
        refine Hl.out.mono ?_
        rintro e w1 ⟨rfl, rfl⟩
        go_wp2
        go_region
        all_goals (go_wp2; go_ret; exact ⟨rfl, Hres.out, (Only.setCell (S := fun i => i = r) (p := ⟨r, _, none⟩) (Only.refl _ w1) (fun _ => rfl) _).drew⟩)
      · exact absurd (by simp [leftN, h1, h2]) h0

end Go.Proofs.Ytpfgjnklfdfiaaa
