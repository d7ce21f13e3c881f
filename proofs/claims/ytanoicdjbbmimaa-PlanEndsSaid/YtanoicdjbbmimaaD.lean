/- Plan: contracts of the reference's Rest and of awake. -/
import Derived.Test.YtanoicdjbbmimaaC
namespace Go.Proofs.Ytanoicdjbbmimaa
open Go.RowKit

def RefRestPost (w : World) (g : Nat) (l : List Int) (n : Nat) (e : Ending) (w' : World) : Prop :=
  ∃ A c m, e = .returned (.slice A (l.length - n) c) ∧ Rd w' g A (bv (l.drop n)) ∧ w' = w.drewN m

set_option maxHeartbeats 400000 in
theorem refRest_any (b g : Nat) (l : List Int) (n : Nat) (w : World) (h : PlanAt w b g 33 l (n : Int)) (hn : n ≤ 1000000) :
    Calls Try.prog 14 #[.pointer (some ⟨b, 0, none⟩)] w (RefRestPost w g l n) := by
  obtain ⟨A, c, hat, hr, hc, hne⟩ := h
  have h0 := hat.cell 0
  have h1 := hat.cell 1
  simp at h0 h1
  clear hat
  by_cases hlt : n < l.length
  · obtain ⟨off, rfl, hg, hcell⟩ := hr.at (by intro e; simp at e; subst e; simp at hlt)
    have hR : Rd w g (some ⟨g, off + n, none⟩) (bv (l.drop n)) := .inr ⟨off + n, rfl, hg, fun j u hu => by
      have := hcell (n + j) u (by rw [← hu]; simp [List.getElem?_drop])
      rwa [← Nat.add_assoc] at this⟩
    have i1 : (0 : Int) ≤ (n : Int) := by omega
    have i2 : (n : Int) < (l.length : Int) := by omega
    have i3 : (n : Int) ≤ (l.length : Int) := by omega
    have i4 : (l.length : Int) ≤ (c : Int) := by omega
    clear hcell hr
    go_enter Try.func14, Try.ntmps14
    go_wp2
    go_region
    go_wp2
    go_ret
    refine ⟨some ⟨g, off + n, none⟩, c - n, 1, ?_, hR.only ((Only.refl (fun _ => False) _).drewN 1) id, rfl⟩
    simp [show ¬ c = n by omega, show min n l.length = n by omega]
  · have i3 : (l.length : Int) ≤ (n : Int) := by omega
    have i4 : (l.length : Int) ≤ (c : Int) := by omega
    have hd : l.drop n = [] := List.drop_eq_nil_of_le (by omega)
    have hz : l.length - n = 0 := by omega
    have Hz := Lib.hid hz
    have Hd := Lib.hid hd
    clear hr hd hz
    go_enter Try.func14, Try.ntmps14
    go_wp2
    go_region
    go_wp2
    all_goals
      go_ret
      unfold RefRestPost
      rw [Hz.out]
      exact ⟨_, _, 1, rfl, .inl (by rw [Hd.out]; rfl), rfl⟩

set_option maxHeartbeats 1000000 in
theorem awake_any (w : World) : Calls Try.prog 7 #[] w fun e w' => e = .returned (.bool true) ∧ Below w.heap.size w w' := by
  have hrd : Rd (w.alloc (.cells #[.int .u8 1] 5)) w.heap.size (some ⟨w.heap.size, 0, none⟩) (bv [1]) := .inr ⟨0, rfl, by simp, fun j u hu => by
    match j, hu with
    | 0, hu => simp at hu; subst hu; exact (At.new w 5 #[.int .u8 1]).cell 0
    | j + 1, hu => simp at hu⟩
  have hnew := new_any w.heap.size (some ⟨w.heap.size, 0, none⟩) 1 [1] _ hrd (by simp)
  have Hnew := Lib.hid hnew
  clear hrd hnew
  go_enter Try.func7, Try.ntmps7
  go_wp2_with (fail)
  refine Hnew.out.mono ?_
  rintro e w1 ⟨b, g, rfl, hb, hg, hlt, _, hP, hO⟩
  have hnext := next_any b g [1] 0 1 w1 hP (by omega) (by omega) (by simp)
  have HO := Lib.hid hO
  have Hnext := Lib.hid hnext
  have Hb := Lib.hid hb
  clear hO hnext hb hg hP Hnew
  go_wp2_with (fail)
  refine Hnext.out.mono ?_
  rintro e w2 ⟨rfl, hP2, hO2⟩
  obtain ⟨A2, c2, hat2, _, _, _⟩ := hP2
  have hmany := many_any b _ _ w2 hat2
  have Hmany := Lib.hid hmany
  have HO2 := Lib.hid hO2
  clear hat2 hmany hO2 Hnext
  have e1 : nextA [1] = 1 := by decide
  have e2 : nextB [1] 1 = 0 := by decide
  rw [e1, e2]
  clear e1 e2
  go_wp2_with (fail)
  refine Hmany.out.mono ?_
  rintro e w3 ⟨rfl, rfl⟩
  go_wp2
  go_ret
  refine ⟨by simp, ?_⟩
  have hb := Hb.out
  simp at hb
  exact (((Only.refl (fun k => w.heap.size ≤ k) w).alloc _).trans ((HO.out.mono (fun _ _ h => h.elim)).trans (HO2.out.mono (fun i _ h => by subst h; omega)))).below (Nat.le_refl _) (fun i hi h => by omega)

end Go.Proofs.Ytanoicdjbbmimaa
