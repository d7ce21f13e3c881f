/- Plan: contracts of the reference's Next, of Rest, of the reference's Rest, of awake. -/
import Derived.Test.YtanoicdjbbmimaaB
namespace Go.Proofs.Ytanoicdjbbmimaa
open Go.RowKit

def RefNextPost (w : World) (b g : Nat) (l : List Int) (n : Nat) (s : Int) (e : Ending) (w' : World) : Prop :=
  e = .returned (.tuple #[.int .i64 (nextA (l.drop n)), .int .i64 (nextB (l.drop n) s)]) ∧ PlanAt w' b g 33 l ((n : Int) + 1) ∧ Only (fun k => k = b) w w'

set_option maxHeartbeats 400000 in
theorem refNext_out (b g : Nat) (l : List Int) (n : Nat) (s : Int) (w : World) (h : PlanAt w b g 33 l (n : Int)) (hn : l.length ≤ n) (hn' : n ≤ 1000000) :
    Calls Try.prog 11 #[.pointer (some ⟨b, 0, none⟩), .int .i64 s] w (RefNextPost w b g l n s) := by
  obtain ⟨A, c, hat, hrd, hc, hne⟩ := h
  have h0 := hat.cell 0
  have h1 := hat.cell 1
  have f1 := hat.frozen 1
  simp at h0 h1
  have hd : l.drop n = [] := List.drop_eq_nil_of_le hn
  have HP : Hid (PlanAt (w.setCell ⟨b, 1, none⟩ (.int .i64 ((n : Int) + 1))) b g 33 l ((n : Int) + 1)) :=
    ⟨A, c, by simpa using hat.set 1 (.int .i64 ((n : Int) + 1)), hrd.only ((Only.refl (fun k => k = b) w).setCell (fun _ => rfl) _) (fun e => hne e.symm), hc, hne⟩
  have Hd := Lib.hid hd
  clear hd hat hrd
  have hn2 : (l.length : Int) ≤ (n : Int) := by omega
  go_enter Try.func11, Try.ntmps11
  go_wp2
  go_ret2
  exact ⟨by rw [Hd.out]; rfl, HP.out, (Only.refl (fun k => k = b) _).setCell (fun _ => rfl) _⟩

set_option maxHeartbeats 2000000 in
theorem refNext_in (b g : Nat) (l : List Int) (n : Nat) (s : Int) (x : Int) (w : World) (h : PlanAt w b g 33 l (n : Int)) (hx : l[n]? = some x) (hn' : n ≤ 1000000) (x0 : 0 ≤ x) (x1 : x ≤ 255) :
    Calls Try.prog 11 #[.pointer (some ⟨b, 0, none⟩), .int .i64 s] w (RefNextPost w b g l n s) := by
  obtain ⟨hlt, hget⟩ := List.getElem?_eq_some_iff.1 hx
  obtain ⟨A, c, hat, hrd, hc, hne⟩ := h
  have h0 := hat.cell 0
  have h1 := hat.cell 1
  have f1 := hat.frozen 1
  obtain ⟨off, rfl, hg, hcell⟩ := hrd.at (by intro e; simp at e; subst e; simp at hlt)
  have hxc := hcell n (.int .u8 x) (by simp [hx])
  simp at h0 h1
  have hd : l.drop n = x :: l.drop (n + 1) := by rw [List.drop_eq_getElem_cons hlt, hget]
  have HP : Hid (PlanAt (w.setCell ⟨b, 1, none⟩ (.int .i64 ((n : Int) + 1))) b g 33 l ((n : Int) + 1)) :=
    ⟨_, c, by simpa using hat.set 1 (.int .i64 ((n : Int) + 1)), hrd.only ((Only.refl (fun k => k = b) w).setCell (fun _ => rfl) _) (fun e => hne e.symm), hc, hne⟩
  have hA : nextA (l.drop n) = saysP x := by rw [hd]; rfl
  have hB : nextB (l.drop n) s = cutB x s := by rw [hd]; rfl
  clear hd hat hrd hcell hx hget
  have hn2 : (n : Int) < (l.length : Int) := by omega
  have hPn : ∀ m, PlanAt ((w.setCell ⟨b, 1, none⟩ (.int .i64 ((n : Int) + 1))).drewN m) b g 33 l ((n : Int) + 1) := by
    intro m
    obtain ⟨A', c', q1, q2, q3, q4⟩ := HP.out
    exact ⟨A', c', q1.drewN m, q2.only ((Only.refl (fun _ => False) _).drewN m) id, q3, q4⟩
  have HPn := Lib.hid hPn
  clear hPn HP
  by_cases h3 : x % 4 = 3
  · rw [show saysP x = 0 by simp [saysP, h3]] at hA
    rw [show cutB x s = 0 by unfold cutB; rw [if_neg]; omega] at hB
    have HA := Lib.hid hA
    have HB := Lib.hid hB
    have e1 : (x % 4 == 3) = true := beq_iff_eq.2 h3
    clear hA hB h3
    go_enter Try.func11, Try.ntmps11
    go_wp2
    go_ret2
    exact ⟨ret_ii HA.out.symm HB.out.symm, HPn.out 0, (Only.refl (fun k => k = b) _).setCell (fun _ => rfl) _⟩
  · rw [show saysP x = x % 4 by simp [saysP, h3]] at hA
    have e1 : (x % 4 == 3) = false := beq_eq_false_iff_ne.2 h3
    by_cases h2 : x % 4 = 2
    · have e2 : (x % 4 != 2) = false := bne_eq_false_iff_eq.2 h2
      by_cases hs0 : s < 0
      · rw [show cutB x s = 0 by unfold cutB; rw [if_neg]; omega] at hB
        have HA := Lib.hid hA
        have HB := Lib.hid hB
        clear hA hB h3 h2
        go_enter Try.func11, Try.ntmps11
        go_wp2
        go_ret2
        exact ⟨ret_ii HA.out.symm HB.out.symm, HPn.out 0, (Only.refl (fun k => k = b) _).setCell (fun _ => rfl) _⟩
      · by_cases hs4 : 4 < s
        · rw [show cutB x s = 0 by unfold cutB; rw [if_neg]; omega] at hB
          have HA := Lib.hid hA
          have HB := Lib.hid hB
          clear hA hB h3 h2
          go_enter Try.func11, Try.ntmps11
          go_wp2
          go_ret2
          exact ⟨ret_ii HA.out.symm HB.out.symm, HPn.out 0, (Only.refl (fun k => k = b) _).setCell (fun _ => rfl) _⟩
        · rw [show cutB x s = x / 4 % (s + 1) by unfold cutB; rw [if_pos]; omega] at hB
          rw [h2] at hA
          have HA := Lib.hid hA
          have HB := Lib.hid hB
          clear hA hB h3 h2
          have s0 : 0 ≤ s := by omega
          have s4 : s ≤ 4 := by omega
          have i0 : (0 : Int) ≤ (n : Int) := by omega
          clear hs0 hs4
          go_enter Try.func11, Try.ntmps11
          go_wp2
          go_region
          go_wp2
          go_ret2
          exact ⟨ret_ii HA.out.symm HB.out.symm, HPn.out 1, ((Only.refl (fun k => k = b) _).setCell (fun _ => rfl) _).drew⟩
    · have e2 : (x % 4 != 2) = true := bne_iff_ne.2 h2
      rw [show cutB x s = 0 by unfold cutB; rw [if_neg]; omega] at hB
      have HA := Lib.hid hA
      have HB := Lib.hid hB
      clear hA hB h3 h2
      go_enter Try.func11, Try.ntmps11
      go_wp2
      go_ret2
      exact ⟨ret_ii HA.out.symm HB.out.symm, HPn.out 0, (Only.refl (fun k => k = b) _).setCell (fun _ => rfl) _⟩

theorem refNext_any (b g : Nat) (l : List Int) (n : Nat) (s : Int) (w : World) (h : PlanAt w b g 33 l (n : Int)) (hn' : n ≤ 1000000) (hl : ∀ x ∈ l, 0 ≤ x ∧ x ≤ 255) :
    Calls Try.prog 11 #[.pointer (some ⟨b, 0, none⟩), .int .i64 s] w (RefNextPost w b g l n s) := by
  rcases Nat.lt_or_ge n l.length with hlt | hge
  · have hm := hl l[n] (List.getElem_mem hlt)
    exact refNext_in b g l n s l[n] w h (List.getElem?_eq_getElem hlt) hn' hm.1 hm.2
  · exact refNext_out b g l n s w h hge hn'

def RestPost (w : World) (l : List Int) (e : Ending) (w' : World) : Prop :=
  ∃ A c, e = .returned (.slice A l.length c) ∧ l.length ≤ c ∧ w'.ownsRow w.heap.size 5 1 (.slice A l.length c) l.length (bv l) ∧ w.heap.size < w'.heap.size ∧ Only (fun _ => False) w w'

set_option maxHeartbeats 400000 in
theorem rest_any (b g : Nat) (l : List Int) (many : Int) (w : World) (h : PlanAt w b g 39 l many) (hl : l.length ≤ 1000000) :
    Calls Try.prog 13 #[.pointer (some ⟨b, 0, none⟩)] w (RestPost w l) := by
  obtain ⟨A, c, hat, hr, hc, hne⟩ := h
  have h0 := hat.cell 0
  simp at h0
  have hbl := hat.lt
  obtain ⟨i0, hi, hz0, hz1, hz2⟩ := info_parts Try.info5
  have hown := ownsRow_fresh w 5 1
  have hr' : Rd (w.alloc (.cells #[] 5)) g A (bv l) := hr.only ((Only.refl (fun _ => False) w).alloc _) id
  clear hat hr
  go_enter Try.func13, Try.ntmps13
  go_wp2_with (at_builtin; go_loud (refine wpList_append_src _ rfl (.tmp 3) (.tmp 7) 22 rfl w.heap.size 5 i0 (.int .u8 0) 1 1 Try.underlying22 hi hz0 hz1 hz2 rfl (by decide) (.slice (some ⟨w.heap.size, 0, none⟩) 0 0) 0 [] rfl hown g A l.length c (bv l) rfl (by simp) hr' (bv_one l) (by unfold maxLen; omega) (by omega) (by simp) ?_); intro A1 c1 w1 hc1 hown1 hgrow1 hat1)
  go_ret
  have ho1 : Only (fun _ => False) w w1 := ((Only.refl _ _).alloc _).grown hgrow1 (by intro i hi e; simp [Value.ownBlock] at e; omega)
  simp only [Nat.zero_add, List.nil_append] at hown1 hc1
  exact ⟨A1, c1, by simp, hc1, hown1, Nat.lt_of_lt_of_le (by simp) hgrow1.size, ho1⟩

end Go.Proofs.Ytanoicdjbbmimaa
