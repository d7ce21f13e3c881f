/- Plan: contracts of the reference's New, of Many, says, Next. -/
import Derived.Test.YtanoicdjbbmimaaA
import Derived.RegionTactic
import Derived.Deep.RegionHeld3
import Derived.StillTailTactics
namespace Go.Proofs.Ytanoicdjbbmimaa
open Go.RowKit

set_option maxHeartbeats 400000 in
theorem refNew_any (gs : Nat) (A : Option Addr) (c : Nat) (l : List Int) (w : World) (hr : Rd w gs A (bv l)) (hl : l.length ≤ 1000000) :
    Calls Try.prog 9 #[.slice A l.length c] w (NewPost w 33 l) := by
  obtain ⟨i0, hi, hz0, hz1, hz2⟩ := info_parts Try.info5
  have hown := ownsRow_fresh w 5 1
  have hr' : Rd (w.alloc (.cells #[] 5)) gs A (bv l) := hr.only ((Only.refl (fun _ => False) w).alloc _) id
  go_enter Try.func9, Try.ntmps9
  go_wp2_with (at_builtin; go_loud (refine wpList_append_src _ rfl (.tmp 3) (.tmp 4) 22 rfl w.heap.size 5 i0 (.int .u8 0) 1 1 Try.underlying22 hi hz0 hz1 hz2 rfl (by decide) (.slice (some ⟨w.heap.size, 0, none⟩) 0 0) 0 [] rfl hown gs A l.length c (bv l) rfl (by simp) hr' (bv_one l) (by unfold maxLen; omega) (by omega) (by simp) ?_); intro A1 c1 w1 hc1 hown1 hgrow1 hat1)
  go_ret
  obtain ⟨g1, hg1, hlt1, hrd1⟩ := Rd.of_row hown1 (Nat.lt_of_lt_of_le (by simp) hgrow1.size)
  have ho1 : Only (fun _ => False) w w1 := ((Only.refl _ _).alloc _).grown hgrow1 (by intro i hi e; simp [Value.ownBlock] at e; omega)
  have ho2 : Only (fun _ => False) w1 (w1.alloc (.cells #[.slice A1 (0 + l.length) c1, .int .i64 0] 33)) := (Only.refl _ _).alloc _
  have hn := At.new w1 33 #[.slice A1 (0 + l.length) c1, .int .i64 0]
  have hrd2 := hrd1.only ho2 id
  simp only [Nat.zero_add, List.nil_append] at hn hrd2 hc1
  exact ⟨w1.heap.size, g1, by simp, ho1.size, hg1, by simp, by simp; omega, ⟨A1, c1, by simpa using hn, by simpa using hrd2, hc1, by omega⟩, by simpa using ho1.trans ho2⟩

theorem many_any (b : Nat) (v : Value) (n : Int) (w : World) (h : At w b 39 #[v, .int .i64 n]) :
    Calls Try.prog 12 #[.pointer (some ⟨b, 0, none⟩)] w fun e w' => e = .returned (.int .i64 n) ∧ w = w' := by
  have h1 := h.cell 1
  simp at h1
  go_enter Try.func12, Try.ntmps12
  go_wp2
  go_ret
  exact ⟨rfl, rfl⟩

def saysP (b : Int) : Int := if b % 4 = 3 then 0 else b % 4

theorem says_any (b : Int) (w : World) (h0 : 0 ≤ b) (h1 : b ≤ 255) :
    Calls Try.prog 15 #[.int .u8 b] w fun e w' => e = .returned (.int .i64 (saysP b)) ∧ w = w' := by
  by_cases h : b % 4 = 3
  · have hs : saysP b = 0 := by simp [saysP, h]
    rw [hs]
    have h2 : 2 < b % 4 := by omega
    clear h hs
    go_enter Try.func15, Try.ntmps15
    go_wp2
    go_ret
    exact ⟨rfl, rfl⟩
  · have hs : saysP b = b % 4 := by simp [saysP, h]
    rw [hs]
    have h2 : b % 4 ≤ 2 := by omega
    clear h hs
    go_enter Try.func15, Try.ntmps15
    go_wp2
    go_ret
    exact ⟨rfl, rfl⟩

def cutB (b s : Int) : Int := if b % 4 = 2 ∧ 0 ≤ s ∧ s ≤ 4 then b / 4 % (s + 1) else 0
def nextA : List Int → Int
  | [] => 0
  | b :: _ => saysP b
def nextB (l : List Int) (s : Int) : Int := match l with
  | [] => 0
  | b :: _ => cutB b s

def NextPost (w : World) (b g : Nat) (l : List Int) (many s : Int) (e : Ending) (w' : World) : Prop :=
  e = .returned (.tuple #[.int .i64 (nextA l), .int .i64 (nextB l s)]) ∧ PlanAt w' b g 39 l.tail (many + 1) ∧ Only (fun k => k = b) w w'

set_option maxHeartbeats 400000 in
theorem next_nil (b g : Nat) (many s : Int) (w : World) (h : PlanAt w b g 39 [] many) (hm : 0 ≤ many) (hm' : many ≤ 1000000) :
    Calls Try.prog 10 #[.pointer (some ⟨b, 0, none⟩), .int .i64 s] w (NextPost w b g [] many s) := by
  obtain ⟨A, c, hat, hrd, hc, hne⟩ := h
  have h0 := hat.cell 0
  have h1 := hat.cell 1
  have f1 := hat.frozen 1
  simp at h0 h1
  go_enter Try.func10, Try.ntmps10
  go_wp2
  go_ret2
  refine ⟨rfl, ⟨A, c, by simpa using hat.set 1 (.int .i64 (many + 1)), .inl rfl, hc, hne⟩, (Only.refl (fun k => k = b) _).setCell (fun _ => rfl) _⟩

theorem next_rel {w : World} {b g off c : Nat} {x : Int} {t : List Int} {many : Int} (hat : At w b 39 #[.slice (some ⟨g, off, none⟩) (t.length + 1) c, .int .i64 many]) (hne : b ≠ g) (hg : g < w.heap.size)
    (hcell : ∀ (j : Nat) (u : Value), (bv (x :: t))[j]? = some u → w.cell? ⟨g, off + j, none⟩ = some u) (A' : Option Addr) (hA' : t = [] ∨ A' = some ⟨g, off + 1, none⟩) (n : Nat) :
    PlanAt (((w.setCell ⟨b, 1, none⟩ (.int .i64 (many + 1))).setCell ⟨b, 0, none⟩ (.slice A' t.length t.length)).drewN n) b g 39 t (many + 1) ∧
    Only (fun k => k = b) w (((w.setCell ⟨b, 1, none⟩ (.int .i64 (many + 1))).setCell ⟨b, 0, none⟩ (.slice A' t.length t.length)).drewN n) := by
  have ho : Only (fun k => k = b) w (((w.setCell ⟨b, 1, none⟩ (.int .i64 (many + 1))).setCell ⟨b, 0, none⟩ (.slice A' t.length t.length)).drewN n) :=
    ((((Only.refl (fun k => k = b) w).setCell (fun _ => rfl) _).setCell (fun _ => rfl) _).drewN n)
  refine ⟨⟨A', t.length, by simpa using ((hat.set 1 (.int .i64 (many + 1))).set 0 (.slice A' t.length t.length)).drewN n, ?_, Nat.le_refl _, hne⟩, ho⟩
  rcases hA' with rfl | rfl
  · exact .inl rfl
  have hr : Rd w g (some ⟨g, off + 1, none⟩) (bv t) := .inr ⟨off + 1, rfl, hg, fun j u hu => by
    have := hcell (j + 1) u (by simpa using hu)
    rwa [show off + (j + 1) = off + 1 + j by omega] at this⟩
  exact hr.only ho (fun e => hne e.symm)

set_option maxHeartbeats 2000000 in
theorem next_one (b g : Nat) (x : Int) (many s : Int) (w : World) (h : PlanAt w b g 39 [x] many) (hm : 0 ≤ many) (hm' : many ≤ 1000000) (x0 : 0 ≤ x) (x1 : x ≤ 255) :
    Calls Try.prog 10 #[.pointer (some ⟨b, 0, none⟩), .int .i64 s] w (NextPost w b g [x] many s) := by
  obtain ⟨A, c, hat, hrd, hc, hne⟩ := h
  have h0 := hat.cell 0
  have h1 := hat.cell 1
  have f1 := hat.frozen 1
  have f0 := hat.frozen 0
  obtain ⟨off, rfl, hg, hcell⟩ := hrd.at (by simp)
  have hx := hcell 0 (.int .u8 x) (by simp)
  simp only [List.length_cons, List.length_nil] at hat
  have HR := Lib.hid (next_rel hat hne hg hcell)
  simp at h0 h1 hx hc
  have i2 : (1 : Int) ≤ (c : Int) := by omega
  clear hcell hrd hat
  have hs := fun w => says_any x w x0 x1
  have hA : nextA (x :: ([] : List Int)) = saysP x := rfl
  have hB : nextB (x :: ([] : List Int)) s = cutB x s := rfl
  by_cases h2 : x % 4 = 2
  · have hs2 : saysP x = 2 := by simp [saysP, h2]
    rw [hs2] at hs
    have Hs := Lib.hid hs; clear hs
    rw [hs2] at hA
    have HA := Lib.hid hA
    clear hA hs2
    by_cases hs0 : s < 0
    · rw [show cutB x s = 0 by unfold cutB; rw [if_neg]; omega] at hB
      have HB := Lib.hid hB
      clear hB h2
      go_enter Try.func10, Try.ntmps10
      go_wp2_with (fail)
      go_region
      go_wp2_with (go_at_call 15; refine (Hs.out _).mono ?_; rintro e w' ⟨rfl, rfl⟩)
      go_ret2
      exact ⟨ret_ii HA.out.symm HB.out.symm, HR.out _ (by simp) 1⟩
    · by_cases hs4 : 4 < s
      · rw [show cutB x s = 0 by unfold cutB; rw [if_neg]; omega] at hB
        have HB := Lib.hid hB
        clear hB h2
        go_enter Try.func10, Try.ntmps10
        go_wp2_with (fail)
        go_region
        go_wp2_with (go_at_call 15; refine (Hs.out _).mono ?_; rintro e w' ⟨rfl, rfl⟩)
        go_ret2
        exact ⟨ret_ii HA.out.symm HB.out.symm, HR.out _ (by simp) 1⟩
      · rw [show cutB x s = x / 4 % (s + 1) by unfold cutB; rw [if_pos]; omega] at hB
        have HB := Lib.hid hB
        clear hB h2
        have s0 : 0 ≤ s := by omega
        have s4 : s ≤ 4 := by omega
        clear hs0 hs4
        go_enter Try.func10, Try.ntmps10
        go_wp2_with (fail)
        go_region
        go_wp2_with (go_at_call 15; refine (Hs.out _).mono ?_; rintro e w' ⟨rfl, rfl⟩)
        go_region
        go_wp2
        go_ret2
        exact ⟨ret_ii HA.out.symm HB.out.symm, HR.out _ (by simp) 2⟩
  · have hs2 : (saysP x != 2) = true := by rw [bne_iff_ne]; unfold saysP; split <;> omega
    rw [show cutB x s = 0 by unfold cutB; rw [if_neg]; omega] at hB
    have HA := Lib.hid hA
    have HB := Lib.hid hB
    clear hA hB h2
    generalize saysP x = y at *
    have Hs := Lib.hid hs; clear hs
    go_enter Try.func10, Try.ntmps10
    go_wp2_with (fail)
    go_region
    go_wp2_with (go_at_call 15; refine (Hs.out _).mono ?_; rintro e w' ⟨rfl, rfl⟩)
    go_ret2
    exact ⟨ret_ii HA.out.symm HB.out.symm, HR.out _ (by simp) 1⟩

set_option maxHeartbeats 2000000 in
theorem next_more (b g : Nat) (x y0 : Int) (t : List Int) (many s : Int) (w : World) (h : PlanAt w b g 39 (x :: y0 :: t) many) (hm : 0 ≤ many) (hm' : many ≤ 1000000) (x0 : 0 ≤ x) (x1 : x ≤ 255) :
    Calls Try.prog 10 #[.pointer (some ⟨b, 0, none⟩), .int .i64 s] w (NextPost w b g (x :: y0 :: t) many s) := by
  obtain ⟨A, c, hat, hrd, hc, hne⟩ := h
  have h0 := hat.cell 0
  have h1 := hat.cell 1
  have f1 := hat.frozen 1
  have f0 := hat.frozen 0
  obtain ⟨off, rfl, hg, hcell⟩ := hrd.at (by simp)
  have hx := hcell 0 (.int .u8 x) (by simp)
  simp only [List.length_cons, List.length_nil] at hat
  have HR := Lib.hid (next_rel hat hne hg hcell)
  simp at h0 h1 hx hc
  have i1 : (0 : Int) ≤ (t.length : Int) + 1 + 1 := by omega
  have i2 : (t.length : Int) + 1 + 1 ≤ (c : Int) := by omega
  have i3 : (1 : Int) ≤ (t.length : Int) + 1 + 1 := by omega
  have i4 : ((t.length : Int) + 1 + 1 == 0) = false := beq_eq_false_iff_ne.2 (by omega)
  clear hcell hrd hat
  have hs := fun w => says_any x w x0 x1
  have hA : nextA (x :: y0 :: t) = saysP x := rfl
  have hB : nextB (x :: y0 :: t) s = cutB x s := rfl
  by_cases h2 : x % 4 = 2
  · have hs2 : saysP x = 2 := by simp [saysP, h2]
    rw [hs2] at hs
    have Hs := Lib.hid hs; clear hs
    rw [hs2] at hA
    have HA := Lib.hid hA
    clear hA hs2
    by_cases hs0 : s < 0
    · rw [show cutB x s = 0 by unfold cutB; rw [if_neg]; omega] at hB
      have HB := Lib.hid hB
      clear hB h2
      go_enter Try.func10, Try.ntmps10
      go_wp2_with (fail)
      go_region
      go_wp2_with (go_at_call 15; refine (Hs.out _).mono ?_; rintro e w' ⟨rfl, rfl⟩)
      go_ret2
      exact ⟨ret_ii HA.out.symm HB.out.symm, HR.out _ (.inr rfl) 1⟩
    · by_cases hs4 : 4 < s
      · rw [show cutB x s = 0 by unfold cutB; rw [if_neg]; omega] at hB
        have HB := Lib.hid hB
        clear hB h2
        go_enter Try.func10, Try.ntmps10
        go_wp2_with (fail)
        go_region
        go_wp2_with (go_at_call 15; refine (Hs.out _).mono ?_; rintro e w' ⟨rfl, rfl⟩)
        go_ret2
        exact ⟨ret_ii HA.out.symm HB.out.symm, HR.out _ (.inr rfl) 1⟩
      · rw [show cutB x s = x / 4 % (s + 1) by unfold cutB; rw [if_pos]; omega] at hB
        have HB := Lib.hid hB
        clear hB h2
        have s0 : 0 ≤ s := by omega
        have s4 : s ≤ 4 := by omega
        clear hs0 hs4
        go_enter Try.func10, Try.ntmps10
        go_wp2_with (fail)
        go_region
        go_wp2_with (go_at_call 15; refine (Hs.out _).mono ?_; rintro e w' ⟨rfl, rfl⟩)
        go_region
        go_wp2
        go_ret2
        exact ⟨ret_ii HA.out.symm HB.out.symm, HR.out _ (.inr rfl) 2⟩
  · have hs2 : (saysP x != 2) = true := by rw [bne_iff_ne]; unfold saysP; split <;> omega
    rw [show cutB x s = 0 by unfold cutB; rw [if_neg]; omega] at hB
    have HA := Lib.hid hA
    have HB := Lib.hid hB
    clear hA hB h2
    generalize saysP x = y at *
    have Hs := Lib.hid hs; clear hs
    go_enter Try.func10, Try.ntmps10
    go_wp2_with (fail)
    go_region
    go_wp2_with (go_at_call 15; refine (Hs.out _).mono ?_; rintro e w' ⟨rfl, rfl⟩)
    go_ret2
    exact ⟨ret_ii HA.out.symm HB.out.symm, HR.out _ (.inr rfl) 1⟩

theorem next_any (b g : Nat) (l : List Int) (many s : Int) (w : World) (h : PlanAt w b g 39 l many) (hm : 0 ≤ many) (hm' : many ≤ 1000000) (hl : ∀ x ∈ l, 0 ≤ x ∧ x ≤ 255) :
    Calls Try.prog 10 #[.pointer (some ⟨b, 0, none⟩), .int .i64 s] w (NextPost w b g l many s) := by
  rcases l with _ | ⟨x, _ | ⟨y, t⟩⟩
  · exact next_nil b g many s w h hm hm'
  · exact next_one b g x many s w h hm hm' (hl x (by simp)).1 (hl x (by simp)).2
  · exact next_more b g x y t many s w h hm hm' (hl x (by simp)).1 (hl x (by simp)).2

end Go.Proofs.Ytanoicdjbbmimaa
