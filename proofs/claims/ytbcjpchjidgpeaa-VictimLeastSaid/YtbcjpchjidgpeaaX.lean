/- Victim: the sorted list is the document's order; VictimOrders, walked. -/
import Derived.Test.YtbcjpchjidgpeaaW
namespace Go.Proofs.Ytbcjpchjidgpeaa
open Go.RowKit

theorem cnt_mayL (l : List Ln) (k : Nat) (hk : k ≤ l.length) : (mayL l k).length = cntTo l k := by
  induction k with
  | zero => rfl
  | succ k ih =>
    have hg := gl_get l k (by omega)
    simp only [mayL, cntTo, hg]
    split
    · rw [List.length_append, ih (by omega)]; rfl
    · exact ih (by omega)
theorem rk_mono (l : List Ln) (i j : Nat) (h : lt l i j) : ∀ k, k ≤ l.length → rkTo l (gl l i) i k ≤ rkTo l (gl l j) j k ∧ (i < k → (gl l i).may = true → rkTo l (gl l i) i k < rkTo l (gl l j) j k) := by
  intro k
  induction k with
  | zero => intro _; exact ⟨Nat.le_refl _, fun h => by omega⟩
  | succ k ih =>
    intro hk
    obtain ⟨h1, h2⟩ := ih (by omega)
    have hg := gl_get l k (by omega)
    simp only [rkTo, hg]
    by_cases hm : (gl l k).may = true ∧ bt (gl l k) (gl l i) k i = true
    · have hm2 : (gl l k).may = true ∧ bt (gl l k) (gl l j) k j = true := ⟨hm.1, bt_trans hm.2 h⟩
      rw [if_pos hm, if_pos hm2]
      refine ⟨by omega, fun h3 h4 => ?_⟩
      have : i ≠ k := fun e => by subst e; rw [bt_irrefl] at hm; exact absurd hm.2 (by decide)
      have := h2 (by omega) h4
      omega
    · rw [if_neg hm]
      by_cases hik : i = k
      · subst hik
        by_cases hmm : (gl l i).may = true
        · rw [if_pos ⟨hmm, h⟩]
          exact ⟨by omega, fun _ _ => by omega⟩
        · refine ⟨?_, fun _ h4 => absurd h4 hmm⟩
          split <;> omega
      · refine ⟨?_, fun h3 h4 => ?_⟩
        · split <;> omega
        · have := h2 (by omega) h4
          split <;> omega
theorem rk_lt (l : List Ln) (i : Nat) (hi : i < l.length) (hm : (gl l i).may = true) : rkTo l (gl l i) i l.length < cntTo l l.length := rkTo_lt l (gl l i) i l.length (gl_get l i hi) hm hi
theorem outTo_at (l : List Ln) : ∀ k, k ≤ l.length → ∀ i, i < k → (gl l i).may = true → (outTo l (cntTo l l.length) k)[rkTo l (gl l i) i l.length]? = some (i : Int) := by
  intro k
  induction k with
  | zero => intro _ i hi; omega
  | succ k ih =>
    intro hk i hi hm
    have hg := gl_get l k (by omega)
    have hlen := outTo_length l (cntTo l l.length) k
    simp only [outTo, hg]
    by_cases hik : i = k
    · subst hik
      rw [if_pos hm, List.getElem?_set_self (by rw [hlen]; exact rk_lt l i (by omega) hm)]
    · have h0 := ih (by omega) i (by omega) hm
      split
      · rename_i hmk
        have hne : rkTo l (gl l k) k l.length ≠ rkTo l (gl l i) i l.length := by
          rcases lt_total l hik with h | h
          · have := (rk_mono l i k h l.length (Nat.le_refl _)).2 (by omega) hm; omega
          · have := (rk_mono l k i h l.length (Nat.le_refl _)).2 (by omega) hmk; omega
        rw [List.getElem?_set_ne hne]; exact h0
      · exact h0
/-- A list of the lines that may be moved, sorted, is the document's order. -/
theorem ord_out (l : List Ln) (d : List Nat) (hp : d.Perm (mayL l l.length)) (hs : So l d 0 d.length) : d.length = cntTo l l.length ∧ d.map (fun n : Nat => (n : Int)) = outTo l (cntTo l l.length) l.length := by
  have hlen : d.length = cntTo l l.length := by rw [hp.length_eq, cnt_mayL l _ (Nat.le_refl _)]
  have hmem : ∀ p, p < d.length → ix d p < l.length ∧ (gl l (ix d p)).may = true := fun p h => (mem_mayL l _ _).1 (hp.mem_iff.1 (ix_mem d p h))
  have hup : ∀ p q, p < q → q < d.length → rkTo l (gl l (ix d p)) (ix d p) l.length < rkTo l (gl l (ix d q)) (ix d q) l.length := fun p q h1 h2 => by
    have hm := hmem p (by omega)
    exact (rk_mono l _ _ (hs p q (by omega) h1 h2) l.length (Nat.le_refl _)).2 hm.1 hm.2
  have hlo : ∀ p, p < d.length → p ≤ rkTo l (gl l (ix d p)) (ix d p) l.length := by
    intro p
    induction p with
    | zero => intro _; omega
    | succ p ih => intro h; have h1 := ih (by omega); have h2 := hup p (p + 1) (by omega) h; omega
  have hhi : ∀ m p, p < d.length → d.length - p = m → rkTo l (gl l (ix d p)) (ix d p) l.length + m ≤ d.length := by
    intro m
    induction m with
    | zero => intro p h1 h2; omega
    | succ m ih =>
      intro p h1 h2
      by_cases hp1 : p + 1 < d.length
      · have h3 := ih (p + 1) hp1 (by omega)
        have h4 := hup p (p + 1) (by omega) hp1
        omega
      · have hm := hmem p h1
        have := rk_lt l _ hm.1 hm.2
        rw [← hlen] at this
        omega
  refine ⟨hlen, List.ext_getElem? fun p => ?_⟩
  by_cases h : p < d.length
  · have h1 := hlo p h
    have h2 := hhi _ p h rfl
    have h3 : rkTo l (gl l (ix d p)) (ix d p) l.length = p := by omega
    have hm := hmem p h
    have h4 := outTo_at l l.length (Nat.le_refl _) (ix d p) hm.1 hm.2
    rw [h3] at h4
    rw [h4]
    simp [ix, List.getD, h]
  · rw [List.getElem?_eq_none (by simp; omega), List.getElem?_eq_none (by rw [outTo_length]; omega)]
theorem nv_map (d : List Nat) : nv d = (d.map (fun n : Nat => (n : Int))).map (Value.int .i64) := by simp [nv]
theorem ord_one {l : List Ln} {d e : List Nat} (h1 : d.Perm (mayL l l.length)) (h2 : So l d 0 d.length) (h3 : e.Perm (mayL l l.length)) (h4 : So l e 0 e.length) : d = e := by
  have := (ord_out l d h1 h2).2.trans (ord_out l e h3 h4).2.symm
  exact (List.map_inj_right (fun a b hab => by have : (a : Int) = b := hab; omega)).1 this

theorem nrow_cell {w : World} {A : Option Addr} {n c g : Nat} {d : List Nat} {m : Nat} (h : RowAt w A n c g 3 1 (nv d)) (hm : m < d.length) : ∃ off, A = some ⟨g, off, none⟩ ∧ w.cell? ⟨g, off + m, none⟩ = some (.int .i64 (ix d m : Int)) := by
  obtain ⟨off, hA, hc⟩ := nrow_at h (by omega)
  exact ⟨off, hA, (hc m hm).1⟩

set_option maxHeartbeats 4000000 in
theorem same_any (l : List Nat) (A A' : Option Addr) (c c' g g' : Nat) (w : World) (h : RowAt w A l.length c g 3 1 (nv l)) (h' : RowAt w A' l.length c' g' 3 1 (nv l)) :
    Calls Try.prog 14 #[.slice A l.length c, .slice A' l.length c'] w fun e w' => e = .returned (.bool true) ∧ Only (fun _ => False) w w' := by
  have HA := Lib.hid h
  have HB := Lib.hid h'
  have hle : l.length ≤ 9223372036854775807 := by
    have : maxLen = 9223372036854775807 := rfl
    rcases h with ⟨_, h0, _⟩ | ⟨_, _, _, _, h1, h2, _⟩ <;> omega
  obtain ⟨n, hn⟩ : ∃ n, l.length = n := ⟨_, rfl⟩
  have HN := Lib.hid hn
  rw [hn] at hle ⊢
  clear hn h h'
  go_enter Try.func14, Try.ntmps14
  have t0 : ((n : Int) != (n : Int)) = false := by simp
  go_wp2_with (fail)
  go_loopw [5] (fun v5 wr => ∃ q : Nat, q ≤ n ∧ v5 = .int .i64 q ∧ Only (fun _ => False) w wr) (fun v5 wr => (n - intOf v5).toNat)
  case atStart => exact ⟨0, by omega, rfl, Only.refl _ _⟩
  case round =>
    obtain ⟨q, hq, rfl, hO⟩ := hrel
    have HO := Lib.hid hO
    by_cases hqn : q < n
    · have hqs : q < l.length := by rw [HN.out]; exact hqn
      obtain ⟨off, rfl, hc⟩ := nrow_cell (HA.out.only hO (fun _ => id)) hqs
      obtain ⟨off', rfl, hc'⟩ := nrow_cell (HB.out.only hO (fun _ => id)) hqs
      clear hO
      generalize ix l q = z at *
      have q0 : (0 : Int) ≤ q := by omega
      have q1 : (q : Int) < n := by omega
      have t1 : ((z : Int) != (z : Int)) = false := by simp
      go_wp2_with (fail)
      go_region
      go_wp2
      go_roundw
      case rel => exact ⟨q + 1, by omega, by simp, HO.out.drewN _⟩
      case measure => simp [intOf]; omega
    · obtain rfl : q = n := by omega
      have q1 : ¬ (q : Int) < q := by omega
      go_wp2
      go_ret
      exact ⟨rfl, HO.out⟩

theorem row_of_order {w : World} {gb n : Nat} {d : List Nat} {o : List Int} (h : At w gb 3 (oc o)) (ho : d.map (fun n : Nat => (n : Int)) = o) (hn : d.length = n) (hl : n ≤ 1000000) : RowAt w (some ⟨gb, 0, none⟩) n n gb 3 1 (nv d) := by
  subst ho
  subst hn
  refine .inr ⟨0, _, rfl, h, Nat.le_refl _, by unfold maxLen; omega, by simp [oc], by rw [nv_len]; omega, fun j u hu => ?_⟩
  simp only [oc, Nat.zero_add, ← nv_map]
  simpa using hu

set_option maxHeartbeats 1000000 in
theorem victimOrders_walk (g c : Nat) (A : Option Addr) (l : List Ln) (w : World) (hr : Rd w g A (lv l)) :
    Calls Try.prog 5 #[.slice A l.length c] w fun e w' => e = .returned (.bool true) ∧ Below w.heap.size w w' := by
  have HR := Lib.hid hr
  clear hr
  by_cases hbig : 300 < l.length
  · go_enter Try.func5, Try.ntmps5
    go_wp2_with (go_at_call 9; refine (awake_any _).mono ?_; rintro e w0 ⟨rfl, hO⟩; have HO := Lib.hid hO; clear hO)
    go_ret
    exact ⟨rfl, HO.out.below (Nat.le_refl _) (fun _ _ h => h)⟩
  · have hsm : l.length ≤ 300 := by omega
    clear hbig
    go_enter Try.func5, Try.ntmps5
    go_wp2_with (fail)
    refine (awake_any _).mono ?_
    rintro e w0 ⟨rfl, hO⟩
    have Hp := Lib.hid (order_any g c A l w0 (by omega) (HR.out.only hO id))
    have HO := Lib.hid hO
    clear hO
    go_wp2_with (fail)
    refine Hp.out.mono ?_
    rintro e w1 ⟨A1, c1, g1, d, rfl, hrow, hp, hs, hO1⟩
    have HO1 := Lib.hid (HO.out.trans hO1)
    have HROW := Lib.hid hrow
    obtain ⟨o1, o2⟩ := ord_out l d hp hs
    have Hq := Lib.hid (refOrder_any g c A l w1 (by omega) (HR.out.only (HO.out.trans hO1) id))
    have HOO := Lib.hid (And.intro o1 o2)
    clear hO1 Hp hrow hp hs o1 o2
    go_wp2_with (fail)
    refine Hq.out.mono ?_
    rintro e w2 ⟨gb, rfl, hgb, hat, hO2⟩
    have hdl : d.length ≤ 1000000 := by rw [HOO.out.1]; have := cnt_le l l.length; omega
    have hS := same_any d A1 (some ⟨gb, 0, none⟩) c1 d.length g1 gb w2 (HROW.out.only hO2 (fun _ => id)) (row_of_order hat HOO.out.2 rfl hdl)
    have HO2 := Lib.hid (HO1.out.trans hO2)
    rw [HOO.out.1] at hS
    have HS := Lib.hid hS
    rw [HOO.out.1]
    clear hO2 Hq hat hS
    go_wp2_with (fail)
    refine HS.out.mono ?_
    rintro e w3 ⟨rfl, hO3⟩
    have HO3 := Lib.hid (HO2.out.trans hO3)
    clear hO3
    go_wp2
    go_ret
    exact ⟨by simp, HO3.out.below (Nat.le_refl _) (fun _ _ h => h)⟩
end Go.Proofs.Ytbcjpchjidgpeaa
