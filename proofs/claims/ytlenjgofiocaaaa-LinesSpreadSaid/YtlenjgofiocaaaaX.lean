/- Lines: LinesUsed walked. -/
import Derived.Test.YtlenjgofiocaaaaV
namespace Go.Proofs.Ytlenjgofiocaaaa
open Go.RowKit

theorem newL_get {good wear : List Int} {n i : Nat} (hi : i < (newL good wear n).length) : (newL good wear n)[i] = ⟨un (good.getD i 0), wear.getD i 0, good.getD i 0⟩ := by
  induction n with
  | zero => simp [newL] at hi
  | succ n ih =>
    have hl := newL_len good wear n
    simp only [newL] at hi ⊢
    by_cases h : i < n
    · rw [List.getElem_append_left (by omega)]
      exact ih (by omega)
    · have : i = n := by simp [hl] at hi; omega
      subst this
      rw [List.getElem_append_right (by omega)]
      simp [hl]
theorem newOk_g {G : Ge} {good wear : List Int} (h : newOk G good wear) : G.Is ∧ gOk (newL good wear good.length) ∧ (∀ x ∈ newL good wear good.length, 0 ≤ x.w ∧ x.w ≤ 2147483647) ∧ (∀ x ∈ newL good wear good.length, x.s = un x.g) := by
  have hG := Ge.is_of h.1
  have hu := hG.u
  have hx : ∀ x ∈ newL good wear good.length, (0 ≤ x.g ∧ x.g ≤ 8) ∧ (0 ≤ x.w ∧ x.w ≤ 2147483647) ∧ x.s = un x.g := by
    intro x hx
    obtain ⟨i, hi, rfl⟩ := List.getElem_of_mem hx
    rw [newL_get hi]
    have hl := newL_len good wear good.length
    have h1 := h.2.2.2 i (by omega)
    have h2 : G.u = G.c * G.l := rfl
    refine ⟨⟨h1.1, ?_⟩, ⟨h1.2.2.1, h1.2.2.2⟩, rfl⟩
    show good.getD i 0 ≤ 8
    omega
  exact ⟨hG, fun x h => (hx x h).1, fun x h => (hx x h).2.1, fun x h => (hx x h).2.2⟩
theorem findE_out {l : List Ln} {n st : Int} (h : n < 0 ∨ (l.length : Int) ≤ n) : findE l n st = 2 := by unfold findE; rw [if_pos h]
theorem findE_in {l : List Ln} {i : Nat} (h : i < l.length) (st : Int) : findE l i st = if (l[i]).s = st then 0 else 13 := by unfold findE; rw [if_neg (by omega), at'_nat h]

set_option maxRecDepth 100000 in
set_option maxHeartbeats 8000000 in
theorem linesUsed_walk (G : Ge) (hw : G.Wf) (good wear : List Int) (Ag Aw : Option Addr) (cg cw gg gw : Nat) (n : Int) (w : World) (hg : Rd w gg Ag (iv good)) (hwr : Rd w gw Aw (iv wear)) :
    Calls Try.prog 6 #[G.val, .agg #[.slice Ag good.length cg, .slice Aw wear.length cw], .int .i64 n] w fun e w' => e = .returned (.bool true) ∧ Below w.heap.size w w' := by
  have o1 := (Only.refl (fun _ => False) w).alloc (.cells #[.int .i64 G.c, .int .i64 G.l, .int .i64 G.b, .int .i64 G.p, .int .i64 G.s] 23)
  have n1 := At.new w 23 #[.int .i64 G.c, .int .i64 G.l, .int .i64 G.b, .int .i64 G.p, .int .i64 G.s]
  have hs1 : (w.alloc (.cells #[.int .i64 G.c, .int .i64 G.l, .int .i64 G.b, .int .i64 G.p, .int .i64 G.s] 23)).heap.size = w.heap.size + 1 := by simp
  have HO0 := Lib.hid (o1.alloc (.cells #[.slice Ag good.length cg, .slice Aw wear.length cw] 36))
  have HN0 := Lib.hid (n1.alloc (.cells #[.slice Ag good.length cg, .slice Aw wear.length cw] 36))
  have m1 := At.new (w.alloc (.cells #[.int .i64 G.c, .int .i64 G.l, .int .i64 G.b, .int .i64 G.p, .int .i64 G.s] 23)) 36 #[.slice Ag good.length cg, .slice Aw wear.length cw]
  rw [hs1] at m1
  have HM0 := Lib.hid m1
  have HNEW : Hid (∀ W, Only (fun _ => False) w W → Calls Try.prog 10 #[G.val, .slice Ag good.length cg, .slice Aw wear.length cw] W (NewP G good wear W)) :=
    Lib.hid (fun W o => new_any G hw good wear Ag Aw cg cw gg gw W (hg.only o id) (hwr.only o id))
  clear o1 n1 hs1 m1 hg hwr hw
  unfold Ge.val at HNEW ⊢
  go_enter Try.func6, Try.ntmps6
  go_wp2_with (fail)
  refine (awake_any _).mono ?_
  rintro e w1 ⟨rfl, hO⟩
  have HO1 := Lib.hid (HO0.out.trans hO)
  have a1 := HN0.out.only hO id
  have s1 := HM0.out.only hO id
  have g0 := a1.cell 0
  have g1 := a1.cell 1
  have g2 := a1.cell 2
  have g3 := a1.cell 3
  have g4 := a1.cell 4
  have q0 := s1.cell 0
  have q1 := s1.cell 1
  simp only [List.getElem?_toArray, List.getElem?_cons_zero, List.getElem?_cons_succ] at g0 g1 g2 g3 g4 q0 q1
  have HN1 := Lib.hid a1
  clear hO a1 s1 HN0 HM0 HO0
  go_wp2_with (fail)
  refine (HNEW.out w1 HO1.out).mono ?_
  rintro e w2 (⟨hok, b, off, c, gb, rfl, k, hb1, hb2, hO⟩ | ⟨hno, rfl, hO⟩)
  case inr =>
    have HO2 := Lib.hid (HO1.out.trans hO)
    clear hno hO HO1 HN1
    go_wp2
    go_ret
    exact ⟨rfl, HO2.out.below (Nat.le_refl _) (fun _ _ => id)⟩
  obtain ⟨hG, hgo, hwo, hso⟩ := newOk_g hok
  obtain ⟨l, hl⟩ : ∃ l, newL good wear good.length = l := ⟨_, rfl⟩
  rw [hl] at k hgo hwo hso
  have HO2 := Lib.hid (HO1.out.trans hO)
  have HGB : Hid (w.heap.size ≤ b ∧ w.heap.size ≤ gb) := Lib.hid (by have := HO1.out.size; omega)
  have HK := Lib.hid k
  have HGE : Hid (∀ W (l' : List Ln), gOk l' → LAt W b G l' off c gb (-1) → Calls Try.prog 14 #[.pointer (some ⟨b, 0, none⟩), .int .i64 n] W fun e w' => e = .returned (.tuple #[getV G l' n, .int .i64 (getE l' n)]) ∧ Only (fun _ => False) W w') :=
    Lib.hid (fun W l' hl' k => get_any b off c gb G hG l' hl' (-1) n W k)
  have HUS : Hid (∀ W (l' : List Ln), LAt W b G l' off c gb (-1) → Calls Try.prog 19 #[.pointer (some ⟨b, 0, none⟩), .int .i64 n] W fun e w' => e = .returned (.int .i64 (findE l' n 0)) ∧ LAt w' b G (useM l' n) off c gb (-1) ∧ Only (fun i => i = gb) W w') :=
    Lib.hid (fun W l' k => use_any b off c gb G l' (-1) n W k)
  have HRE : Hid (∀ W (l' : List Ln), LAt W b G l' off c gb (-1) → Calls Try.prog 17 #[.pointer (some ⟨b, 0, none⟩), .int .i64 n] W fun e w' => e = .returned (.int .i64 (findE l' n 2)) ∧ LAt w' b G (relM l' n) off c gb (-1) ∧ Only (fun i => i = gb) W w') :=
    Lib.hid (fun W l' k => release_any b off c gb G l' (-1) n W k)
  have HER : Hid (∀ W, LAt W b G l off c gb (-1) → Calls Try.prog 18 #[.pointer (some ⟨b, 0, none⟩), .int .i64 n] W fun e w' => e = .returned (.int .i64 (findE l n 1)) ∧ LAt w' b G (erM l n) off c gb (-1) ∧ Only (fun i => i = gb) W w') :=
    Lib.hid (fun W k => erased_any b off c gb G l hwo (-1) n W k)
  have HLO : Hid (∀ W, LAt W b G l off c gb (-1) → Calls Try.prog 20 #[.pointer (some ⟨b, 0, none⟩), .int .i64 n] W fun e w' => e = .returned (.int .i64 (loseE l n)) ∧ LAt w' b G (loseM l n) off c gb (-1) ∧ Only (fun i => i = gb) W w') :=
    Lib.hid (fun W k => lose_any b off c gb G l hgo (-1) n W k)
  have HGO := Lib.hid hgo
  have HSO := Lib.hid hso
  clear hok hb1 hb2 hO k hG hgo hwo hso hl HO1 HN1 HNEW g0 g1 g2 g3 g4 q0 q1
  by_cases hn : n < 0 ∨ (l.length : Int) ≤ n
  · have v1 : getV G l n = lnV0 := by unfold getV; rw [if_pos hn]
    have v2 : getE l n = 2 := by unfold getE; rw [if_pos hn]
    have f0 : findE l n 0 = 2 := findE_out hn
    have f1 : findE l n 1 = 2 := findE_out hn
    have f2 : findE l n 2 = 2 := findE_out hn
    have f3 : loseE l n = 2 := by unfold loseE; rw [if_pos hn]
    have u0 : useM l n = l := by unfold useM; rw [f0]; rfl
    have u1 : erM l n = l := by unfold erM; rw [f1]; rfl
    have u2 : relM l n = l := by unfold relM; rw [f2]; rfl
    have hg := HGE.out w2 l HGO.out HK.out
    rw [v1, v2] at hg
    have HG1 := Lib.hid hg
    have HF := Lib.hid (And.intro f0 (And.intro f1 (And.intro f2 f3)))
    have HU := Lib.hid (And.intro u0 (And.intro u1 u2))
    unfold lnV0 at HG1
    clear v1 v2 f0 f1 f2 f3 u0 u1 u2 hg hn
    go_wp2_with (fail)
    refine HG1.out.mono ?_
    rintro e w3 ⟨rfl, hO⟩
    have HO3 := Lib.hid (HO2.out.trans (hO.alloc (.cells #[.int .i64 0, .int .i64 0, .int .i64 0, .int .i64 0, .int .i64 0] 43)))
    have HK3 := Lib.hid (HK.out.quiet (hO.alloc (.cells #[.int .i64 0, .int .i64 0, .int .i64 0, .int .i64 0, .int .i64 0] 43)))
    clear hO HG1
    go_wp2_with (fail)
    refine (HUS.out _ l HK3.out).mono ?_
    rw [HF.out.1, HU.out.1]
    rintro e w4 ⟨rfl, hk4, hO⟩
    have HK4 := Lib.hid hk4
    have HO4 := Lib.hid (HO3.out.trans' hO (fun i hi h => by have := HGB.out; omega))
    clear hk4 hO
    go_wp2_with (fail)
    refine (HRE.out _ l HK4.out).mono ?_
    rw [HF.out.2.2.1, HU.out.2.2]
    rintro e w5 ⟨rfl, hk5, hO⟩
    have HK5 := Lib.hid hk5
    have HO5 := Lib.hid (HO4.out.trans' hO (fun i hi h => by have := HGB.out; omega))
    clear hk5 hO
    go_wp2_with (fail)
    refine (HER.out _ HK5.out).mono ?_
    rw [HF.out.2.1, HU.out.2.1]
    rintro e w6 ⟨rfl, hk6, hO⟩
    have HK6 := Lib.hid hk6
    have HO6 := Lib.hid (HO5.out.trans' hO (fun i hi h => by have := HGB.out; omega))
    clear hk6 hO
    go_wp2_with (fail)
    refine (HLO.out _ HK6.out).mono ?_
    rw [HF.out.2.2.2]
    rintro e w7 ⟨rfl, _, hO⟩
    have HO7 := Lib.hid (HO6.out.trans' hO (fun i hi h => by have := HGB.out; omega))
    clear hO
    go_wp2
    go_ret
    exact ⟨rfl, HO7.out.below (Nat.le_refl _) (fun _ _ => id)⟩
  obtain ⟨i, rfl⟩ : ∃ i : Nat, n = i := ⟨n.toNat, by omega⟩
  have hi : i < l.length := by omega
  have hs := HSO.out _ (List.getElem_mem hi)
  have hgx := HGO.out _ (List.getElem_mem hi)
  obtain ⟨x, hx⟩ : ∃ x, l[i] = x := ⟨_, rfl⟩
  rw [hx] at hs hgx
  have hv : ∀ l' : List Ln, ∀ y, l'[i]? = some y → getV G l' i = lnV G y ∧ getE l' i = 0 := by
    intro l' y hy
    obtain ⟨hil, rfl⟩ := List.getElem?_eq_some_iff.1 hy
    unfold getV getE
    rw [if_neg (by omega), if_neg (by omega), at'_nat hil]
    exact ⟨rfl, rfl⟩
  have hg1 := HGE.out w2 l HGO.out HK.out
  rw [(hv l x (by rw [List.getElem?_eq_getElem hi, hx])).1, (hv l x (by rw [List.getElem?_eq_getElem hi, hx])).2] at hg1
  have HG1 := Lib.hid hg1
  unfold lnV at HG1
  have f1 : findE l i 1 = 13 := by rw [findE_in hi, hx, hs]; unfold un; split <;> rfl
  have f2 : findE l i 2 = 13 := by rw [findE_in hi, hx, hs]; unfold un; split <;> rfl
  have u1 : erM l i = l := by unfold erM; rw [f1]; rfl
  have u2 : relM l i = l := by unfold relM; rw [f2]; rfl
  have HF := Lib.hid (And.intro f1 (And.intro f2 (And.intro u1 u2)))
  have HHV := Lib.hid hv
  have HHX := Lib.hid hx
  have HHS := Lib.hid hs
  have HGX := Lib.hid hgx
  have HHI := Lib.hid hi
  clear hg1 f1 f2 u1 u2 hv hx hs hn hgx
  go_wp2_with (fail)
  refine HG1.out.mono ?_
  rintro e w3 ⟨rfl, hO⟩
  have hO' := hO.alloc (.cells #[.int .i64 x.s, .int .i64 x.w, .int .i64 x.g, .int .i64 0, .int .i64 (rm G x.g)] 43)
  have HO3 := Lib.hid (HO2.out.trans hO')
  have HK3 := Lib.hid (HK.out.quiet hO')
  have HW3 := Lib.hid (At.new w3 43 #[.int .i64 x.s, .int .i64 x.w, .int .i64 x.g, .int .i64 0, .int .i64 (rm G x.g)])
  have HLT : Hid (b < w3.heap.size ∧ gb < w3.heap.size) := Lib.hid (by have := HK.out.lts; have := hO.size; omega)
  clear hO hO' HG1
  go_wp2_with (fail)
  refine (HRE.out _ l HK3.out).mono ?_
  rw [HF.out.2.1, HF.out.2.2.2]
  rintro e w4 ⟨rfl, hk4, hO⟩
  have HK4 := Lib.hid hk4
  have HO4 := Lib.hid (HO3.out.trans' hO (fun i hi h => by have := HGB.out; omega))
  have HW4 := Lib.hid (HW3.out.only hO (by have := HLT.out; omega))
  clear hk4 hO
  go_wp2_with (fail)
  refine (HER.out _ HK4.out).mono ?_
  rw [HF.out.1, HF.out.2.2.1]
  rintro e w5 ⟨rfl, hk5, hO⟩
  have HK5 := Lib.hid hk5
  have HO5 := Lib.hid (HO4.out.trans' hO (fun i hi h => by have := HGB.out; omega))
  have HW5 := Lib.hid (HW4.out.only hO (by have := HLT.out; omega))
  clear hk5 hO
  by_cases hg0 : x.g = 0
  · have hs3 : x.s = 3 := by rw [HHS.out, hg0]; rfl
    have f0 : findE l i 0 = 13 := by rw [findE_in HHI.out, HHX.out, hs3]; rfl
    have u0 : useM l i = l := by unfold useM; rw [f0]; rfl
    have hc := HUS.out w5 l HK5.out
    rw [f0, u0] at hc
    have HC := Lib.hid hc
    have HS3 := Lib.hid hs3
    clear f0 u0 hc hg0 hs3
    go_wp2_with (fail)
    refine HC.out.mono ?_
    rintro e w6 ⟨rfl, hk6, hO⟩
    have HK6 := Lib.hid hk6
    have HO6 := Lib.hid (HO5.out.trans' hO (fun i hi h => by have := HGB.out; omega))
    have hw6 := HW5.out.only hO (by have := HLT.out; omega)
    have z0 := hw6.cell 0
    simp only [List.getElem?_toArray, List.getElem?_cons_zero, List.getElem?_cons_succ] at z0
    rw [HS3.out] at z0
    have hc2 := HGE.out w6 l HGO.out hk6
    rw [(HHV.out l x (by rw [List.getElem?_eq_getElem HHI.out, HHX.out])).1, (HHV.out l x (by rw [List.getElem?_eq_getElem HHI.out, HHX.out])).2] at hc2
    have HC2 := Lib.hid hc2
    unfold lnV at HC2
    have HW6 := Lib.hid hw6
    clear hk6 hO HC hc2 hw6
    go_wp2_with (fail)
    refine HC2.out.mono ?_
    rintro e w7 ⟨rfl, hO⟩
    have o8 := hO.alloc (.cells #[.int .i64 x.s, .int .i64 x.w, .int .i64 x.g, .int .i64 0, .int .i64 (rm G x.g)] 43)
    have HO7 := Lib.hid (HO6.out.trans o8)
    have hw7 := HW6.out.only o8 id
    have z0' := hw7.cell 0
    have z1' := hw7.cell 1
    have z2' := hw7.cell 2
    have z3' := hw7.cell 3
    have z4' := hw7.cell 4
    simp only [List.getElem?_toArray, List.getElem?_cons_zero, List.getElem?_cons_succ] at z0' z1' z2' z3' z4'
    clear hO o8 hw7
    go_wp2
    go_ret
    exact ⟨rfl, HO7.out.below (Nat.le_refl _) (fun _ _ => id)⟩
  · have hs0 : x.s = 0 := by rw [HHS.out]; unfold un; rw [if_neg hg0]
    have f0 : findE l i 0 = 0 := by rw [findE_in HHI.out, HHX.out, hs0]; rfl
    obtain ⟨l2, hl2⟩ : ∃ l2, l.set i { x with s := 2 } = l2 := ⟨_, rfl⟩
    have u0 : useM l i = l2 := by unfold useM; rw [f0, if_pos rfl, upd_nat HHI.out, HHX.out, hl2]
    have hi2 : i < l2.length := by rw [← hl2]; simpa using HHI.out
    have hx2 : l2[i]? = some { x with s := 2 } := by rw [← hl2]; simp [HHI.out]
    have hx2' : l2[i] = { x with s := 2 } := by rw [List.getElem?_eq_getElem hi2] at hx2; simpa using hx2
    have hgo2 : gOk l2 := by
      intro y hy
      rw [← hl2] at hy
      rcases List.mem_or_eq_of_mem_set hy with h | rfl
      · exact HGO.out y h
      · exact HGX.out
    have f20 : findE l2 i 0 = 13 := by rw [findE_in hi2, hx2']; rfl
    have f22 : findE l2 i 2 = 0 := by rw [findE_in hi2, hx2']; rfl
    have u20 : useM l2 i = l2 := by unfold useM; rw [f20]; rfl
    have hback : l2.set i x = l := by rw [← hl2, List.set_set, ← HHX.out]; exact List.set_getElem_self _
    have u22 : relM l2 i = l := by
      unfold relM
      rw [f22, if_pos rfl, upd_nat hi2, hx2', ← hback]
      congr 1
      show ({ s := un x.g, w := x.w, g := x.g } : Ln) = x
      rw [← HHS.out]
    have hc := HUS.out w5 l HK5.out
    rw [f0, u0] at hc
    have HC := Lib.hid hc
    have HGE2 : Hid (∀ W, LAt W b G l2 off c gb (-1) → Calls Try.prog 14 #[.pointer (some ⟨b, 0, none⟩), .int .i64 i] W fun e w' => e = .returned (.tuple #[lnV G { x with s := 2 }, .int .i64 0]) ∧ Only (fun _ => False) W w') :=
      Lib.hid (fun W k => by have := HGE.out W l2 hgo2 k; rwa [(HHV.out l2 _ hx2).1, (HHV.out l2 _ hx2).2] at this)
    have HGE1 : Hid (∀ W, LAt W b G l off c gb (-1) → Calls Try.prog 14 #[.pointer (some ⟨b, 0, none⟩), .int .i64 i] W fun e w' => e = .returned (.tuple #[lnV G x, .int .i64 0]) ∧ Only (fun _ => False) W w') :=
      Lib.hid (fun W k => by have := HGE.out W l HGO.out k; rwa [(HHV.out l x (by rw [List.getElem?_eq_getElem HHI.out, HHX.out])).1, (HHV.out l x (by rw [List.getElem?_eq_getElem HHI.out, HHX.out])).2] at this)
    have HUS2 : Hid (∀ W, LAt W b G l2 off c gb (-1) → Calls Try.prog 19 #[.pointer (some ⟨b, 0, none⟩), .int .i64 i] W fun e w' => e = .returned (.int .i64 13) ∧ LAt w' b G l2 off c gb (-1) ∧ Only (fun i => i = gb) W w') :=
      Lib.hid (fun W k => by have := HUS.out W l2 k; rwa [f20, u20] at this)
    have HRE2 : Hid (∀ W, LAt W b G l2 off c gb (-1) → Calls Try.prog 17 #[.pointer (some ⟨b, 0, none⟩), .int .i64 i] W fun e w' => e = .returned (.int .i64 0) ∧ LAt w' b G l off c gb (-1) ∧ Only (fun i => i = gb) W w') :=
      Lib.hid (fun W k => by have := HRE.out W l2 k; rwa [f22, u22] at this)
    have HS0 := Lib.hid hs0
    unfold lnV at HGE1 HGE2
    clear f0 u0 hc hg0 hs0 hi2 hx2 hx2' hgo2 f20 f22 u20 u22 hback hl2
    go_wp2_with (fail)
    refine HC.out.mono ?_
    rintro e w6 ⟨rfl, hk6, hO⟩
    have HK6 := Lib.hid hk6
    have HO6 := Lib.hid (HO5.out.trans' hO (fun i hi h => by have := HGB.out; omega))
    have hw6 := HW5.out.only hO (by have := HLT.out; omega)
    have z0 := hw6.cell 0
    simp only [List.getElem?_toArray, List.getElem?_cons_zero, List.getElem?_cons_succ] at z0
    rw [HS0.out] at z0
    have HW6 := Lib.hid hw6
    have HLT6 : Hid (w3.heap.size < w6.heap.size) := Lib.hid hw6.lt
    clear hk6 hO HC hw6
    go_wp2_with (fail)
    refine (HGE2.out w6 HK6.out).mono ?_
    rintro e w7 ⟨rfl, hO⟩
    have o8 := hO.alloc (.cells #[.int .i64 2, .int .i64 x.w, .int .i64 x.g, .int .i64 0, .int .i64 (rm G x.g)] 43)
    have HO7 := Lib.hid (HO6.out.trans o8)
    have HK7 := Lib.hid (HK6.out.quiet o8)
    have HW7 := Lib.hid (HW6.out.only o8 id)
    have HU7 := Lib.hid (At.new w7 43 #[.int .i64 2, .int .i64 x.w, .int .i64 x.g, .int .i64 0, .int .i64 (rm G x.g)])
    have HLT7 : Hid (w3.heap.size < w7.heap.size) := Lib.hid (by have := hO.size; have := HLT6.out; omega)
    clear hO o8
    go_wp2_with (fail)
    refine (HUS2.out _ HK7.out).mono ?_
    rintro e w8 ⟨rfl, hk8, hO⟩
    have HK8 := Lib.hid hk8
    have HO8 := Lib.hid (HO7.out.trans' hO (fun i hi h => by have := HGB.out; omega))
    have HW8 := Lib.hid (HW7.out.only hO (by have := HLT.out; omega))
    have HU8 := Lib.hid (HU7.out.only hO (by have := HLT.out; have := HLT7.out; omega))
    clear hk8 hO
    go_wp2_with (fail)
    refine (HRE2.out _ HK8.out).mono ?_
    rintro e w9 ⟨rfl, hk9, hO⟩
    have HK9 := Lib.hid hk9
    have HO9 := Lib.hid (HO8.out.trans' hO (fun i hi h => by have := HGB.out; omega))
    have HW9 := Lib.hid (HW8.out.only hO (by have := HLT.out; omega))
    have HU9 := Lib.hid (HU8.out.only hO (by have := HLT.out; have := HLT7.out; omega))
    clear hk9 hO
    go_wp2_with (fail)
    refine (HGE1.out _ HK9.out).mono ?_
    rintro e w10 ⟨rfl, hO⟩
    have o11 := hO.alloc (.cells #[.int .i64 x.s, .int .i64 x.w, .int .i64 x.g, .int .i64 0, .int .i64 (rm G x.g)] 43)
    have HO11 := Lib.hid (HO9.out.trans o11)
    have hw7 := HW9.out.only o11 id
    have z0' := hw7.cell 0
    have z1' := hw7.cell 1
    have z2' := hw7.cell 2
    have z3' := hw7.cell 3
    have z4' := hw7.cell 4
    have hu7 := HU9.out.only o11 id
    have y0' := hu7.cell 0
    have y4' := hu7.cell 4
    simp only [List.getElem?_toArray, List.getElem?_cons_zero, List.getElem?_cons_succ] at z0' z1' z2' z3' z4' y0' y4'
    clear hO o11 hw7 hu7
    go_wp2
    go_ret
    exact ⟨rfl, HO11.out.below (Nat.le_refl _) (fun _ _ => id)⟩
end Go.Proofs.Ytlenjgofiocaaaa
