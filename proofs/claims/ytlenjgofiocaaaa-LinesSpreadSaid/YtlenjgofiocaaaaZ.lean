/- Lines: LinesOne walked. -/
import Derived.Test.YtlenjgofiocaaaaY
import Derived.Deep.CutBlock
import Derived.Deep.DeepCutAuto
import Derived.Deep.QuietTactic
namespace Go.Proofs.Ytlenjgofiocaaaa
open Go.RowKit

theorem ocs_len (l : List Opr) : (ocs l).length = l.length * 3 := by
  induction l with
  | nil => rfl
  | cons x t ih => simp only [ocs, List.flatMap_cons, List.length_append, List.length_cons] at *; rw [ih]; simp [Opr.cells]; omega
theorem ocs_get (l : List Opr) (i j : Nat) (hi : i < l.length) (hj : j < 3) : (ocs l)[i * 3 + j]? = (l[i]).cells[j]? := by
  induction l generalizing i with
  | nil => simp at hi
  | cons x t ih =>
    have hc : x.cells.length = 3 := rfl
    cases i with
    | zero =>
      simp only [ocs, List.flatMap_cons, Nat.zero_mul, Nat.zero_add, List.getElem_cons_zero]
      rw [List.getElem?_append_left (by omega)]
    | succ i =>
      simp only [ocs, List.flatMap_cons, List.getElem_cons_succ]
      rw [List.getElem?_append_right (by omega)]
      have := ih i (by simpa using hi)
      rw [← this]
      congr 1
      omega
theorem op_cells {w W : World} {g : Nat} {A : Option Addr} {l : List Opr} {i : Nat} (h : Rd w g A (ocs l)) (o : Only (fun _ => False) w W) (hi : i < l.length) :
    ∃ off, A = some ⟨g, off, none⟩ ∧ W.cell? ⟨g, off + i * 3, none⟩ = some (.int .i64 (l[i]).d) ∧ W.cell? ⟨g, off + i * 3 + 1, none⟩ = some (.int .i64 (l[i]).n) ∧ W.cell? ⟨g, off + i * 3 + 2, none⟩ = some (.bool (l[i]).own) := by
  have hl := ocs_len l
  obtain ⟨off, rfl, hg, hr⟩ := (h.only o id).at (fun e => by rw [e] at hl; simp at hl; omega)
  have hh : ∀ j, j < 3 → ∀ u, ((l[i]).cells)[j]? = some u → W.cell? ⟨g, off + i * 3 + j, none⟩ = some u := by
    intro j hj u hu
    have := hr (i * 3 + j) u (by rw [ocs_get l i j hi hj]; exact hu)
    rw [Nat.add_assoc]; exact this
  exact ⟨off, rfl, hh 0 (by omega) _ rfl, hh 1 (by omega) _ rfl, hh 2 (by omega) _ rfl⟩

set_option maxRecDepth 100000 in
set_option maxHeartbeats 16000000 in
theorem linesOne_walk (G : Ge) (hw : G.Wf) (good wear : List Int) (Ag Aw : Option Addr) (cg cw gg gw : Nat) (go co : Nat) (Ao : Option Addr) (ops : List Opr) (w : World) (hg : Rd w gg Ag (iv good)) (hwr : Rd w gw Aw (iv wear)) (hro : Rd w go Ao (ocs ops)) :
    Calls Try.prog 8 #[G.val, .agg #[.slice Ag good.length cg, .slice Aw wear.length cw], .slice Ao ops.length co] w fun e w' => e = .returned (.bool true) ∧ Below w.heap.size w w' := by
  have o1 := (Only.refl (fun _ => False) w).alloc (.cells #[.int .i64 G.c, .int .i64 G.l, .int .i64 G.b, .int .i64 G.p, .int .i64 G.s] 23)
  have n1 := At.new w 23 #[.int .i64 G.c, .int .i64 G.l, .int .i64 G.b, .int .i64 G.p, .int .i64 G.s]
  have hs1 : (w.alloc (.cells #[.int .i64 G.c, .int .i64 G.l, .int .i64 G.b, .int .i64 G.p, .int .i64 G.s] 23)).heap.size = w.heap.size + 1 := by simp
  have HO0 := Lib.hid (o1.alloc (.cells #[.slice Ag good.length cg, .slice Aw wear.length cw] 36))
  have HN0 := Lib.hid (n1.alloc (.cells #[.slice Ag good.length cg, .slice Aw wear.length cw] 36))
  have m1 := At.new (w.alloc (.cells #[.int .i64 G.c, .int .i64 G.l, .int .i64 G.b, .int .i64 G.p, .int .i64 G.s] 23)) 36 #[.slice Ag good.length cg, .slice Aw wear.length cw]
  rw [hs1] at m1
  have HM0 := Lib.hid m1
  have HNEW : Hid (∀ W, Only (fun _ => False) w W → Calls Try.prog 10 #[G.val, .slice Ag good.length cg, .slice Aw wear.length cw] W (NewP G good wear W)) :=
    Lib.hid (fun W o => new_any G hw good wear Ag Aw cg cw gg gw W (hg.only o id) (hwr.only o id))
  have HR := Lib.hid hro
  clear o1 n1 hs1 m1 hg hwr hw hro
  obtain ⟨N, hN⟩ : ∃ N, ops.length = N := ⟨_, rfl⟩
  have HL := Lib.hid hN
  unfold Ge.val at HNEW ⊢
  rw [hN]
  clear hN
  go_enter Try.func8, Try.ntmps8
  go_wp2_with (fail)
  refine (awake_any _).mono ?_
  rintro e w1 ⟨rfl, hO⟩
  have HO1 := Lib.hid (HO0.out.trans hO)
  have a1 := HN0.out.only hO id
  have s1 := HM0.out.only hO id
  have g0 := a1.cell 0
  have g1 := a1.cell 1
  have g2 := a1.cell 2
  have g3 := a1.cell 3
  have g4 := a1.cell 4
  have q0 := s1.cell 0
  have q1 := s1.cell 1
  simp only [List.getElem?_toArray, List.getElem?_cons_zero, List.getElem?_cons_succ] at g0 g1 g2 g3 g4 q0 q1
  have HN1 := Lib.hid a1
  clear hO a1 s1 HN0 HM0 HO0
  go_wp2_with (fail)
  refine (HNEW.out w1 HO1.out).mono ?_
  rintro e w2 (⟨hok, b, off, c, gb, rfl, k, hb1, hb2, hO⟩ | ⟨hno, rfl, hO⟩)
  case inr =>
    have HO2 := Lib.hid (HO1.out.trans hO)
    clear hno hO HO1 HN1
    go_wp2
    go_ret
    exact ⟨rfl, HO2.out.below (Nat.le_refl _) (fun _ _ => id)⟩
  obtain ⟨hG, hgo, hwo, hso⟩ := newOk_g hok
  have hinv := Inv.new hok
  have hlb := newL_len good wear good.length
  have hbl := hok.2.1
  obtain ⟨l0, hl⟩ : ∃ l, newL good wear good.length = l := ⟨_, rfl⟩
  rw [hl] at k hinv hlb
  obtain ⟨nb, hnb⟩ : ∃ nb, l0.length = nb := ⟨_, rfl⟩
  have hgb : G.b = (nb : Int) := by omega
  have hnb64 : 1 ≤ nb ∧ nb ≤ 64 := by have := k.len; omega
  have HO2 := Lib.hid (HO1.out.trans hO)
  have HN2 := Lib.hid (HN1.out.only hO id)
  have hlb1 : w.heap.size < b ∧ w.heap.size < gb := by have := HN1.out.lt; omega
  have HGB := Lib.hid hlb1
  have HK := Lib.hid k
  have HI := Lib.hid hinv
  have HG := Lib.hid hG
  have HNB := Lib.hid hnb
  have HGBE := Lib.hid hgb
  have HCAP : Hid (∀ W l op, l.length = nb → Inv l op → LAt W b G l off c gb op → Calls Try.prog 22 #[.pointer (some ⟨b, 0, none⟩)] W fun e w' => e = .returned (.int .i64 (capTo G l nb)) ∧ Only (fun _ => False) W w') :=
    Lib.hid (fun W l op h hI k => by have := capacity_any b off c gb G hG l hI.g op W k; rwa [h] at this)
  have HC0 := Lib.hid (HCAP.out w2 l0 (-1) hnb hinv k)
  clear hok hb1 hb2 hO k hG hgo hwo hso hl HO1 HN1 HNEW g0 g1 g2 g3 g4 q0 q1 hinv hlb hbl hnb hgb
  go_wp2_with (fail)
  refine HC0.out.mono ?_
  rintro e w3 ⟨rfl, hO⟩
  have HO3 := Lib.hid (HO2.out.trans hO)
  have HN3 := Lib.hid (HN2.out.only hO id)
  have HK3 := Lib.hid (HK.out.quiet hO)
  clear hO HC0
  go_wp2_with (fail)
  go_loopw [10, 11, 12, 13, 14, 15, 16, 63, 68, 72, 77, 82, 87] (fun v10 v11 v12 v13 v14 v15 v16 v63 v68 v72 v77 v82 v87 wr => ∃ (i : Nat) (l : List Ln) (op : Int), i ≤ N ∧ i ≤ 100 ∧ v11 = .int .i64 i ∧ v10 = .int .i64 (capTo G l nb) ∧ LAt wr b G l off c gb op ∧ Inv l op ∧ l.length = nb ∧
      At wr w.heap.size 23 #[.int .i64 G.c, .int .i64 G.l, .int .i64 G.b, .int .i64 G.p, .int .i64 G.s] ∧ Only (fun _ => False) w wr) (fun _ v11 _ _ _ _ _ _ _ _ _ _ _ wr => (N - intOf v11).toNat)
  case atStart => exact ⟨0, l0, -1, by omega, by omega, rfl, rfl, HK3.out, HI.out, HNB.out, HN3.out, HO3.out⟩
  case round =>
    obtain ⟨i, l, op, hi, hi100, rfl, rfl, hk, hI, hln, hbox, hO⟩ := hrel
    have HK := Lib.hid hk
    have HI := Lib.hid hI
    have HLN := Lib.hid hln
    have HBX := Lib.hid hbox
    have HO := Lib.hid hO
    clear hk hI hln hbox hO HK3 HN3 HO3 HO2 HN2
    by_cases hin : i < N
    case neg =>
      obtain rfl : i = N := by omega
      have i1 : decide ((i : Int) < i) = false := by simp
      go_wp2
      go_ret
      exact ⟨rfl, HO.out.below (Nat.le_refl _) (fun _ _ => id)⟩
    have i0 : (0 : Int) ≤ i := by omega
    have i1 : (i : Int) < N := by omega
    by_cases h100 : i < 100
    case neg =>
      have i2 : decide ((i : Int) < 100) = false := by simp; omega
      go_wp2
      go_ret
      exact ⟨rfl, HO.out.below (Nat.le_refl _) (fun _ _ => id)⟩
    have i2 : (i : Int) < 100 := by omega
    obtain ⟨offo, rfl, c0, c1, c2⟩ := op_cells HR.out HO.out (show i < ops.length by rw [HL.out]; exact hin)
    generalize ops[i]'(by rw [HL.out]; exact hin) = o at *
    obtain ⟨od, on, own⟩ := o
    simp only at c0 c1 c2
    have HCU := Lib.hid (current_any b off c gb G l op wr HK.out)
    go_upto_if 55 with (fail)
    go_cut [12] (fun v12 wy => (∃ nn : Int, v12 = .int .i64 nn) ∧ wy = wr)
    case first =>
      cases own
      · go_wp2_with (fail)
        go_meet
        exact ⟨⟨_, rfl⟩, rfl⟩
      · go_wp2_with (fail)
        refine HCU.out.mono ?_
        rintro e w4 ⟨rfl, rfl⟩
        go_wp2_with (fail)
        go_meet
        exact ⟨⟨_, rfl⟩, rfl⟩
    case rest =>
      obtain ⟨⟨nn, rfl⟩, rfl⟩ := hcut
      clear HCU c1 c2
      go_upto_block 2 with (fail)
      clear c0
      go_cut [63, 68, 72, 77, 82, 87] (fun v63 v68 v72 v77 v82 v87 wy => Done b off c gb G l wc wy)
      case first =>
        have HD0 := Lib.hid (open_done HI.out wc HK.out)
        have HD2 := Lib.hid (close_done HI.out wc HK.out)
        have HD3 := Lib.hid (release_done HI.out nn wc HK.out)
        have HD4 := Lib.hid (erased_done HI.out nn wc HK.out)
        have HD5 := Lib.hid (lose_done HG.out HI.out nn wc HK.out)
        have HD6 := Lib.hid (use_done HI.out nn wc HK.out)
        have HDN := Lib.hid (Done.same HI.out HK.out (Only.refl (fun _ => False) wc) (fun _ h => h.elim))
        by_cases h0 : od = 0
        case pos =>
          subst h0
          go_wp2_with (fail)
          refine HD0.out.mono ?_
          rintro e w4 ⟨⟨v, rfl⟩, hD⟩
          go_wp2_with (fail)
          go_meet
          exact hD
        have n0 : (od == 0) = false := beq_false_of_ne h0
        clear h0
        by_cases h1 : od = 1
        case pos =>
          subst h1
          clear n0
          go_wp2_with (fail)
          refine HD0.out.mono ?_
          rintro e w4 ⟨⟨v, rfl⟩, hD⟩
          go_wp2_with (fail)
          go_meet
          exact hD
        have n1 : (od == 1) = false := beq_false_of_ne h1
        clear h1
        by_cases h2 : od = 2
        case pos =>
          subst h2
          clear n0
          clear n1
          go_wp2_with (fail)
          refine HD2.out.mono ?_
          rintro e w4 ⟨⟨v, rfl⟩, hD⟩
          go_wp2_with (fail)
          go_meet
          exact hD
        have n2 : (od == 2) = false := beq_false_of_ne h2
        clear h2
        by_cases h3 : od = 3
        case pos =>
          subst h3
          clear n0
          clear n1
          clear n2
          go_wp2_with (fail)
          refine HD3.out.mono ?_
          rintro e w4 ⟨⟨v, rfl⟩, hD⟩
          go_wp2_with (fail)
          go_meet
          exact hD
        have n3 : (od == 3) = false := beq_false_of_ne h3
        clear h3
        by_cases h4 : od = 4
        case pos =>
          subst h4
          clear n0
          clear n1
          clear n2
          clear n3
          go_wp2_with (fail)
          refine HD4.out.mono ?_
          rintro e w4 ⟨⟨v, rfl⟩, hD⟩
          go_wp2_with (fail)
          go_meet
          exact hD
        have n4 : (od == 4) = false := beq_false_of_ne h4
        clear h4
        by_cases h5 : od = 5
        case pos =>
          subst h5
          clear n0
          clear n1
          clear n2
          clear n3
          clear n4
          go_wp2_with (fail)
          refine HD5.out.mono ?_
          rintro e w4 ⟨⟨v, rfl⟩, hD⟩
          go_wp2_with (fail)
          go_meet
          exact hD
        have n5 : (od == 5) = false := beq_false_of_ne h5
        clear h5
        by_cases h6 : od = 6
        case pos =>
          subst h6
          clear n0
          clear n1
          clear n2
          clear n3
          clear n4
          clear n5
          go_wp2_with (fail)
          refine HD6.out.mono ?_
          rintro e w4 ⟨⟨v, rfl⟩, hD⟩
          go_wp2_with (fail)
          go_meet
          exact hD
        have n6 : (od == 6) = false := beq_false_of_ne h6
        clear h6
        go_wp2_with (fail)
        go_meet
        exact HDN.out
      case rest =>
        obtain ⟨l', op', hk, hI', hln', hcap, hO'⟩ := hcut.h
        rw [hln', HLN.out] at hcap
        have hln2 : l'.length = nb := hln'.trans HLN.out
        have HK' := Lib.hid hk
        have HI' := Lib.hid hI'
        have HLN' := Lib.hid hln2
        have HLE := Lib.hid hcap
        have HBX' := Lib.hid (HBX.out.only hO' (by have := HGB.out; omega))
        have HO' := Lib.hid (HO.out.trans' hO' (fun j hj h => by have := HGB.out; have h : j = b ∨ j = gb := h; omega))
        have hbx2 := HBX'.out.cell 2
        simp only [List.getElem?_toArray, List.getElem?_cons_zero, List.getElem?_cons_succ] at hbx2
        clear hk hI' hln' hcap hO' hln2 hcut HK HO HBX HI HLN
        go_wp2_with (fail)
        go_loopw [13, 14, 15, 16] (fun v13 v14 v15 v16 wq => ∃ k : Nat, k ≤ nb ∧ v14 = .int .i64 k ∧ v13 = .int .i64 (capTo G l' k) ∧ LAt wq b G l' off c gb op' ∧ At wq w.heap.size 23 #[.int .i64 G.c, .int .i64 G.l, .int .i64 G.b, .int .i64 G.p, .int .i64 G.s] ∧ Only (fun _ => False) w wq) (fun _ v14 _ _ wq => (nb - intOf v14).toNat)
        case atStart => exact ⟨0, by omega, rfl, rfl, HK'.out, HBX'.out, HO'.out⟩
        case round =>
          obtain ⟨k, hkn, rfl, rfl, hk, hbox, hO⟩ := hrel
          have HKk := Lib.hid hk
          have HBk := Lib.hid hbox
          have HOk := Lib.hid hO
          have hb2 := hbox.cell 2
          simp only [List.getElem?_toArray, List.getElem?_cons_zero, List.getElem?_cons_succ] at hb2
          rw [HGBE.out] at hb2
          clear hk hbox hO HK' HBX' HO' hbx2
          by_cases hlt : k < nb
          case pos =>
            have k0 : (0 : Int) ≤ k := by omega
            have k1 : (k : Int) < nb := by omega
            have k2 : (k : Int) < 64 := by omega
            have hkl : k < l'.length := by rw [HLN'.out]; exact hlt
            have hfx := HI'.out.f _ (List.getElem_mem hkl)
            have hox := HI'.out.o k hkl
            have hgt := get_any b off c gb G HG.out l' HI'.out.g op' k wr HKk.out
            have hv : getV G l' k = lnV G l'[k] ∧ getE l' k = 0 := by
              unfold getV getE
              rw [if_neg (by omega), if_neg (by omega), at'_nat hkl]
              exact ⟨rfl, rfl⟩
            rw [hv.1, hv.2] at hgt
            have HGT := Lib.hid hgt
            unfold lnV at HGT
            have hbd := capTo_bd HG.out HI'.out.g k (by omega)
            have hrm := rm_nn HG.out hfx.g.1 hfx.g.2
            have HS : Hid (capTo G l' (k + 1) = capTo G l' k + rm G l'[k].g) := Lib.hid (by simp [capTo, List.getD, hkl])
            have b1 := hbd.1
            have b2 : capTo G l' k ≤ 65536 := by omega
            have r1 := hrm.1
            have r2 := hrm.2
            have hz : l'[k].g = 0 → rm G l'[k].g = 0 := fun h => by unfold rm; rw [if_pos h]
            have HFX := Lib.hid hfx
            have HOX := Lib.hid hox
            have HZ := Lib.hid hz
            clear hfx hox hgt hv hbd hrm hz
            generalize l'[k] = x at *
            obtain ⟨xs, xw, xg⟩ := x
            simp only at HGT HS r1 r2 HZ HOX
            generalize capTo G l' k = cp at *
            generalize rm G xg = rr at *
            go_wp2_with (fail)
            refine HGT.out.mono ?_
            rintro e w5 ⟨rfl, hO5⟩
            have o6 := hO5.alloc (.cells #[.int .i64 xs, .int .i64 xw, .int .i64 xg, .int .i64 0, .int .i64 rr] 43)
            have HK6 := Lib.hid (HKk.out.quiet o6)
            have HB6 := Lib.hid (HBk.out.only o6 id)
            have HO6 := Lib.hid (HOk.out.trans o6)
            clear hO5 o6 HGT hb2
            by_cases h1 : xs = 1
            · have hop := HOX.out.1 h1
              subst hop
              have t1 : (xs == 1) = true := by simp [h1]
              by_cases h2 : xg = 0
              · have u1 : (xg == 0) = true := by simp [h2]
                have u2 : (xs == 0) = false := by rw [h1]; rfl
                have u3 : (rr != 0) = false := by rw [HZ.out h2]; rfl
                clear h1 h2
                go_wp2_with (fail)
                go_quiet ((go_at_call 13; exact Calls.quiet_of_same (current_any b off c gb G l' _ _ (HK6.out.quiet ((Only.refl _ _).drewN _)))))
                go_wp2
                go_roundw
                case rel => exact ⟨k + 1, by omega, by simp, by rw [HS.out], HK6.out.quiet ((Only.refl _ _).drewN _), HB6.out.drewN _, HO6.out.drewN _⟩
                case measure => simp [intOf]; omega
              · have u1 : (xg == 0) = false := beq_false_of_ne h2
                clear h1 h2
                go_wp2_with (fail)
                go_quiet ((go_at_call 13; exact Calls.quiet_of_same (current_any b off c gb G l' _ _ (HK6.out.quiet ((Only.refl _ _).drewN _)))))
                go_wp2
                go_roundw
                case rel => exact ⟨k + 1, by omega, by simp, by rw [HS.out], HK6.out.quiet ((Only.refl _ _).drewN _), HB6.out.drewN _, HO6.out.drewN _⟩
                case measure => simp [intOf]; omega
            · have t1 : (xs == 1) = false := beq_false_of_ne h1
              have t2 : ((k : Int) == op') = false := beq_false_of_ne (fun h => h1 (HOX.out.2 h.symm))
              by_cases h2 : xg = 0
              · have u1 : (xg == 0) = true := by simp [h2]
                have u2 : (xs == 0) = false := beq_false_of_ne (HFX.out.z h2)
                have u3 : (rr != 0) = false := by rw [HZ.out h2]; rfl
                clear h1 h2
                go_wp2_with (fail)
                go_quiet ((go_at_call 13; exact Calls.quiet_of_same (current_any b off c gb G l' _ _ (HK6.out.quiet ((Only.refl _ _).drewN _)))))
                go_wp2
                go_roundw
                case rel => exact ⟨k + 1, by omega, by simp, by rw [HS.out], HK6.out.quiet ((Only.refl _ _).drewN _), HB6.out.drewN _, HO6.out.drewN _⟩
                case measure => simp [intOf]; omega
              · have u1 : (xg == 0) = false := beq_false_of_ne h2
                clear h1 h2
                go_wp2_with (fail)
                go_quiet ((go_at_call 13; exact Calls.quiet_of_same (current_any b off c gb G l' _ _ (HK6.out.quiet ((Only.refl _ _).drewN _)))))
                go_wp2
                go_roundw
                case rel => exact ⟨k + 1, by omega, by simp, by rw [HS.out], HK6.out.quiet ((Only.refl _ _).drewN _), HB6.out.drewN _, HO6.out.drewN _⟩
                case measure => simp [intOf]; omega
          case neg =>
            obtain rfl : k = nb := by omega
            have k1 : ¬ (k : Int) < k := by omega
            have hs1 := flt_sum HI'.out l'.length (Nat.le_refl _)
            have hs2 := (flt_one HI'.out l'.length (Nat.le_refl _)).1
            rw [HLN'.out] at hs1 hs2
            have HQ : Hid (∀ st W, LAt W b G l' off c gb op' → Calls Try.prog 23 #[.pointer (some ⟨b, 0, none⟩), .int .i64 st] W fun e W' => e = .returned (.int .i64 ((flt l' st k).length : Int)) ∧ Only (fun _ => False) W W') :=
              Lib.hid (fun st W hk => by have := count_any b off c gb G l' op' st W hk; rwa [HLN'.out] at this)
            have HCAP' : Hid (∀ W, LAt W b G l' off c gb op' → Calls Try.prog 22 #[.pointer (some ⟨b, 0, none⟩)] W fun e w' => e = .returned (.int .i64 (capTo G l' k)) ∧ Only (fun _ => False) W w') :=
              Lib.hid (fun W hk => HCAP.out W l' op' HLN'.out HI'.out hk)
            have HQ0 := Lib.hid (HQ.out 0)
            have HQ1 := Lib.hid (HQ.out 1)
            have HQ2 := Lib.hid (HQ.out 2)
            have HQ3 := Lib.hid (HQ.out 3)
            have HCAPL : Hid (capTo G l' k ≤ capTo G l k) := Lib.hid HLE.out
            have d2 : decide (capTo G l k < capTo G l' k) = false := by have := HLE.out; simp; omega
            have d0 : (capTo G l' k != capTo G l' k) = false := by simp
            obtain ⟨z0, hz0⟩ : ∃ z : Int, ((flt l' 0 k).length : Int) = z := ⟨_, rfl⟩
            obtain ⟨z1, hz1⟩ : ∃ z : Int, ((flt l' 1 k).length : Int) = z := ⟨_, rfl⟩
            obtain ⟨z2, hz2⟩ : ∃ z : Int, ((flt l' 2 k).length : Int) = z := ⟨_, rfl⟩
            obtain ⟨z3, hz3⟩ : ∃ z : Int, ((flt l' 3 k).length : Int) = z := ⟨_, rfl⟩
            have n0 : 0 ≤ z0 := by omega
            have n1 : 0 ≤ z1 := by omega
            have n2 : 0 ≤ z2 := by omega
            have n3 : 0 ≤ z3 := by omega
            have es : z0 + z1 + z2 + z3 = (k : Int) := by omega
            have d1 : decide (1 < z1) = false := by simp; omega
            have e1 : IntKind.i64.wrap (z0 + z1) = z0 + z1 := IntWalk.i64_in _ (by omega)
            have e2 : IntKind.i64.wrap (z0 + z1 + z2) = z0 + z1 + z2 := IntWalk.i64_in _ (by omega)
            have e3 : IntKind.i64.wrap (z0 + z1 + z2 + z3) = (k : Int) := by rw [IntWalk.i64_in _ (by omega)]; exact es
            have e1' : wrap64 (z0 + z1) = z0 + z1 := by rw [← IntWalk.i64_left]; exact e1
            have e2' : wrap64 (z0 + z1 + z2) = z0 + z1 + z2 := by rw [← IntWalk.i64_left]; exact e2
            have e3' : wrap64 (z0 + z1 + z2 + z3) = (k : Int) := by rw [← IntWalk.i64_left]; exact e3
            have tk : ((k : Int) != (k : Int)) = false := by simp
            rw [hz0] at HQ0
            rw [hz1] at HQ1
            rw [hz2] at HQ2
            rw [hz3] at HQ3
            clear hz0 hz1 hz2 hz3 hs1 hs2 n0 n1 n2 n3 es HQ hlt
            go_wp2_with (fail)
            refine wp_region_held_drew (S := (fun W => W.cell? ⟨w.heap.size, 2, none⟩ = some (.int .i64 k))) (by kernel_rfl) ?_ (fun hHeld => ?_)
            · exact hb2
            refine wpAnyH_take (i := 0) (oi := { dst := some 139, op := Op.move (Operand.tmp 8), type := 26, pos := "law.go:183", after := #[], guard := none }) (v := ?_) rfl (by kernel_rfl) (by kernel_rfl) (by kernel_rfl) (fun _ _ _ h => h) (Or.inl ⟨by rfl, ?_⟩) (by assumption) ?_
            rotate_left
            · (intro w hSw; (try dsimp only at hSw); (try obtain ⟨hSa, hSb⟩ := hSw); go_simp; try with_reducible rfl)
            try simp only [Act.put, List.setIfInBounds_toArray, List.set_cons_zero, List.set_cons_succ]
            refine wpAnyH_ready (rs := [1]) (by kernel_rfl) (by simp) ?_
            refine AllReadyH.cons (o := { dst := some 140, op := Op.call { callee := Callee.value (Operand.func 23), args := #[Operand.tmp 139, Operand.const (Value.int IntKind.i64 1)], argTypes := #[26, 3] }, type := 3, pos := "law.go:183", after := #[{ on := 0, ground := Ground.data }], guard := none }) rfl (fun K hK => ?_) AllReadyH.nil
            go_simp
            (refine (HQ1.out _ (HKk.out.quiet (Only.refl _ _).drew)).mono ?_; rintro e y1 ⟨rfl, hA⟩; have HKy1 := Lib.hid (((HKk.out.quiet (Only.refl _ _).drew)).quiet hA); have HBy1 := Lib.hid ((HBk.out.drew).only hA id); have HOy1 := Lib.hid ((HOk.out.drew).trans hA); have cy1 := HBy1.out.cell 2; simp only [List.getElem?_toArray, List.getElem?_cons_zero, List.getElem?_cons_succ] at cy1; rw [HGBE.out] at cy1; clear hA; try simp only [])
            refine hK.out _ _ ?_ (fun hHeld => ?_)
            · exact cy1
            clear hK K
            try simp only [Act.put, List.setIfInBounds_toArray, List.set_cons_zero, List.set_cons_succ]
            refine wpAnyH_take (i := 2) (oi := { dst := some 141, op := Op.binOp BinOp.gtr 3 (Operand.tmp 140) (Operand.const (Value.int IntKind.i64 1)) 3, type := 4, pos := "law.go:183", after := #[{ on := 1, ground := Ground.data }], guard := none }) (v := ?_) rfl (by kernel_rfl) (by kernel_rfl) (by kernel_rfl) (fun _ _ _ h => h) (Or.inl ⟨by rfl, ?_⟩) (by assumption) ?_
            rotate_left
            · (intro w hSw; (try dsimp only at hSw); (try obtain ⟨hSa, hSb⟩ := hSw); go_simp; try with_reducible rfl)
            try simp only [Act.put, List.setIfInBounds_toArray, List.set_cons_zero, List.set_cons_succ]
            refine wpAnyH_take (i := 3) (oi := { dst := some 142, op := Op.move (Operand.tmp 141), type := 4, pos := "law.go:183", after := #[{ on := 2, ground := Ground.data }, { on := 1, ground := Ground.chain }], guard := none }) (v := ?_) rfl (by kernel_rfl) (by kernel_rfl) (by kernel_rfl) (fun _ _ _ h => h) (Or.inl ⟨by rfl, ?_⟩) (by assumption) ?_
            rotate_left
            · (intro w hSw; (try dsimp only at hSw); (try obtain ⟨hSa, hSb⟩ := hSw); go_simp; try with_reducible rfl)
            try simp only [Act.put, List.setIfInBounds_toArray, List.set_cons_zero, List.set_cons_succ]
            refine wpAnyH_take (i := 4) (oi := { dst := some 143, op := Op.move (Operand.tmp 8), type := 26, pos := "law.go:183", after := #[{ on := 3, ground := Ground.guard }], guard := some (3, false) }) (v := ?_) rfl (by kernel_rfl) (by kernel_rfl) (by kernel_rfl) (fun _ _ _ h => h) (Or.inl ⟨by rfl, ?_⟩) (by assumption) ?_
            rotate_left
            · (intro w hSw; (try dsimp only at hSw); (try obtain ⟨hSa, hSb⟩ := hSw); go_simp; try with_reducible rfl)
            try simp only [Act.put, List.setIfInBounds_toArray, List.set_cons_zero, List.set_cons_succ]
            refine wpAnyH_take (i := 6) (oi := { dst := some 145, op := Op.move (Operand.tmp 8), type := 26, pos := "law.go:183", after := #[{ on := 3, ground := Ground.guard }], guard := some (3, false) }) (v := ?_) rfl (by kernel_rfl) (by kernel_rfl) (by kernel_rfl) (fun _ _ _ h => h) (Or.inl ⟨by rfl, ?_⟩) (by assumption) ?_
            rotate_left
            · (intro w hSw; (try dsimp only at hSw); (try obtain ⟨hSa, hSb⟩ := hSw); go_simp; try with_reducible rfl)
            try simp only [Act.put, List.setIfInBounds_toArray, List.set_cons_zero, List.set_cons_succ]
            refine wpAnyH_take (i := 9) (oi := { dst := some 148, op := Op.move (Operand.tmp 8), type := 26, pos := "law.go:183", after := #[{ on := 3, ground := Ground.guard }], guard := some (3, false) }) (v := ?_) rfl (by kernel_rfl) (by kernel_rfl) (by kernel_rfl) (fun _ _ _ h => h) (Or.inl ⟨by rfl, ?_⟩) (by assumption) ?_
            rotate_left
            · (intro w hSw; (try dsimp only at hSw); (try obtain ⟨hSa, hSb⟩ := hSw); go_simp; try with_reducible rfl)
            try simp only [Act.put, List.setIfInBounds_toArray, List.set_cons_zero, List.set_cons_succ]
            refine wpAnyH_take (i := 12) (oi := { dst := some 151, op := Op.move (Operand.tmp 8), type := 26, pos := "law.go:183", after := #[{ on := 3, ground := Ground.guard }], guard := some (3, false) }) (v := ?_) rfl (by kernel_rfl) (by kernel_rfl) (by kernel_rfl) (fun _ _ _ h => h) (Or.inl ⟨by rfl, ?_⟩) (by assumption) ?_
            rotate_left
            · (intro w hSw; (try dsimp only at hSw); (try obtain ⟨hSa, hSb⟩ := hSw); go_simp; try with_reducible rfl)
            try simp only [Act.put, List.setIfInBounds_toArray, List.set_cons_zero, List.set_cons_succ]
            refine wpAnyH_take (i := 15) (oi := { dst := some 154, op := Op.fieldAddr 23 (Operand.tmp 3) 2, type := 0, pos := "law.go:183", after := #[{ on := 3, ground := Ground.guard }], guard := some (3, false) }) (v := ?_) rfl (by kernel_rfl) (by kernel_rfl) (by kernel_rfl) (fun _ _ _ h => h) (Or.inl ⟨by rfl, ?_⟩) (by assumption) ?_
            rotate_left
            · (intro w hSw; (try dsimp only at hSw); (try obtain ⟨hSa, hSb⟩ := hSw); go_simp; try with_reducible rfl)
            try simp only [Act.put, List.setIfInBounds_toArray, List.set_cons_zero, List.set_cons_succ]
            refine wpAnyH_take (i := 16) (oi := { dst := some 155, op := Op.load 3 (Operand.tmp 154), type := 3, pos := "law.go:183", after := #[{ on := 15, ground := Ground.data }, { on := 3, ground := Ground.guard }], guard := some (3, false) }) (v := ?_) rfl (by kernel_rfl) (by kernel_rfl) (by kernel_rfl) (fun _ _ _ h => h) (Or.inl ⟨by rfl, ?_⟩) (by assumption) ?_
            rotate_left
            · (intro w hSw; (try dsimp only at hSw); (try obtain ⟨hSa, hSb⟩ := hSw); go_simp; try with_reducible rfl)
            try simp only [Act.put, List.setIfInBounds_toArray, List.set_cons_zero, List.set_cons_succ]
            refine wpAnyH_ready (rs := [5]) (by kernel_rfl) (by simp) ?_
            refine AllReadyH.cons (o := { dst := some 144, op := Op.call { callee := Callee.value (Operand.func 23), args := #[Operand.tmp 143, Operand.const (Value.int IntKind.i64 0)], argTypes := #[26, 3] }, type := 3, pos := "law.go:183", after := #[{ on := 4, ground := Ground.data }, { on := 3, ground := Ground.chain }, { on := 3, ground := Ground.guard }], guard := some (3, false) }) rfl (fun K hK => ?_) AllReadyH.nil
            go_simp
            (refine (HQ0.out _ HKy1.out).mono ?_; rintro e y2 ⟨rfl, hA⟩; have HKy2 := Lib.hid ((HKy1.out).quiet hA); have HBy2 := Lib.hid ((HBy1.out).only hA id); have HOy2 := Lib.hid ((HOy1.out).trans hA); have cy2 := HBy2.out.cell 2; simp only [List.getElem?_toArray, List.getElem?_cons_zero, List.getElem?_cons_succ] at cy2; rw [HGBE.out] at cy2; clear hA; try simp only [])
            refine hK.out _ _ ?_ (fun hHeld => ?_)
            · exact cy2
            clear hK K
            try simp only [Act.put, List.setIfInBounds_toArray, List.set_cons_zero, List.set_cons_succ]
            refine wpAnyH_ready (rs := [7]) (by kernel_rfl) (by simp) ?_
            refine AllReadyH.cons (o := { dst := some 146, op := Op.call { callee := Callee.value (Operand.func 23), args := #[Operand.tmp 145, Operand.const (Value.int IntKind.i64 1)], argTypes := #[26, 3] }, type := 3, pos := "law.go:183", after := #[{ on := 6, ground := Ground.data }, { on := 5, ground := Ground.chain }, { on := 3, ground := Ground.guard }], guard := some (3, false) }) rfl (fun K hK => ?_) AllReadyH.nil
            go_simp
            (refine (HQ1.out _ HKy2.out).mono ?_; rintro e y3 ⟨rfl, hA⟩; have HKy3 := Lib.hid ((HKy2.out).quiet hA); have HBy3 := Lib.hid ((HBy2.out).only hA id); have HOy3 := Lib.hid ((HOy2.out).trans hA); have cy3 := HBy3.out.cell 2; simp only [List.getElem?_toArray, List.getElem?_cons_zero, List.getElem?_cons_succ] at cy3; rw [HGBE.out] at cy3; clear hA; try simp only [])
            refine hK.out _ _ ?_ (fun hHeld => ?_)
            · exact cy3
            clear hK K
            try simp only [Act.put, List.setIfInBounds_toArray, List.set_cons_zero, List.set_cons_succ]
            refine wpAnyH_take (i := 8) (oi := { dst := some 147, op := Op.binOp BinOp.add 3 (Operand.tmp 144) (Operand.tmp 146) 3, type := 3, pos := "law.go:183", after := #[{ on := 5, ground := Ground.data }, { on := 7, ground := Ground.data }, { on := 3, ground := Ground.guard }], guard := some (3, false) }) (v := ?_) rfl (by kernel_rfl) (by kernel_rfl) (by kernel_rfl) (fun _ _ _ h => h) (Or.inl ⟨by rfl, ?_⟩) (by assumption) ?_
            rotate_left
            · (intro w hSw; (try dsimp only at hSw); (try obtain ⟨hSa, hSb⟩ := hSw); go_simp; try with_reducible rfl)
            try simp only [Act.put, List.setIfInBounds_toArray, List.set_cons_zero, List.set_cons_succ]
            refine wpAnyH_ready (rs := [10]) (by kernel_rfl) (by simp) ?_
            refine AllReadyH.cons (o := { dst := some 149, op := Op.call { callee := Callee.value (Operand.func 23), args := #[Operand.tmp 148, Operand.const (Value.int IntKind.i64 2)], argTypes := #[26, 3] }, type := 3, pos := "law.go:183", after := #[{ on := 9, ground := Ground.data }, { on := 7, ground := Ground.chain }, { on := 3, ground := Ground.guard }], guard := some (3, false) }) rfl (fun K hK => ?_) AllReadyH.nil
            go_simp
            (refine (HQ2.out _ HKy3.out).mono ?_; rintro e y4 ⟨rfl, hA⟩; have HKy4 := Lib.hid ((HKy3.out).quiet hA); have HBy4 := Lib.hid ((HBy3.out).only hA id); have HOy4 := Lib.hid ((HOy3.out).trans hA); have cy4 := HBy4.out.cell 2; simp only [List.getElem?_toArray, List.getElem?_cons_zero, List.getElem?_cons_succ] at cy4; rw [HGBE.out] at cy4; clear hA; try simp only [])
            refine hK.out _ _ ?_ (fun hHeld => ?_)
            · exact cy4
            clear hK K
            try simp only [Act.put, List.setIfInBounds_toArray, List.set_cons_zero, List.set_cons_succ]
            refine wpAnyH_take (i := 11) (oi := { dst := some 150, op := Op.binOp BinOp.add 3 (Operand.tmp 147) (Operand.tmp 149) 3, type := 3, pos := "law.go:183", after := #[{ on := 8, ground := Ground.data }, { on := 10, ground := Ground.data }, { on := 3, ground := Ground.guard }], guard := some (3, false) }) (v := ?_) rfl (by kernel_rfl) (by kernel_rfl) (by kernel_rfl) (fun _ _ _ h => h) (Or.inl ⟨by rfl, ?_⟩) (by assumption) ?_
            rotate_left
            · (intro w hSw; (try dsimp only at hSw); (try obtain ⟨hSa, hSb⟩ := hSw); go_simp; try with_reducible rfl)
            try simp only [Act.put, List.setIfInBounds_toArray, List.set_cons_zero, List.set_cons_succ]
            refine wpAnyH_ready (rs := [13]) (by kernel_rfl) (by simp) ?_
            refine AllReadyH.cons (o := { dst := some 152, op := Op.call { callee := Callee.value (Operand.func 23), args := #[Operand.tmp 151, Operand.const (Value.int IntKind.i64 3)], argTypes := #[26, 3] }, type := 3, pos := "law.go:183", after := #[{ on := 12, ground := Ground.data }, { on := 10, ground := Ground.chain }, { on := 3, ground := Ground.guard }], guard := some (3, false) }) rfl (fun K hK => ?_) AllReadyH.nil
            go_simp
            (refine (HQ3.out _ HKy4.out).mono ?_; rintro e y5 ⟨rfl, hA⟩; have HKy5 := Lib.hid ((HKy4.out).quiet hA); have HBy5 := Lib.hid ((HBy4.out).only hA id); have HOy5 := Lib.hid ((HOy4.out).trans hA); have cy5 := HBy5.out.cell 2; simp only [List.getElem?_toArray, List.getElem?_cons_zero, List.getElem?_cons_succ] at cy5; rw [HGBE.out] at cy5; clear hA; try simp only [])
            refine hK.out _ _ ?_ (fun hHeld => ?_)
            · exact cy5
            clear hK K
            try simp only [Act.put, List.setIfInBounds_toArray, List.set_cons_zero, List.set_cons_succ]
            refine wpAnyH_take (i := 14) (oi := { dst := some 153, op := Op.binOp BinOp.add 3 (Operand.tmp 150) (Operand.tmp 152) 3, type := 3, pos := "law.go:183", after := #[{ on := 11, ground := Ground.data }, { on := 13, ground := Ground.data }, { on := 3, ground := Ground.guard }], guard := some (3, false) }) (v := ?_) rfl (by kernel_rfl) (by kernel_rfl) (by kernel_rfl) (fun _ _ _ h => h) (Or.inl ⟨by rfl, ?_⟩) (by assumption) ?_
            rotate_left
            · (intro w hSw; (try dsimp only at hSw); (try obtain ⟨hSa, hSb⟩ := hSw); go_simp; try with_reducible rfl)
            try simp only [Act.put, List.setIfInBounds_toArray, List.set_cons_zero, List.set_cons_succ]
            refine wpAnyH_take (i := 17) (oi := { dst := some 156, op := Op.binOp BinOp.neq 3 (Operand.tmp 153) (Operand.tmp 155) 3, type := 4, pos := "law.go:183", after := #[{ on := 14, ground := Ground.data }, { on := 16, ground := Ground.data }, { on := 3, ground := Ground.guard }], guard := some (3, false) }) (v := ?_) rfl (by kernel_rfl) (by kernel_rfl) (by kernel_rfl) (fun _ _ _ h => h) (Or.inl ⟨by rfl, ?_⟩) (by assumption) ?_
            rotate_left
            · (intro w hSw; (try dsimp only at hSw); (try obtain ⟨hSa, hSb⟩ := hSw); go_simp; try with_reducible rfl)
            try simp only [Act.put, List.setIfInBounds_toArray, List.set_cons_zero, List.set_cons_succ]
            refine wpAnyH_take (i := 18) (oi := { dst := some 157, op := Op.pick (Operand.tmp 142) (Operand.const (Value.bool true)) (Operand.tmp 156), type := 4, pos := "law.go:183", after := #[{ on := 3, ground := Ground.data }, { on := 17, ground := Ground.data }], guard := none }) (v := ?_) rfl (by kernel_rfl) (by kernel_rfl) (by kernel_rfl) (fun _ _ _ h => h) (Or.inl ⟨by rfl, ?_⟩) (by assumption) ?_
            rotate_left
            · (intro w hSw; (try dsimp only at hSw); (try obtain ⟨hSa, hSb⟩ := hSw); go_simp; try with_reducible rfl)
            try simp only [Act.put, List.setIfInBounds_toArray, List.set_cons_zero, List.set_cons_succ]
            refine wpAnyH_take (i := 19) (oi := { dst := some 158, op := Op.move (Operand.tmp 157), type := 4, pos := "law.go:183", after := #[{ on := 18, ground := Ground.data }, { on := 13, ground := Ground.chain }], guard := none }) (v := ?_) rfl (by kernel_rfl) (by kernel_rfl) (by kernel_rfl) (fun _ _ _ h => h) (Or.inl ⟨by rfl, ?_⟩) (by assumption) ?_
            rotate_left
            · (intro w hSw; (try dsimp only at hSw); (try obtain ⟨hSa, hSb⟩ := hSw); go_simp; try with_reducible rfl)
            try simp only [Act.put, List.setIfInBounds_toArray, List.set_cons_zero, List.set_cons_succ]
            refine wpAnyH_take (i := 20) (oi := { dst := some 159, op := Op.move (Operand.tmp 13), type := 3, pos := "law.go:183", after := #[{ on := 19, ground := Ground.guard }], guard := some (19, false) }) (v := ?_) rfl (by kernel_rfl) (by kernel_rfl) (by kernel_rfl) (fun _ _ _ h => h) (Or.inl ⟨by rfl, ?_⟩) (by assumption) ?_
            rotate_left
            · (intro w hSw; (try dsimp only at hSw); (try obtain ⟨hSa, hSb⟩ := hSw); go_simp; try with_reducible rfl)
            try simp only [Act.put, List.setIfInBounds_toArray, List.set_cons_zero, List.set_cons_succ]
            refine wpAnyH_take (i := 21) (oi := { dst := some 160, op := Op.move (Operand.tmp 8), type := 26, pos := "law.go:183", after := #[{ on := 19, ground := Ground.guard }], guard := some (19, false) }) (v := ?_) rfl (by kernel_rfl) (by kernel_rfl) (by kernel_rfl) (fun _ _ _ h => h) (Or.inl ⟨by rfl, ?_⟩) (by assumption) ?_
            rotate_left
            · (intro w hSw; (try dsimp only at hSw); (try obtain ⟨hSa, hSb⟩ := hSw); go_simp; try with_reducible rfl)
            try simp only [Act.put, List.setIfInBounds_toArray, List.set_cons_zero, List.set_cons_succ]
            refine wpAnyH_ready (rs := [22]) (by kernel_rfl) (by simp) ?_
            refine AllReadyH.cons (o := { dst := some 161, op := Op.call { callee := Callee.value (Operand.func 22), args := #[Operand.tmp 160], argTypes := #[26] }, type := 3, pos := "law.go:183", after := #[{ on := 21, ground := Ground.data }, { on := 19, ground := Ground.chain }, { on := 19, ground := Ground.guard }], guard := some (19, false) }) rfl (fun K hK => ?_) AllReadyH.nil
            go_simp
            (refine (HCAP'.out _ HKy5.out).mono ?_; rintro e y6 ⟨rfl, hA⟩; have HKy6 := Lib.hid ((HKy5.out).quiet hA); have HBy6 := Lib.hid ((HBy5.out).only hA id); have HOy6 := Lib.hid ((HOy5.out).trans hA); have cy6 := HBy6.out.cell 2; simp only [List.getElem?_toArray, List.getElem?_cons_zero, List.getElem?_cons_succ] at cy6; rw [HGBE.out] at cy6; clear hA; try simp only [])
            refine hK.out _ _ ?_ (fun hHeld => ?_)
            · exact cy6
            clear hK K
            try simp only [Act.put, List.setIfInBounds_toArray, List.set_cons_zero, List.set_cons_succ]
            refine wpAnyH_take (i := 23) (oi := { dst := some 162, op := Op.binOp BinOp.neq 3 (Operand.tmp 159) (Operand.tmp 161) 3, type := 4, pos := "law.go:183", after := #[{ on := 20, ground := Ground.data }, { on := 22, ground := Ground.data }, { on := 19, ground := Ground.guard }], guard := some (19, false) }) (v := ?_) rfl (by kernel_rfl) (by kernel_rfl) (by kernel_rfl) (fun _ _ _ h => h) (Or.inl ⟨by rfl, ?_⟩) (by assumption) ?_
            rotate_left
            · (intro w hSw; (try dsimp only at hSw); (try obtain ⟨hSa, hSb⟩ := hSw); go_simp; try with_reducible rfl)
            try simp only [Act.put, List.setIfInBounds_toArray, List.set_cons_zero, List.set_cons_succ]
            refine wpAnyH_take (i := 24) (oi := { dst := some 163, op := Op.pick (Operand.tmp 158) (Operand.const (Value.bool true)) (Operand.tmp 162), type := 4, pos := "law.go:183", after := #[{ on := 19, ground := Ground.data }, { on := 23, ground := Ground.data }], guard := none }) (v := ?_) rfl (by kernel_rfl) (by kernel_rfl) (by kernel_rfl) (fun _ _ _ h => h) (Or.inl ⟨by rfl, ?_⟩) (by assumption) ?_
            rotate_left
            · (intro w hSw; (try dsimp only at hSw); (try obtain ⟨hSa, hSb⟩ := hSw); go_simp; try with_reducible rfl)
            try simp only [Act.put, List.setIfInBounds_toArray, List.set_cons_zero, List.set_cons_succ]
            refine wpAnyH_take (i := 25) (oi := { dst := some 164, op := Op.move (Operand.tmp 163), type := 4, pos := "law.go:183", after := #[{ on := 24, ground := Ground.data }, { on := 22, ground := Ground.chain }], guard := none }) (v := ?_) rfl (by kernel_rfl) (by kernel_rfl) (by kernel_rfl) (fun _ _ _ h => h) (Or.inl ⟨by rfl, ?_⟩) (by assumption) ?_
            rotate_left
            · (intro w hSw; (try dsimp only at hSw); (try obtain ⟨hSa, hSb⟩ := hSw); go_simp; try with_reducible rfl)
            try simp only [Act.put, List.setIfInBounds_toArray, List.set_cons_zero, List.set_cons_succ]
            refine wpAnyH_take (i := 26) (oi := { dst := some 165, op := Op.move (Operand.tmp 13), type := 3, pos := "law.go:183", after := #[{ on := 25, ground := Ground.guard }], guard := some (25, false) }) (v := ?_) rfl (by kernel_rfl) (by kernel_rfl) (by kernel_rfl) (fun _ _ _ h => h) (Or.inl ⟨by rfl, ?_⟩) (by assumption) ?_
            rotate_left
            · (intro w hSw; (try dsimp only at hSw); (try obtain ⟨hSa, hSb⟩ := hSw); go_simp; try with_reducible rfl)
            try simp only [Act.put, List.setIfInBounds_toArray, List.set_cons_zero, List.set_cons_succ]
            refine wpAnyH_take (i := 27) (oi := { dst := some 166, op := Op.move (Operand.tmp 10), type := 3, pos := "law.go:183", after := #[{ on := 25, ground := Ground.guard }], guard := some (25, false) }) (v := ?_) rfl (by kernel_rfl) (by kernel_rfl) (by kernel_rfl) (fun _ _ _ h => h) (Or.inl ⟨by rfl, ?_⟩) (by assumption) ?_
            rotate_left
            · (intro w hSw; (try dsimp only at hSw); (try obtain ⟨hSa, hSb⟩ := hSw); go_simp; try with_reducible rfl)
            try simp only [Act.put, List.setIfInBounds_toArray, List.set_cons_zero, List.set_cons_succ]
            refine wpAnyH_take (i := 28) (oi := { dst := some 167, op := Op.binOp BinOp.gtr 3 (Operand.tmp 165) (Operand.tmp 166) 3, type := 4, pos := "law.go:183", after := #[{ on := 26, ground := Ground.data }, { on := 27, ground := Ground.data }, { on := 25, ground := Ground.guard }], guard := some (25, false) }) (v := ?_) rfl (by kernel_rfl) (by kernel_rfl) (by kernel_rfl) (fun _ _ _ h => h) (Or.inl ⟨by rfl, ?_⟩) (by assumption) ?_
            rotate_left
            · (intro w hSw; (try dsimp only at hSw); (try obtain ⟨hSa, hSb⟩ := hSw); go_simp; try with_reducible rfl)
            try simp only [Act.put, List.setIfInBounds_toArray, List.set_cons_zero, List.set_cons_succ]
            refine wpAnyH_take (i := 29) (oi := { dst := some 168, op := Op.pick (Operand.tmp 164) (Operand.const (Value.bool true)) (Operand.tmp 167), type := 4, pos := "law.go:183", after := #[{ on := 25, ground := Ground.data }, { on := 28, ground := Ground.data }], guard := none }) (v := ?_) rfl (by kernel_rfl) (by kernel_rfl) (by kernel_rfl) (fun _ _ _ h => h) (Or.inl ⟨by rfl, ?_⟩) (by assumption) ?_
            rotate_left
            · (intro w hSw; (try dsimp only at hSw); (try obtain ⟨hSa, hSb⟩ := hSw); go_simp; try with_reducible rfl)
            try simp only [Act.put, List.setIfInBounds_toArray, List.set_cons_zero, List.set_cons_succ]
            refine wpAnyH_done (by kernel_rfl) ?_ _
            have HKF := Lib.hid HKy6.out
            have HBF := Lib.hid HBy6.out
            have HOF := Lib.hid HOy6.out
            go_wp2_with (fail)
            go_roundw
            case rel => exact ⟨i + 1, l', op', by omega, by omega, by simp, rfl, HKF.out, HI'.out, HLN'.out, HBF.out, HOF.out⟩
            case measure => simp [intOf]; omega
end Go.Proofs.Ytlenjgofiocaaaa
