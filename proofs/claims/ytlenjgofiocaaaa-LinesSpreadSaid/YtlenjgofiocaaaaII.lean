/- Lines: LinesSpread walked. -/
import Derived.Test.YtlenjgofiocaaaaHH
import Derived.Test.YtlenjgofiocaaaaZ
import Derived.Deep.CutBlock
import Derived.Deep.DeepCutAuto
namespace Go.Proofs.Ytlenjgofiocaaaa
open Go.RowKit

set_option maxRecDepth 100000 in
set_option maxHeartbeats 16000000 in
theorem linesSpread_walk (G : Ge) (hw : G.Wf) (wear rounds : Int) (gm cm : Nat) (Am : Option Addr) (more : List Bool) (w : World) (hm : Rd w gm Am (more.map Value.bool)) :
    Calls Try.prog 5 #[G.val, .agg #[.int .i64 wear, .int .i64 rounds], .slice Am more.length cm] w fun e w' => e = .returned (.bool true) ∧ Below w.heap.size w w' := by
  have o1 := (Only.refl (fun _ => False) w).alloc (.cells #[.int .i64 G.c, .int .i64 G.l, .int .i64 G.b, .int .i64 G.p, .int .i64 G.s] 23)
  have n1 := At.new w 23 #[.int .i64 G.c, .int .i64 G.l, .int .i64 G.b, .int .i64 G.p, .int .i64 G.s]
  have hs1 : (w.alloc (.cells #[.int .i64 G.c, .int .i64 G.l, .int .i64 G.b, .int .i64 G.p, .int .i64 G.s] 23)).heap.size = w.heap.size + 1 := by simp
  have HO0 := Lib.hid (o1.alloc (.cells #[.int .i64 wear, .int .i64 rounds] 50))
  have HN0 := Lib.hid (n1.alloc (.cells #[.int .i64 wear, .int .i64 rounds] 50))
  have m1 := At.new (w.alloc (.cells #[.int .i64 G.c, .int .i64 G.l, .int .i64 G.b, .int .i64 G.p, .int .i64 G.s] 23)) 50 #[.int .i64 wear, .int .i64 rounds]
  rw [hs1] at m1
  have HM0 := Lib.hid m1
  have HMO := Lib.hid hm
  have HW := Lib.hid hw
  obtain ⟨nm, hnm⟩ : ∃ nm, more.length = nm := ⟨_, rfl⟩
  have HNM := Lib.hid hnm
  clear o1 n1 hs1 m1 hm hw
  unfold Ge.val
  rw [hnm]
  clear hnm
  go_enter Try.func5, Try.ntmps5
  go_wp2_with (fail)
  refine (awake_any _).mono ?_
  rintro e w1 ⟨rfl, hO⟩
  have HO1 := Lib.hid (HO0.out.trans hO)
  have a1 := HN0.out.only hO id
  have s1 := HM0.out.only hO id
  have g2 := a1.cell 2
  have q0 := s1.cell 0
  have q1 := s1.cell 1
  simp only [List.getElem?_toArray, List.getElem?_cons_zero, List.getElem?_cons_succ] at g2 q0 q1
  have HN1 := Lib.hid a1
  clear hO a1 s1 HN0 HM0 HO0
  go_wp2_with (fail)
  go_quiet (fail)
  clear q0 q1
  by_cases h1 : G.b < 1
  · go_wp2
    go_ret
    exact ⟨rfl, (HO1.out.drewN _).below (Nat.le_refl _) (fun _ _ => id)⟩
  have d1 : decide (G.b < 1) = false := decide_eq_false h1
  by_cases h2 : 64 < G.b
  · have d2 : decide (64 < G.b) = true := decide_eq_true h2
    go_wp2
    go_ret
    exact ⟨rfl, (HO1.out.drewN _).below (Nat.le_refl _) (fun _ _ => id)⟩
  have d2 : decide (64 < G.b) = false := decide_eq_false h2
  by_cases h3 : wear < 0
  · go_wp2
    go_ret
    exact ⟨rfl, (HO1.out.drewN _).below (Nat.le_refl _) (fun _ _ => id)⟩
  have d3 : decide (wear < 0) = false := decide_eq_false h3
  by_cases h4 : 1000000 < wear
  · go_wp2
    go_ret
    exact ⟨rfl, (HO1.out.drewN _).below (Nat.le_refl _) (fun _ _ => id)⟩
  have d4 : decide (1000000 < wear) = false := decide_eq_false h4
  by_cases h5 : (64 : Int) < nm
  · go_wp2
    go_ret
    exact ⟨rfl, (HO1.out.drewN _).below (Nat.le_refl _) (fun _ _ => id)⟩
  have d5 : decide ((64 : Int) < nm) = false := decide_eq_false h5
  have d5' : decide (64 < nm) = false := decide_eq_false (by omega)
  by_cases h6 : rounds < 0
  · go_wp2
    go_ret
    exact ⟨rfl, (HO1.out.drewN _).below (Nat.le_refl _) (fun _ _ => id)⟩
  have d6 : decide (rounds < 0) = false := decide_eq_false h6
  by_cases h7 : 300 < rounds
  · go_wp2
    go_ret
    exact ⟨rfl, (HO1.out.drewN _).below (Nat.le_refl _) (fun _ _ => id)⟩
  have d7 : decide (300 < rounds) = false := decide_eq_false h7
  obtain ⟨nb, hnb⟩ : ∃ nb : Nat, G.b = nb := ⟨G.b.toNat, by omega⟩
  have hnb1 : 1 ≤ nb ∧ nb ≤ 64 := by omega
  have HNB := Lib.hid hnb
  have HGT := Lib.hid (And.intro (And.intro h3 h4) (And.intro h6 h7))
  clear h1 h2 h3 h4 h5 h6 h7 hnb
  go_wp2_with (fail)
  clear g2
  obtain ⟨i0t, hi⟩ : ∃ i, Try.prog.info? 3 = some i := ⟨_, rfl⟩
  have hz0 : i0t.zero = some (.int .i64 0) := by cases hi; rfl
  have hz1 : i0t.size = 1 := by cases hi; rfl
  have hz2 : i0t.bytes = 8 := by cases hi; rfl
  have HIT := Lib.hid (And.intro hi (And.intro hz0 (And.intro hz1 hz2)))
  clear hi hz0 hz1 hz2
  go_loopw [11, 12] (fun v11 v12 wr => ∃ (k : Nat) (A1 : Option Addr) (c1 g1 : Nat) (A2 : Option Addr) (c2 g2 : Nat), k ≤ nb ∧ v11 = .int .i64 k ∧ At wr w.heap.size 23 #[.int .i64 G.c, .int .i64 G.l, .int .i64 G.b, .int .i64 G.p, .int .i64 G.s] ∧ At wr w1.heap.size 36 #[.slice A1 k c1, .slice A2 k c2] ∧
      RowAt wr A1 k c1 g1 3 1 (iv (spG k)) ∧ RowAt wr A2 k c2 g2 3 1 (iv (spW wear more k)) ∧ (A1 ≠ none → w.heap.size < g1) ∧ (A2 ≠ none → w.heap.size < g2) ∧ (A1 ≠ none → A2 ≠ none → g1 ≠ g2) ∧ Only (fun _ => False) w wr) (fun v11 _ wr => (nb - intOf v11).toNat)
  case atStart => exact ⟨0, none, 0, 0, none, 0, 0, by omega, rfl, HN1.out.alloc _, At.new _ _ _, .inl ⟨rfl, rfl, rfl, rfl⟩, .inl ⟨rfl, rfl, rfl, rfl⟩, fun h => absurd rfl h, fun h => absurd rfl h, fun h => absurd rfl h, (HO1.out.drewN _).alloc _⟩
  case round =>
    obtain ⟨k, A1, c1, g1, A2, c2, g2, hk, rfl, hbox, hx, hr1, hr2, hg1, hg2, hg12, hO⟩ := hrel
    have HBX := Lib.hid hbox
    have HX := Lib.hid hx
    have HR1 := Lib.hid hr1
    have HR2 := Lib.hid hr2
    have HGS := Lib.hid (And.intro hg1 (And.intro hg2 hg12))
    have HO := Lib.hid hO
    have b2 := hbox.cell 2
    simp only [List.getElem?_toArray, List.getElem?_cons_zero, List.getElem?_cons_succ] at b2
    rw [HNB.out] at b2
    clear hbox hx hr1 hr2 hg1 hg2 hg12 hO
    by_cases hkn : k < nb
    case pos =>
      have k0 : (0 : Int) ≤ k := by omega
      have k1 : (k : Int) < nb := by omega
      obtain ⟨B, hB⟩ : ∃ B, more.getD k false = B := ⟨_, rfl⟩
      have HB := Lib.hid hB
      clear hB
      go_upto_region 10 with (fail)
      go_cut [78] (fun v78 wy => v78 = .bool B ∧ wy = wr)
      case first =>
        by_cases hkm : k < nm
        · have m1 : (k : Int) < nm := by omega
          have hkl : k < more.length := by rw [HNM.out]; exact hkm
          obtain ⟨offm, rfl, hgm, hrd⟩ := (HMO.out.only HO.out id).at (fun e => by rw [List.map_eq_nil_iff] at e; rw [e] at hkl; simp at hkl)
          have cm0 : wr.cell? ⟨gm, offm + k, none⟩ = some (.bool B) := hrd k _ (by have := HB.out; simp [List.getD, hkl] at this; simp [hkl, this])
          clear hrd hgm
          go_wp2_with (fail)
          go_meet
          exact ⟨rfl, rfl⟩
        · have m1 : decide ((k : Int) < nm) = false := decide_eq_false (by omega)
          have m2 : decide (k < nm) = false := decide_eq_false hkm
          have hB : B = false := by rw [← HB.out]; simp [List.getD, List.getElem?_eq_none (show more.length ≤ k by have := HNM.out; omega)]
          subst hB
          go_wp2_with (fail)
          go_meet
          exact ⟨rfl, rfl⟩
      case rest =>
        obtain ⟨rfl, rfl⟩ := hcut
        go_upto_if 78 with (fail)
        go_cut [12] (fun v12 wy => v12 = .int .i64 (if B then wear + 1 else wear) ∧ wy = wc)
        case first =>
          have hwr : 0 ≤ wear ∧ wear ≤ 1000000 := by have := HGT.out; omega
          have w0 := hwr.1
          have w1' := hwr.2
          clear hwr
          cases B
          · go_wp2_with (fail)
            go_meet
            exact ⟨rfl, rfl⟩
          · go_wp2_with (fail)
            go_meet
            exact ⟨rfl, rfl⟩
        case rest =>
          obtain ⟨rfl, rfl⟩ := hcut
          obtain ⟨z, hz⟩ : ∃ z, (if B then wear + 1 else wear) = z := ⟨_, rfl⟩
          rw [hz]
          have HZZ := Lib.hid hz
          clear hz b2
          have oa := (Only.refl (fun _ => False) wc).alloc (.cells #[.int .i64 1] 3)
          have HXa := Lib.hid (HX.out.only oa id)
          have HR1a := Lib.hid (HR1.out.only oa (fun _ => id))
          have HR2a := Lib.hid (HR2.out.only oa (fun _ => id))
          have HBa := Lib.hid (HBX.out.only oa id)
          have HOa := Lib.hid (HO.out.trans oa)
          have HNa := Lib.hid (At.new wc 3 #[.int .i64 1])
          have x0 := HX.out.cell 0
          simp only [List.getElem?_toArray, List.getElem?_cons_zero] at x0
          have hkm : k + 1 ≤ maxLen := by unfold maxLen; omega
          clear oa
          go_upto_region 13 with (at_builtin; go_loud (refine wpList_append_row _ rfl (.tmp 82) (.tmp 83) 24 rfl 3 i0t (.int .i64 0) 1 8 Try.underlying24 HIT.out.1 HIT.out.2.1 HIT.out.2.2.1 HIT.out.2.2.2 rfl (by decide) A1 k c1 g1 (iv (spG k)) rfl HR1a.out ⟨wc.heap.size, 0, none⟩ [.int .i64 1] 1 rfl rfl (fun j u hj => At.reads HNa.out j u hj) (by simp [Value.oneCell']) hkm (by omega) ?_); intro A3 c3 g3 w8 hrow3 hO3 hA3; have HR3 := Lib.hid hrow3; have HO3 := Lib.hid hO3; have HA3 := Lib.hid hA3; have hx8 := HXa.out.only hO3 (fun h => HR1a.out.neAt HXa.out h.1 (by decide) h.2.symm); have HX8 := Lib.hid hx8; have f8 := hx8.frozen 0; have c8 := hx8.cell 0; simp only [List.getElem?_toArray, List.getElem?_cons_zero] at c8; clear hrow3 hO3 hA3 hx8)
          have hX9 : At (w8.setCell ⟨w1.heap.size, 0, none⟩ (.slice A3 (k + 1) c3)) w1.heap.size 36 #[.slice A3 (k + 1) c3, .slice A2 k c2] := HX8.out.set 0 _
          have o9 := (Only.refl (fun i => i = w1.heap.size) w8).setCell (p := ⟨w1.heap.size, 0, none⟩) (fun _ => rfl) (.slice A3 (k + 1) c3)
          have hR28 := HR2a.out.only HO3.out (fun hA h => HGS.out.2.2 h.1 hA h.2.symm)
          have hR29 := hR28.only o9 (fun hA => hR28.neAt HX8.out hA (by decide))
          have hR39 := HR3.out.only o9 (fun hA => HR3.out.neAt HX8.out hA (by decide))
          have hB8 := HBa.out.only HO3.out (fun h => by have := HGS.out.1 h.1; omega)
          have hB9 := hB8.only o9 (hB8.ne HX8.out (by decide))
          have hO9 := (HOa.out.trans' HO3.out (fun i hi e => by have := HGS.out.1 e.1; omega)).setCell (p := ⟨w1.heap.size, 0, none⟩) (fun h => by have := HO1.out.size; simp at h; omega) (.slice A3 (k + 1) c3)
          have ea : (wc.alloc (.cells #[.int .i64 1] 3)).heap.size = wc.heap.size + 1 := by simp
          have hwc := HO.out.size
          have hg3 : w.heap.size < g3 := by
            rcases HA3.out.2 with ⟨h1, h2⟩ | h2
            · rw [h2]; exact HGS.out.1 h1
            · rw [ea] at h2
              omega
          have hg32 : A2 ≠ none → g3 ≠ g2 := fun hA e => by
            rcases HA3.out.2 with ⟨h1, h2⟩ | h2
            · exact HGS.out.2.2 h1 hA (h2.symm.trans e)
            · have := HR2a.out.lt hA; omega
          have es : w8.heap.size = (w8.setCell ⟨w1.heap.size, 0, none⟩ (.slice A3 (k + 1) c3)).heap.size := by simp
          have ob := (Only.refl (fun _ => False) (w8.setCell ⟨w1.heap.size, 0, none⟩ (.slice A3 (k + 1) c3))).alloc (.cells #[.int .i64 z] 3)
          have HXb := Lib.hid (hX9.only ob id)
          have HR2b := Lib.hid (hR29.only ob (fun _ => id))
          have HR3b := Lib.hid (hR39.only ob (fun _ => id))
          have HBb := Lib.hid (hB9.only ob id)
          have HOb := Lib.hid (hO9.trans ob)
          have HNb := Lib.hid (At.new' es 3 #[.int .i64 z])
          have HG3 := Lib.hid (And.intro hg3 hg32)
          have x1 := hX9.cell 1
          simp only [List.getElem?_toArray, List.getElem?_cons_zero, List.getElem?_cons_succ] at x1
          clear hX9 o9 hR28 hR29 hR39 hB8 hB9 hO9 ea hg3 hg32 es ob x0 c8 f8 hwc
          go_wp2_with (at_builtin; go_loud (refine wpList_append_row _ rfl (.tmp 87) (.tmp 89) 24 rfl 3 i0t (.int .i64 0) 1 8 Try.underlying24 HIT.out.1 HIT.out.2.1 HIT.out.2.2.1 HIT.out.2.2.2 rfl (by decide) A2 k c2 g2 (iv (spW wear more k)) rfl HR2b.out ⟨w8.heap.size, 0, none⟩ [.int .i64 z] 1 rfl rfl (fun j u hj => At.reads HNb.out j u hj) (by simp [Value.oneCell']) hkm (by omega) ?_); intro A4 c4 g4 w10 hrow4 hO4 hA4; have HR4 := Lib.hid hrow4; have HO4 := Lib.hid hO4; have HA4 := Lib.hid hA4; have hx10 := HXb.out.only hO4 (fun h => HR2b.out.neAt HXb.out h.1 (by decide) h.2.symm); have HX10 := Lib.hid hx10; have f10 := hx10.frozen 1; have c10 := hx10.cell 1; simp only [List.getElem?_toArray, List.getElem?_cons_zero, List.getElem?_cons_succ] at c10; clear hrow4 hO4 hA4 hx10)
          have hX11 : At (w10.setCell ⟨w1.heap.size, 1, none⟩ (.slice A4 (k + 1) c4)) w1.heap.size 36 #[.slice A3 (k + 1) c3, .slice A4 (k + 1) c4] := HX10.out.set 1 _
          have o11 := (Only.refl (fun i => i = w1.heap.size) w10).setCell (p := ⟨w1.heap.size, 1, none⟩) (fun _ => rfl) (.slice A4 (k + 1) c4)
          have hR310 := HR3b.out.only HO4.out (fun _ h => HG3.out.2 h.1 h.2)
          have hR311 := hR310.only o11 (fun hA => hR310.neAt HX10.out hA (by decide))
          have hR411 := HR4.out.only o11 (fun hA => HR4.out.neAt HX10.out hA (by decide))
          have hB10 := HBb.out.only HO4.out (fun h => by have := HGS.out.2.1 h.1; omega)
          have hB11 := hB10.only o11 (hB10.ne HX10.out (by decide))
          have hO11 := (HOb.out.trans' HO4.out (fun i hi e => by have := HGS.out.2.1 e.1; omega)).setCell (p := ⟨w1.heap.size, 1, none⟩) (fun h => by have := HO1.out.size; simp at h; omega) (.slice A4 (k + 1) c4)
          have hg4 : w.heap.size < g4 := by
            rcases HA4.out.2 with ⟨h1, h2⟩ | h2
            · rw [h2]; exact HGS.out.2.1 h1
            · have h3 := HOb.out.size
              have h4 := HBb.out.lt
              omega
          have hg34 : g3 ≠ g4 := fun e => by
            rcases HA4.out.2 with ⟨h1, h2⟩ | h2
            · exact HG3.out.2 h1 (e.trans h2)
            · have := HR3b.out.lt HA3.out.1; omega
          have e1 : iv (spG (k + 1)) = iv (spG k) ++ [.int .i64 1] := by simp [spG, iv]
          have e2 : iv (spW wear more (k + 1)) = iv (spW wear more k) ++ [.int .i64 z] := by simp only [spW, HB.out, HZZ.out]; simp [iv]
          rw [← e1] at hR311
          rw [← e2] at hR411
          have HFIN := Lib.hid (And.intro hB11 (And.intro hX11 (And.intro hR311 (And.intro hR411 (And.intro hg4 (And.intro hg34 hO11))))))
          clear hX11 o11 hR310 hR311 hR411 hB10 hB11 hO11 hg4 hg34 e1 e2 x1 c10 f10
          go_roundw
          case rel => exact ⟨k + 1, A3, c3, g3, A4, c4, g4, by omega, by simp, HFIN.out.1, HFIN.out.2.1, HFIN.out.2.2.1, HFIN.out.2.2.2.1, fun _ => HG3.out.1, fun _ => HFIN.out.2.2.2.2.1, fun _ _ => HFIN.out.2.2.2.2.2.1, HFIN.out.2.2.2.2.2.2⟩
          case measure => simp [intOf]; omega
    case neg =>
      obtain rfl : k = nb := by omega
      have k1 : ¬ (k : Int) < k := by omega
      have hL1 := spG_len k
      have hL2 := spW_len wear more k
      have hnew := new_any G HW.out (spG k) (spW wear more k) A1 A2 c1 c2 g1 g2 wr HR1.out.rd HR2.out.rd
      rw [hL1, hL2] at hnew
      have HNEW := Lib.hid hnew
      have HL1 := Lib.hid hL1
      unfold Ge.val at HNEW
      have p0 := HBX.out.cell 0
      have p1 := HBX.out.cell 1
      have p2 := HBX.out.cell 2
      have p3 := HBX.out.cell 3
      have p4 := HBX.out.cell 4
      have x0 := HX.out.cell 0
      have x1 := HX.out.cell 1
      simp only [List.getElem?_toArray, List.getElem?_cons_zero, List.getElem?_cons_succ] at p0 p1 p2 p3 p4 x0 x1
      clear hL1 hL2 hnew hkn
      rw [← HNB.out] at b2
      clear b2
      have k2 : decide ((k : Int) < G.b) = false := decide_eq_false (by have := HNB.out; omega)
      go_wp2_with (fail)
      refine HNEW.out.mono ?_
      rintro e w2 (⟨hok, b, off, c, gb, rfl, kk, hb1, hb2, hO⟩ | ⟨hno, rfl, hO⟩)
      case inr =>
        have HO2 := Lib.hid (HO.out.trans hO)
        clear hno hO p0 p1 p2 p3 p4 x0 x1
        go_wp2
        go_ret
        exact ⟨rfl, HO2.out.below (Nat.le_refl _) (fun _ _ => id)⟩
      clear p0 p1 p2 p3 p4 x0 x1
      have HG := Lib.hid (newOk_g hok).1
      have HE2 : Hid (Even (newL (spG k) (spW wear more k) k) wear) := Lib.hid even_new
      rw [HL1.out] at kk
      have HLN := Lib.hid (newL_len (spG k) (spW wear more k) k)
      have HK2 := Lib.hid kk
      have HB2 := Lib.hid (HBX.out.only hO id)
      have HO2 := Lib.hid (HO.out.trans hO)
      have HGB : Hid (w.heap.size < b ∧ w.heap.size < gb) := Lib.hid (by have := HBX.out.lt; omega)
      clear hok kk hO hb1 hb2
      go_wp2_with (fail)
      go_loopw [15, 16, 17, 18, 19, 20, 21, 22, 23, 24, 25, 26] (fun v15 v16 v17 v18 v19 v20 v21 v22 v23 v24 v25 v26 wq => ∃ (i : Nat) (l : List Ln) (m : Int), (i : Int) ≤ rounds ∧ v15 = .int .i64 i ∧ LAt wq b G l off c gb (-1) ∧ Even l m ∧ l.length = k ∧ 0 ≤ m ∧ m ≤ 1000000 + i ∧ At wq w.heap.size 23 #[.int .i64 G.c, .int .i64 G.l, .int .i64 G.b, .int .i64 G.p, .int .i64 G.s] ∧ Only (fun _ => False) w wq) (fun v15 _ _ _ _ _ _ _ _ _ _ _ wq => (rounds - intOf v15).toNat)
      case atStart => exact ⟨0, _, wear, by have := HGT.out; omega, rfl, HK2.out, HE2.out, HLN.out, by have := HGT.out; omega, by have := HGT.out; omega, HB2.out, HO2.out⟩
      case round =>
        obtain ⟨i, l, m, hi, rfl, hk, hE, hln, hm0, hm1, hbox, hO⟩ := hrel
        have hr300 : rounds ≤ 300 := by have := HGT.out; omega
        have HKi := Lib.hid hk
        have HEi := Lib.hid hE
        have HLi := Lib.hid hln
        have HBi := Lib.hid hbox
        have HOi := Lib.hid hO
        clear hk hE hln hbox hO
        by_cases hir : (i : Int) < rounds
        case neg =>
          have d8 : decide ((i : Int) < rounds) = false := decide_eq_false hir
          go_wp2
          go_ret
          exact ⟨rfl, HOi.out.below (Nat.le_refl _) (fun _ _ => id)⟩
        have hl1 : 1 ≤ l.length := by rw [HLi.out]; exact hnb1.1
        obtain ⟨y, hy, hleast⟩ := HEi.out.opens hl1
        obtain ⟨hj, hxy⟩ := List.getElem?_eq_some_iff.1 y.2
        obtain ⟨m', hm', hm2', hE'⟩ := HEi.out.round hleast hj
        have HP := Lib.hid (open_any b off c gb G l (-1) wr HKi.out (by decide))
        rw [hy] at HP
        unfold OpenP at HP
        obtain ⟨j, hjj⟩ : ∃ j, y.1.1 = j := ⟨_, rfl⟩
        obtain ⟨x, hxx⟩ : ∃ x, y.1.2 = x := ⟨_, rfl⟩
        simp only [hjj, hxx] at HP hj hxy hE'
        have hx0 : x.s = 0 := by have := HEi.out.s _ (List.getElem_mem hj); rwa [hxy] at this
        have hxg : x.g = 1 := by have := HEi.out.g _ (List.getElem_mem hj); rwa [hxy] at this
        have hxw := HEi.out.w _ (List.getElem_mem hj)
        rw [hxy] at hxw hE'
        have hwl : ∀ z ∈ l.set j { x with s := 1 }, 0 ≤ z.w ∧ z.w ≤ 2147483647 := fun z hz => by
          rcases List.mem_or_eq_of_mem_set hz with hz | rfl
          · have := HEi.out.w z hz; omega
          · simp only; omega
        have hj1 : j < (l.set j { x with s := 1 }).length := by simpa using hj
        have e1 : findE (l.set j { x with s := 1 }) j 1 = 0 := by rw [findE_in hj1]; simp
        have e2 : erM (l.set j { x with s := 1 }) j = l.set j { x with s := 1, w := x.w + 1 } := by
          unfold erM
          rw [e1, if_pos rfl, upd_nat hj1]
          simp only [List.getElem_set_self, List.set_set]
          rw [show min (x.w + 1) 2147483647 = x.w + 1 from by omega]
        have hj2 : j < (l.set j { x with s := 1, w := x.w + 1 }).length := by simpa using hj
        have e3 : (l.set j { x with s := 1, w := x.w + 1 }).set j { (l.set j { x with s := 1, w := x.w + 1 })[j] with s := 2 } = l.set j { x with s := 2, w := x.w + 1 } := by simp
        have hj3 : j < (l.set j { x with s := 2, w := x.w + 1 }).length := by simpa using hj
        have e4 : findE (l.set j { x with s := 2, w := x.w + 1 }) j 2 = 0 := by rw [findE_in hj3]; simp
        have e5 : relM (l.set j { x with s := 2, w := x.w + 1 }) j = l.set j { x with w := x.w + 1 } := by
          unfold relM
          rw [e4, if_pos rfl, upd_nat hj3]
          simp only [List.getElem_set_self, List.set_set]
          rw [hxg, hx0]; rfl
        have HER : Hid (∀ W, LAt W b G (l.set j { x with s := 1 }) off c gb j → Calls Try.prog 18 #[.pointer (some ⟨b, 0, none⟩), .int .i64 j] W fun e w' => e = .returned (.int .i64 0) ∧ LAt w' b G (l.set j { x with s := 1, w := x.w + 1 }) off c gb j ∧ Only (fun i => i = gb) W w') :=
          Lib.hid (fun W k => by have := erased_any b off c gb G _ hwl j j W k; rwa [e1, e2] at this)
        have HCL : Hid (∀ W, LAt W b G (l.set j { x with s := 1, w := x.w + 1 }) off c gb j → Calls Try.prog 16 #[.pointer (some ⟨b, 0, none⟩)] W fun e w' => e = .returned (.tuple #[.int .i64 j, .int .i64 0]) ∧ LAt w' b G (l.set j { x with s := 2, w := x.w + 1 }) off c gb (-1) ∧ Only (fun i => i = b ∨ i = gb) W w') :=
          Lib.hid (fun W k => by have := close_ok b off c gb G _ j hj2 W k; rwa [e3] at this)
        have HRE : Hid (∀ W, LAt W b G (l.set j { x with s := 2, w := x.w + 1 }) off c gb (-1) → Calls Try.prog 17 #[.pointer (some ⟨b, 0, none⟩), .int .i64 j] W fun e w' => e = .returned (.int .i64 0) ∧ LAt w' b G (l.set j { x with w := x.w + 1 }) off c gb (-1) ∧ Only (fun i => i = gb) W w') :=
          Lib.hid (fun W k => by have := release_any b off c gb G _ (-1) j W k; rwa [e4, e5] at this)
        have HE' := Lib.hid hE'
        have HLN' : Hid ((l.set j { x with w := x.w + 1 }).length = k) := Lib.hid (by rw [List.length_set]; exact HLi.out)
        have hmm : 0 ≤ m' ∧ m' ≤ 1000000 + (i + 1) := by omega
        have HMM := Lib.hid hmm
        clear hy hleast hxy hE' hx0 hxg hxw hwl e1 e2 e3 e4 e5 hjj hxx hj hj1 hj2 hj3 hm' hm2' hmm
        have i0 : (0 : Int) ≤ i := by omega
        go_wp2_with (fail)
        refine HP.out.mono ?_
        rintro e w3 ⟨rfl, hk3, hO3⟩
        have HK3 := Lib.hid hk3
        have HO3 := Lib.hid (HOi.out.trans' hO3 (S := fun _ => False) (fun q hq h => by have := HGB.out; have h : q = b ∨ q = gb := h; omega))
        have HB3 := Lib.hid (HBi.out.only hO3 (by have := HGB.out; omega))
        clear hk3 hO3
        go_wp2_with (fail)
        refine (HER.out _ HK3.out).mono ?_
        rintro e w4 ⟨rfl, hk4, hO4⟩
        have HK4 := Lib.hid hk4
        have HO4 := Lib.hid (HO3.out.trans' hO4 (S := fun _ => False) (fun q hq h => by have := HGB.out; have h : q = gb := h; omega))
        have HB4 := Lib.hid (HB3.out.only hO4 (by have := HGB.out; omega))
        clear hk4 hO4
        go_wp2_with (fail)
        refine (HCL.out _ HK4.out).mono ?_
        rintro e w5 ⟨rfl, hk5, hO5⟩
        have HK5 := Lib.hid hk5
        have HO5 := Lib.hid (HO4.out.trans' hO5 (S := fun _ => False) (fun q hq h => by have := HGB.out; have h : q = b ∨ q = gb := h; omega))
        have HB5 := Lib.hid (HB4.out.only hO5 (by have := HGB.out; omega))
        clear hk5 hO5
        go_wp2_with (fail)
        refine (HRE.out _ HK5.out).mono ?_
        rintro e w6 ⟨rfl, hk6, hO6⟩
        have HK6 := Lib.hid hk6
        have HO6 := Lib.hid (HO5.out.trans' hO6 (S := fun _ => False) (fun q hq h => by have := HGB.out; have h : q = gb := h; omega))
        have HB6 := Lib.hid (HB5.out.only hO6 (by have := HGB.out; omega))
        clear hk6 hO6
        go_wp2_with (fail)
        obtain ⟨l', hl'⟩ : ∃ l', l.set j { x with w := x.w + 1 } = l' := ⟨_, rfl⟩
        rw [hl'] at HE' HLN' HK6
        have hr0 : i + 1 ≤ 301 := by omega
        clear hl' HER HCL HRE HP
        go_loopw [22, 23, 24, 25, 26] (fun v22 v23 v24 v25 v26 wq => ∃ (q : Nat) (a z : Int), q ≤ k ∧ v24 = .int .i64 q ∧ v22 = .int .i64 a ∧ v23 = .int .i64 z ∧ m' ≤ a ∧ a ≤ 1099511627776 ∧ 0 ≤ z ∧ z ≤ m' + 1 ∧ Only (fun _ => False) w6 wq) (fun _ _ v24 _ _ wq => (k - intOf v24).toNat)
        case atStart => exact ⟨0, _, _, by omega, rfl, rfl, rfl, by have := HMM.out; omega, by omega, by omega, by have := HMM.out; omega, Only.refl _ _⟩
        case round =>
          obtain ⟨q, a, z, hq, rfl, rfl, rfl, ha1, ha2, hz1, hz2, hOq⟩ := hrel
          have HOQ := Lib.hid hOq
          have hbq := (HB6.out.only hOq id).cell 2
          simp only [List.getElem?_toArray, List.getElem?_cons_zero, List.getElem?_cons_succ] at hbq
          rw [HNB.out] at hbq
          clear hOq
          have hmb := HMM.out
          by_cases hqk : q < k
          · have q0 : (0 : Int) ≤ q := by omega
            have q1 : (q : Int) < k := by omega
            have hql : q < l'.length := by rw [HLN'.out]; exact hqk
            have hxw := HE'.out.w _ (List.getElem_mem hql)
            have hgo : gOk l' := fun u hu => by have := HE'.out.g u hu; omega
            have hgt := get_any b off c gb G HG.out l' hgo (-1) q wr (HK6.out.quiet HOQ.out)
            have hv : getV G l' q = lnV G l'[q] ∧ getE l' q = 0 := by
              unfold getV getE
              rw [if_neg (by omega), if_neg (by omega), at'_nat hql]
              exact ⟨rfl, rfl⟩
            rw [hv.1, hv.2] at hgt
            have HGT2 := Lib.hid hgt
            unfold lnV at HGT2
            have w0 := hxw.1
            have w1' := hxw.2
            clear hgt hv hgo hxw
            generalize l'[q] = u at *
            obtain ⟨us, uw, ug⟩ := u
            simp only at HGT2 w0 w1'
            have HBD := Lib.hid (And.intro ha1 (And.intro ha2 (And.intro hz1 (And.intro hz2 (And.intro w0 (And.intro w1' hmb))))))
            clear ha1 ha2 hz1 hz2 w0 w1' hmb
            generalize rm G ug = rr at *
            go_wp2_with (fail)
            refine HGT2.out.mono ?_
            rintro e w7 ⟨rfl, hO7⟩
            have HO7 := Lib.hid (HOQ.out.trans (hO7.alloc (.cells #[.int .i64 us, .int .i64 uw, .int .i64 ug, .int .i64 0, .int .i64 rr] 43)))
            clear hO7 HGT2 hbq
            go_wp2
            go_roundw
            case rel => exact ⟨q + 1, _, _, by omega, by simp, rfl, rfl, by have := HBD.out; omega, by have := HBD.out; omega, by have := HBD.out; omega, by have := HBD.out; omega, HO7.out⟩
            case measure => simp [intOf]; omega
          · obtain rfl : q = k := by omega
            have q1 : decide ((q : Int) < q) = false := by simp
            have d9 : decide (a + 1 < z) = false := decide_eq_false (by omega)
            have a0 : 0 ≤ a := by omega
            clear hz1 hz2 ha1 hmb
            go_wp2
            go_roundw
            case rel => exact ⟨i + 1, l', m', by omega, by simp, HK6.out.quiet HOQ.out, HE'.out, HLN'.out, HMM.out.1, by have := HMM.out.2; omega, HB6.out.only HOQ.out id, HO6.out.trans HOQ.out⟩
            case measure => simp [intOf]; omega
end Go.Proofs.Ytlenjgofiocaaaa
