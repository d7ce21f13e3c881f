/- Ring: the law RingKeeps, walked. -/
import Derived.Test.YtookghkfghdadaaAB
import Derived.Deep.DeepCutAuto
import Derived.Deep.CutBlock
import Derived.Outline
namespace Go.Proofs.Ytookghkfghdadaa
open Go.RowKit

set_option maxRecDepth 100000 in
set_option maxHeartbeats 16000000 in
theorem ringKeeps_walk (a : Int) (g0 c0 : Nat) (A0 : Option Addr) (ops : List Opr) (w : World) (hr : Rd w g0 A0 (ocs ops)) (hok : ∀ o ∈ ops, o.Ok w) (hlen : ops.length ≤ 9223372036854775807) :
    Calls Try.prog 6 #[.int .i64 a, .slice A0 ops.length c0] w fun e w' => e = .returned (.bool true) ∧ Below w.heap.size w w' := by
  obtain ⟨ti, hi⟩ : ∃ i, Try.prog.info? 37 = some i := ⟨_, rfl⟩
  have hz0 : ti.zero = some (.agg #[.int .i64 0, .int .i64 0, .int .i64 0, .slice none 0 0, .int .i64 0]) := by cases hi; rfl
  have hz1 : ti.size = 5 := by cases hi; rfl
  have hz2 : ti.bytes = 56 := by cases hi; rfl
  have HI := Lib.hid (And.intro hi (And.intro hz0 (And.intro hz1 hz2)))
  obtain ⟨tj, hj⟩ : ∃ i, Try.prog.info? 3 = some i := ⟨_, rfl⟩
  have hy0 : tj.zero = some (.int .i64 0) := by cases hj; rfl
  have hy1 : tj.size = 1 := by cases hj; rfl
  have hy2 : tj.bytes = 8 := by cases hj; rfl
  have HJ := Lib.hid (And.intro hj (And.intro hy0 (And.intro hy1 hy2)))
  clear hi hz0 hz1 hz2 hj hy0 hy1 hy2
  have HR := Lib.hid hr
  have HOK := Lib.hid hok
  clear hr hok
  by_cases hbad : a < 1 ∨ 256 < a
  · have HN := Lib.hid (new_bad a hbad)
    have hbad : a < 1 ∨ (¬ a < 1 ∧ 256 < a) := by omega
    rcases hbad with hbad | ⟨_, hbad⟩
    all_goals
      go_enter Try.func6, Try.ntmps6
      go_wp2_with (fail)
      refine (awake_any _).mono ?_
      rintro e w1 ⟨rfl, hO⟩
      have HO := Lib.hid hO
      clear hO
      go_wp2_with (fail)
      refine (HN.out _).mono ?_
      rintro e w2 ⟨rfl, rfl⟩
      go_wp2
      go_ret
      exact ⟨rfl, HO.out.below (Nat.le_refl _) (fun i hi h => h)⟩
  obtain ⟨size, rfl⟩ : ∃ m : Nat, a = m := ⟨a.toNat, by omega⟩
  have n1 : 1 ≤ size := by omega
  have n2 : size ≤ 256 := by omega
  clear hbad
  have HN := Lib.hid (new_any size n1 n2)
  obtain ⟨n, hn⟩ : ∃ n, ops.length = n := ⟨_, rfl⟩
  have HL := Lib.hid hn
  rw [hn] at hlen ⊢
  clear hn
  go_enter Try.func6, Try.ntmps6
  go_wp2_with (fail)
  refine (awake_any _).mono ?_
  rintro e w1 ⟨rfl, hO⟩
  have HO := Lib.hid hO
  clear hO
  go_wp2_with (fail)
  refine (HN.out _).mono ?_
  rintro e w2 ⟨b, g, rfl, hk, hb, hg, hO⟩
  have hb : w.heap.size ≤ b := by have := HO.out.size; omega
  have hg : w.heap.size ≤ g := by have := HO.out.size; omega
  have HO2 := Lib.hid (HO.out.trans hO)
  have hKM : KM w.heap.size w2 b g 0 0 (List.replicate size RC.zero) [] [] none 0 0 none 0 0 :=
    ⟨hk, .inl ⟨rfl, rfl, rfl, rfl⟩, fun r hr => by simp at hr, .inl ⟨rfl, rfl, rfl, rfl⟩, hb, hg, fun h => absurd rfl h, fun h => absurd rfl h⟩
  have HK2 := Lib.hid hKM
  have HKP : Hid (Kp (List.replicate size RC.zero) size 0 0 ([] : List Sl) []) := Lib.hid ⟨by simp, by omega, rfl, by omega, fun p h1 h2 => by omega, fun p h => by omega, fun p h1 h2 => by omega⟩
  clear hk hO HO HN hKM hb hg
  go_wp2_with (fail)
  go_loopw [8, 9, 10, 11] (fun v8 v9 v10 v11 wr => ∃ (i h t : Nat) (l : List RC) (ps : List PS) (dn : List Int) (A8 A9 : Option Addr) (c8 g8 c9 g9 : Nat),
      i ≤ n ∧ v11 = .int .i64 i ∧ v8 = .slice A8 h c8 ∧ v9 = .slice A9 dn.length c9 ∧ v10 = .int .i64 t ∧ KM w.heap.size wr b g t h l ps dn A8 c8 g8 A9 c9 g9 ∧ Kp l size t h (ps.map PS.x) dn ∧ h ≤ i ∧ dn.length ≤ i ∧ i ≤ 200 ∧ Only (fun _ => False) w wr) (fun _ _ _ v11 wr => (n - intOf v11).toNat)
  case atStart => exact ⟨0, 0, 0, _, [], [], none, none, 0, 0, 0, 0, by omega, rfl, rfl, rfl, rfl, HK2.out, HKP.out, by omega, by simp, by omega, HO2.out⟩
  case round =>
    obtain ⟨i, h, t, l, ps, dn, A8, A9, c8, g8, c9, g9, hi, rfl, rfl, rfl, rfl, hKM, hKP, hhi, hdi, hi2, hO⟩ := hrel
    have HKM := Lib.hid hKM
    have HKP' := Lib.hid hKP
    have HO := Lib.hid hO
    clear hKM hKP hO HK2 HKP HO2
    by_cases hin : i < n
    · have i0 : (0 : Int) ≤ i := by omega
      have i1 : (i : Int) < n := by omega
      by_cases h200 : i < 200
      · have i2 : (i : Int) < 200 := by omega
        obtain ⟨off, rfl, hlt, hop⟩ := op_cells HR.out HO.out (show i < ops.length by rw [HL.out]; exact hin)
        have hokk := HOK.out _ (List.getElem_mem (show i < ops.length by rw [HL.out]; exact hin))
        generalize ops[i]'(by rw [HL.out]; exact hin) = o at *
        obtain ⟨od, on, ola, ox, oA, ocap⟩ := o
        obtain ⟨xk, xl, xs, xf, xd⟩ := ox
        obtain ⟨c0, c1, c2, c3, c4, c5, c6, c7⟩ := hop
        simp only at c0 c1 c2 c3 c4 c5 c6 c7
        have HOKK := Lib.hid hokk
        clear hokk
        by_cases hbig : (1000 : Int) < xd.length
        · go_wp2
          go_ret
          exact ⟨rfl, (HO.out.alloc _).below (Nat.le_refl _) (fun i hi h => h)⟩
        · skip
          have HX := Lib.hid (At.new wr 47 #[.int .i64 od, .int .i64 on, .bool ola, .int .i64 xk, .int .i64 xl, .int .i64 xs, .slice oA xd.length ocap, .int .i64 xf])
          have HOX := Lib.hid (HO.out.alloc (.cells #[.int .i64 od, .int .i64 on, .bool ola, .int .i64 xk, .int .i64 xl, .int .i64 xs, .slice oA xd.length ocap, .int .i64 xf] 47))
          have HKX := Lib.hid (HKM.out.quiet ((Only.refl (fun _ => False) wr).alloc (.cells #[.int .i64 od, .int .i64 on, .bool ola, .int .i64 xk, .int .i64 xl, .int .i64 xs, .slice oA xd.length ocap, .int .i64 xf] 47)))
          have hlts := HKM.out.rg.lts
          have hbx1 : ¬ (wr.heap.size = b ∨ wr.heap.size = g) := by have h1 := hlts.1; have h2 := hlts.2.1; omega
          have hbxw : w.heap.size ≤ wr.heap.size := HO.out.size
          have HBX := Lib.hid hbx1
          have HBB := Lib.hid (And.intro HKM.out.hb HKM.out.hg)
          clear hlts hbx1
          go_upto_block 2 with (fail)
          clear c0 c1 c2 c3 c4 c5 c6 c7
          generalize hwx : wr.alloc (.cells #[.int .i64 od, .int .i64 on, .bool ola, .int .i64 xk, .int .i64 xl, .int .i64 xs, .slice oA xd.length ocap, .int .i64 xf] 47) = wx at *
          generalize hbxx : wr.heap.size = bx at *
          have HWX := Lib.hid hwx
          have HBXX := Lib.hid hbxx
          clear hwx hbxx
          go_cut [8, 9, 13, 14, 15] (fun v8 v9 v13 v14 v15 wy => ∃ (h' t' : Nat) (l' : List RC) (ps' : List PS) (dn' : List Int) (A8' A9' : Option Addr) (c8' g8' c9' g9' : Nat),
              v8 = .slice A8' h' c8' ∧ v9 = .slice A9' dn'.length c9' ∧ KM w.heap.size wy b g t' h' l' ps' dn' A8' c8' g8' A9' c9' g9' ∧ Kp l' size t' h' (ps'.map PS.x) dn' ∧ h' ≤ i + 1 ∧ dn'.length ≤ i + 1 ∧ t ≤ t' ∧ Only (fun _ => False) w wy)
          case first =>
            have x1 := HX.out.cell 1
            have x3 := HX.out.cell 3
            have x4 := HX.out.cell 4
            have x5 := HX.out.cell 5
            have x6 := HX.out.cell 6
            have x7 := HX.out.cell 7
            simp at x1 x3 x4 x5 x6 x7
            by_cases hput : od = 0 ∨ od = 1
            · have hp2 : ((od == 0) = true) ∨ ((od == 0) = false ∧ (od == 1) = true) := by
                rcases hput with h | h
                · exact .inl (by simp [h])
                · exact .inr (by simp [h])
              clear hput
              by_cases hfull : l.length + t - h = 0
              · have HP := Lib.hid (put_full b g t h l (.int .i64 xk) (.int .i64 xl) (.int .i64 xs) (.slice oA xd.length ocap) (.int .i64 xf) wx HKX.out.rg hfull)
                rcases hp2 with t0 | ⟨t0, t1⟩
                all_goals
                  go_wp2_with (fail)
                  refine HP.out.mono ?_
                  rintro e w3 ⟨rfl, hO3⟩
                  have HK3 := Lib.hid (HKX.out.quiet hO3)
                  have HO3 := Lib.hid (HOX.out.trans hO3)
                  clear hO3
                  go_wp2_with (fail)
                  go_meet
                  exact ⟨h, t, l, ps, dn, A8, A9, c8, g8, c9, g9, rfl, rfl, HK3.out, HKP'.out, by omega, by omega, by omega, HO3.out⟩
              · have hxl : xd.length ≤ 1000000 := by omega
                obtain ⟨gr, hgr⟩ := HOKK.out.rd
                simp only at hgr
                have HGR := Lib.hid hgr
                have HP := Lib.hid (put_any b g t h l ⟨xk, xl, xs, xf, xd⟩ oA ocap gr wx HKX.out.rg (by omega) (by omega) (hgr.only HOX.out id) hxl)
                simp only [Sl.val] at HP
                have HPL : Hid (ps.length = h) := Lib.hid (by have := HKP'.out.hd; simpa using this)
                have hwin : h < t + size := by have h1 := HKP'.out.len; omega
                clear hgr
                rcases hp2 with t0 | ⟨t0, t1⟩
                all_goals
                  go_wp2_with (fail)
                  refine HP.out.mono ?_
                  rintro e w3 ⟨r, rfl, hk3, hrx, hrs, _, _, hO3⟩
                  have HKP3 := Lib.hid (HKP'.out.put hwin r hrs)
                  have HK3 := Lib.hid (HKX.out.turn hO3 hk3)
                  have hX3 := HX.out.only hO3 HBX.out
                  have HOq := Lib.hid (HOX.out.trans' hO3 (S := fun _ => False) (fun j hj e => by have h1 := HBB.out; omega))
                  have y3 := hX3.cell 3
                  have y4 := hX3.cell 4
                  have y5 := hX3.cell 5
                  have y6 := hX3.cell 6
                  have y7 := hX3.cell 7
                  simp at y3 y4 y5 y6 y7
                  rw [hrx] at HKP3
                  have HCP := Lib.hid (copy_any ⟨xk, xl, xs, xf, xd⟩ oA ocap gr w3 (HGR.out.only HOq.out id) hxl)
                  have th : ((h : Int) != (h : Int)) = false := by simp
                  clear hX3 hk3 hrx hrs hO3 x1 x3 x4 x5 x6 x7
                  go_wp2_with (fail)
                  refine HCP.out.mono ?_
                  rintro e w4 ⟨A', c', gp, rfl, hr4, hA4, hg4, hO4⟩
                  have HK4 := Lib.hid (HK3.out.quiet hO4)
                  have HO4 := Lib.hid (HOq.out.trans hO4)
                  have HR4 := Lib.hid hr4
                  clear hr4 hO4 HCP
                  simp only [Sl.val]
                  have hsz4 : w.heap.size ≤ w4.heap.size := HO4.out.size
                  have hnw := At.new w4 37 #[.int .i64 xk, .int .i64 xl, .int .i64 xs, .slice A' xd.length c', .int .i64 xf]
                  have HNW := Lib.hid hnw
                  have HK5 := Lib.hid (HK4.out.quiet ((Only.refl (fun _ => False) w4).alloc (.cells #[.int .i64 xk, .int .i64 xl, .int .i64 xs, .slice A' xd.length c', .int .i64 xf] 37)))
                  have HO5 := Lib.hid (HO4.out.alloc (.cells #[.int .i64 xk, .int .i64 xl, .int .i64 xs, .slice A' xd.length c', .int .i64 xf] 37))
                  have HR5 := Lib.hid (HR4.out.only ((Only.refl (fun _ => False) w4).alloc (.cells #[.int .i64 xk, .int .i64 xl, .int .i64 xs, .slice A' xd.length c', .int .i64 xf] 37)) (fun _ => id))
                  have HROW := Lib.hid HK5.out.r8
                  rw [HPL.out] at HROW
                  clear hnw
                  go_wp2_with (at_builtin; go_loud (refine wpList_append_row _ rfl (.tmp 81) (.tmp 85) 45 rfl 37 ti (.agg #[.int .i64 0, .int .i64 0, .int .i64 0, .slice none 0 0, .int .i64 0]) 5 56 Try.underlying45 HI.out.1 HI.out.2.1 HI.out.2.2.1 HI.out.2.2.2 rfl (by decide) A8 h c8 g8 (psc ps) rfl HROW.out ⟨w4.heap.size, 0, none⟩ [.int .i64 xk, .int .i64 xl, .int .i64 xs, .slice A' xd.length c', .int .i64 xf] 1 rfl rfl (HNW.out.reads) (by simp [Value.oneCell']) (by unfold maxLen; omega) (by omega) ?_); intro A6 c6 g6 w6 hrow6 hO6 hA6; have HROW6 := Lib.hid hrow6; have HO6 := Lib.hid hO6; have HA6 := Lib.hid hA6; clear hrow6 hO6 hA6)
                  have hKM6 := HK5.out.app8 (r := ⟨⟨xk, xl, xs, xf, xd⟩, A', c', gp⟩) (A8' := A6) (c8' := c6) (g8' := g6) (by simp; omega) ⟨HR5.out, hxl⟩ HO6.out (by rw [HPL.out]; exact HROW6.out) HA6.out
                  have HK6 := Lib.hid hKM6
                  have hO6' := HO5.out.trans' HO6.out (S := fun _ => False) (fun j hj e => by have := HK5.out.h8 e.1; omega)
                  have HO6' := Lib.hid hO6'
                  clear hKM6 hO6'
                  go_wp2_with (fail)
                  go_meet
                  exact ⟨h + 1, t, _, ps ++ [⟨⟨xk, xl, xs, xf, xd⟩, A', c', gp⟩], dn, A6, A9, c6, g6, c9, g9, rfl, rfl, HK6.out, by rw [List.map_append]; exact HKP3.out, by omega, by omega, by omega, HO6'.out⟩
            · have n0 : (od == 0) = false := beq_false_of_ne (fun e => hput (.inl e))
              have n1' : (od == 1) = false := beq_false_of_ne (fun e => hput (.inr e))
              clear hput
              by_cases h2 : od = 2
              · have t2 : (od == 2) = true := by simp [h2]
                clear h2
                have HT := Lib.hid (take_any b g t h l on wx HKX.out.rg)
                have HKP3 := Lib.hid (HKP'.out.take on.toNat)
                go_wp2_with (fail)
                refine HT.out.mono ?_
                rintro e w3 ⟨A, c, gO, rfl, _, _, hk3, hO3⟩
                have HK3 := Lib.hid (HKX.out.turn (hO3.mono (fun _ _ e => .inr e)) hk3)
                have HO3 := Lib.hid (HOX.out.trans' hO3 (S := fun _ => False) (fun j hj e => by have h1 := HBB.out; omega))
                clear hk3 hO3 HT
                go_wp2_with (fail)
                go_meet
                exact ⟨h, t, _, ps, dn, A8, A9, c8, g8, c9, g9, rfl, rfl, HK3.out, HKP3.out, by omega, by omega, by omega, HO3.out⟩
              have n2' : (od == 2) = false := beq_false_of_ne h2
              clear h2
              by_cases h3 : od = 3
              · have t3 : (od == 3) = true := by simp [h3]
                clear h3
                by_cases hE : turnE l t h on = 0
                · obtain ⟨q, rfl, hq1, hq2, hqs⟩ := turn_zero hE
                  have HD := Lib.hid (done_ok b g t h l q wx HKX.out.rg ⟨hq1, hq2⟩ hqs)
                  have HKP3 := Lib.hid (HKP'.out.done q ⟨hq1, hq2⟩)
                  have hsp := setl_spec _ (setSt l q 2) t h rfl HKP'.out.win.1
                  have HSP := Lib.hid hsp
                  clear hE hqs hsp
                  go_wp2_with (fail)
                  refine HD.out.mono ?_
                  rintro e w3 ⟨rfl, hk3, hO3⟩
                  have HK3 := Lib.hid (HKX.out.turn hO3 hk3)
                  have hX3 := HX.out.only hO3 HBX.out
                  have HO3 := Lib.hid (HOX.out.trans' hO3 (S := fun _ => False) (fun j hj e => by have h1 := HBB.out; omega))
                  have y1 := hX3.cell 1
                  simp at y1
                  have hsz3 : w.heap.size ≤ w3.heap.size := HO3.out.size
                  have HNW := Lib.hid (At.new w3 3 #[.int .i64 (q : Int)])
                  have HK5 := Lib.hid (HK3.out.quiet ((Only.refl (fun _ => False) w3).alloc (.cells #[.int .i64 (q : Int)] 3)))
                  have HO5 := Lib.hid (HO3.out.alloc (.cells #[.int .i64 (q : Int)] 3))
                  have HROW := Lib.hid HK5.out.r9
                  clear hX3 hk3 hO3 HD x1
                  go_wp2_with (at_builtin; go_loud (refine wpList_append_row _ rfl (.tmp 101) (.tmp 104) 32 rfl 3 tj (.int .i64 0) 1 8 Try.underlying32 HJ.out.1 HJ.out.2.1 HJ.out.2.2.1 HJ.out.2.2.2 rfl (by decide) A9 dn.length c9 g9 (iv dn) rfl HROW.out ⟨w3.heap.size, 0, none⟩ [.int .i64 (q : Int)] 1 rfl rfl (HNW.out.reads) (by simp [Value.oneCell']) (by unfold maxLen; omega) (by omega) ?_); intro A6 c6 g6 w6 hrow6 hO6 hA6; have HROW6 := Lib.hid hrow6; have HO6 := Lib.hid hO6; have HA6 := Lib.hid hA6; clear hrow6 hO6 hA6)
                  have hKM6 := HK5.out.app9 (z := (q : Int)) (A9' := A6) (c9' := c6) (g9' := g6) (by simp; omega) HO6.out HROW6.out HA6.out
                  have HK6 := Lib.hid hKM6
                  have hO6' := HO5.out.trans' HO6.out (S := fun _ => False) (fun j hj e => by have := HK5.out.h9 e.1; omega)
                  have HO6' := Lib.hid hO6'
                  clear hKM6 hO6'
                  go_wp2_with (fail)
                  go_meet
                  exact ⟨h, _, _, ps, dn ++ [(q : Int)], A8, A6, c8, g8, c6, g6, rfl, by rw [List.length_append]; rfl, HK6.out, HKP3.out, by omega, by rw [List.length_append]; simp; omega, HSP.out.1, HO6'.out⟩
                · have HD := Lib.hid (done_no b g t h l on wx HKX.out.rg hE)
                  have te : (turnE l t h on == 0) = false := beq_false_of_ne hE
                  generalize turnE l t h on = E at *
                  clear hE
                  go_wp2_with (fail)
                  refine HD.out.mono ?_
                  rintro e w3 ⟨rfl, hO3⟩
                  have HK3 := Lib.hid (HKX.out.quiet hO3)
                  have HO3 := Lib.hid (HOX.out.trans hO3)
                  clear hO3 HD
                  go_wp2_with (fail)
                  go_meet
                  exact ⟨h, t, l, ps, dn, A8, A9, c8, g8, c9, g9, rfl, rfl, HK3.out, HKP'.out, by omega, by omega, by omega, HO3.out⟩
              have n3' : (od == 3) = false := beq_false_of_ne h3
              clear h3
              by_cases h4 : od = 4
              · have t4 : (od == 4) = true := by simp [h4]
                clear h4
                by_cases hE : turnE l t h on = 0
                · obtain ⟨q, rfl, hq1, hq2, hqs⟩ := turn_zero hE
                  have HD := Lib.hid (back_ok b g t h l q wx HKX.out.rg ⟨hq1, hq2⟩ hqs)
                  have HKP3 := Lib.hid (HKP'.out.back q)
                  clear hE hqs
                  go_wp2_with (fail)
                  refine HD.out.mono ?_
                  rintro e w3 ⟨rfl, hk3, hO3⟩
                  have HK3 := Lib.hid (HKX.out.turn hO3 hk3)
                  have HO3 := Lib.hid (HOX.out.trans' hO3 (S := fun _ => False) (fun j hj e => by have h1 := HBB.out; omega))
                  clear hk3 hO3 HD
                  go_wp2_with (fail)
                  go_meet
                  exact ⟨h, t, _, ps, dn, A8, A9, c8, g8, c9, g9, rfl, rfl, HK3.out, HKP3.out, by omega, by omega, by omega, HO3.out⟩
                · have HD := Lib.hid (back_no b g t h l on wx HKX.out.rg hE)
                  generalize turnE l t h on = E at *
                  clear hE
                  go_wp2_with (fail)
                  refine HD.out.mono ?_
                  rintro e w3 ⟨rfl, hO3⟩
                  have HK3 := Lib.hid (HKX.out.quiet hO3)
                  have HO3 := Lib.hid (HOX.out.trans hO3)
                  clear hO3 HD
                  go_wp2_with (fail)
                  go_meet
                  exact ⟨h, t, l, ps, dn, A8, A9, c8, g8, c9, g9, rfl, rfl, HK3.out, HKP'.out, by omega, by omega, by omega, HO3.out⟩
              have n4' : (od == 4) = false := beq_false_of_ne h4
              clear h4
              go_wp2_with (fail)
              go_meet
              exact ⟨h, t, l, ps, dn, A8, A9, c8, g8, c9, g9, rfl, rfl, HKX.out, HKP'.out, by omega, by omega, by omega, HOX.out⟩
          case rest =>
            obtain ⟨h', t', l', ps', dn', A8', A9', c8', g8', c9', g9', rfl, rfl, hKM, hKP, hh, hd, htt, hO⟩ := hcut
            have HKM2 := Lib.hid hKM
            have HKP2 := Lib.hid hKP
            have HO2 := Lib.hid hO
            have hwin := hKP.win
            have hle1 := hKP.len
            have j1 : (t : Int) ≤ t' := by omega
            have j2 : (t' : Int) ≤ h' := by omega
            have q1 : decide (t' < t) = false := by simp; omega
            have q2 : decide (h' < t') = false := by simp; omega
            have HTl := fun W => Lib.hid (fun (k : RgAt W b g t' h' l') => tail_any b g t' h' l' W k)
            have HHd := Lib.hid (head_any b g t' h' l' wc hKM.rg)
            have HFr := Lib.hid (free_any b g t' h' l' wc hKM.rg)
            have HPL : Hid (ps'.length = h') := Lib.hid (by have := hKP.hd; simpa using this)
            have ef : ((l'.length + t' - h' : Nat) : Int) = (size : Int) - h' + t' := by omega
            rw [ef] at HFr
            have tf : (((size : Int) - h' + t') != ((size : Int) - h' + t')) = false := by simp
            have th : ((h' : Int) != (h' : Int)) = false := by simp
            have HT0 := Lib.hid ((HTl wc).out hKM.rg)
            clear hKM hKP hO HKM HKP' HO HX HOX HKX HOKK HWX HBXX HBX ef hle1
            go_wp2_with (fail)
            refine HT0.out.mono ?_
            rintro e w3 ⟨rfl, rfl⟩
            go_wp2_with (fail)
            refine HT0.out.mono ?_
            rintro e w3 ⟨rfl, rfl⟩
            go_wp2_with (fail)
            refine HHd.out.mono ?_
            rintro e w3 ⟨rfl, rfl⟩
            go_wp2_with (fail)
            refine HFr.out.mono ?_
            rintro e w4 ⟨rfl, hO4⟩
            have HKM4 := Lib.hid (HKM2.out.quiet hO4)
            have HO4 := Lib.hid (HO2.out.trans hO4)
            have HT4 := Lib.hid ((HTl w4).out HKM4.out.rg)
            clear hO4 HFr HHd HKM2 HO2 HT0
            go_wp2_with (fail)
            refine HT4.out.mono ?_
            rintro e w5 ⟨rfl, rfl⟩
            go_wp2_with (fail)
            go_loopw [16, 17] (fun v16 v17 wr => ∃ k : Nat, t ≤ k ∧ k ≤ t' ∧ v16 = .int .i64 k ∧ KM w.heap.size wr b g t' h' l' ps' dn' A8' c8' g8' A9' c9' g9' ∧ Only (fun _ => False) w wr) (fun v16 _ wr => (t' - intOf v16).toNat)
            case atStart => exact ⟨t, by omega, by omega, rfl, HKM4.out, HO4.out⟩
            case round =>
              obtain ⟨k, hk1, hk2, rfl, hKM, hO⟩ := hrel
              have HKMk := Lib.hid hKM
              have HOk := Lib.hid hO
              have HTk := Lib.hid ((HTl wr).out hKM.rg)
              clear hKM hO HKM4 HO4 HT4
              by_cases hkt : k < t'
              · have k1 : (k : Int) < t' := by omega
                have HH := Lib.hid (has_any g9' c9' A9' dn' k wr HKMk.out.r9.rd (by omega) (HKP2.out.d1 k hkt))
                go_wp2_with (fail)
                refine HTk.out.mono ?_
                rintro e w6 ⟨rfl, rfl⟩
                go_wp2_with (fail)
                refine HH.out.mono ?_
                rintro e w6 ⟨rfl, rfl⟩
                clear HH HTk
                go_wp2
                go_roundw
                case rel =>
                  exact ⟨k + 1, by omega, by omega, by simp, HKMk.out, HOk.out⟩
                case measure => simp [intOf]; omega
              · obtain rfl : t' = k := by omega
                have k1 : ¬ (t' : Int) < t' := by omega
                go_wp2_with (fail)
                refine HTk.out.mono ?_
                rintro e w6 ⟨rfl, rfl⟩
                go_wp2_with (fail)
                refine HTk.out.mono ?_
                rintro e w6 ⟨rfl, rfl⟩
                obtain ⟨wp, rfl⟩ : ∃ wp : World, wp = wr := ⟨_, rfl⟩
                clear HTk hkt
                go_wp2_with (fail)
                go_loopw [18, 19, 20, 21] (fun v18 v19 v20 v21 wr => ∃ k : Nat, t' ≤ k ∧ k ≤ h' ∧ v18 = .int .i64 k ∧ KM w.heap.size wr b g t' h' l' ps' dn' A8' c8' g8' A9' c9' g9' ∧ Only (fun _ => False) w wr) (fun v18 _ _ _ wr => (h' - intOf v18).toNat)
                case atStart => exact ⟨t', by omega, by omega, rfl, HKMk.out, HOk.out⟩
                case round =>
                  obtain ⟨k, hk1, hk2, rfl, hKM, hO⟩ := hrel
                  have HKMz := Lib.hid hKM
                  have HOz := Lib.hid hO
                  clear hKM hO HKMk HOk
                  by_cases hkh : k < h'
                  · have k0 : (0 : Int) ≤ k := by omega
                    have k1' : (k : Int) < h' := by omega
                    have hkl : k < ps'.length := by rw [HPL.out]; exact hkh
                    have HG := Lib.hid (get_in b g t' h' l' k wr HKMz.out.rg ⟨by omega, hkh⟩)
                    have hsl : slotOf l' k = (ps'[k]).x := by
                      rw [HKP2.out.sl k (by omega) hkh]
                      simp [List.getD, hkl]
                    rw [hsl] at HG
                    have hpc := fun W (o : Only (fun _ => False) wr W) => ps_cells (HKMz.out.quiet o).r8 hkl
                    have hpk := HKMz.out.ok _ (List.getElem_mem hkl)
                    have HPC := Lib.hid hpc
                    have HPK := Lib.hid hpk
                    clear hpc hpk hsl
                    generalize ps'[k] = q at *
                    obtain ⟨⟨yk, yl, ys, yf, yd⟩, pA, pc, pgp⟩ := q
                    simp only at HG HPC
                    have hpk := HPK.out
                    have HPR := Lib.hid hpk.row
                    simp only at HPR
                    clear hpk HPK
                    go_wp2_with (fail)
                    refine HG.out.mono ?_
                    rintro e w6 ⟨A2, c2, gp2, rfl, hr6, _, _, hO6⟩
                    have HR6 := Lib.hid hr6
                    have HO6 := Lib.hid hO6
                    have hX6 := At.new w6 37 #[.int .i64 yk, .int .i64 yl, .int .i64 ys, .slice A2 yd.length c2, .int .i64 yf]
                    have hOz := (Only.refl (fun _ => False) w6).alloc (.cells #[.int .i64 yk, .int .i64 yl, .int .i64 ys, .slice A2 yd.length c2, .int .i64 yf] 37)
                    have HOZ := Lib.hid hOz
                    have HX6 := Lib.hid hX6
                    obtain ⟨off8, h8, d0, d1, d2, d3, d4⟩ := HPC.out _ (hO6.trans hOz)
                    simp only [Sl.val]
                    clear hr6 hO6 hX6 hOz HG HPC
                    go_wp2_with (fail)
                    obtain ⟨wz, hwz⟩ : ∃ wz, w6.alloc (.cells #[.int .i64 yk, .int .i64 yl, .int .i64 ys, .slice A2 yd.length c2, .int .i64 yf] 37) = wz := ⟨_, rfl⟩
                    obtain ⟨bs, hbs⟩ : ∃ bs, w6.heap.size = bs := ⟨_, rfl⟩
                    rw [hwz] at HOZ HX6 d0 d1 d2 d3 d4 ⊢
                    rw [hbs] at HX6 ⊢
                    subst h8
                    have s0 := HX6.out.cell 0
                    have s1 := HX6.out.cell 1
                    have s2 := HX6.out.cell 2
                    have s3 := HX6.out.cell 3
                    have s4 := HX6.out.cell 4
                    simp at s0 s1 s2 s3 s4
                    have hdr := (Only.refl (fun _ => False) wz).drew
                    have HSM := Lib.hid (same_l yk yl yl ys yf yd A2 pA c2 pc gp2 pgp wz.drew ((HR6.out.only (HOZ.out.trans hdr) (fun _ => id)).rd) ((HPR.out.only (HO6.out.trans (HOZ.out.trans hdr)) (fun _ => id)).rd))
                    have tyl : (yl == yl) = true := by simp
                    rw [tyl] at HSM
                    clear hdr tyl hwz hbs
                    refine wp_region_held_drew (S := (fun W => (W.cell? ⟨bs, 0, none⟩ = some (.int .i64 yk) ∧ W.cell? ⟨bs, 1, none⟩ = some (.int .i64 yl) ∧ W.cell? ⟨bs, 2, none⟩ = some (.int .i64 ys) ∧ W.cell? ⟨bs, 3, none⟩ = some (.slice A2 yd.length c2) ∧ W.cell? ⟨bs, 4, none⟩ = some (.int .i64 yf)) ∧ (W.cell? ⟨g8', off8 + k * 5, none⟩ = some (.int .i64 yk) ∧ W.cell? ⟨g8', off8 + k * 5 + 1, none⟩ = some (.int .i64 yl) ∧ W.cell? ⟨g8', off8 + k * 5 + 2, none⟩ = some (.int .i64 ys) ∧ W.cell? ⟨g8', off8 + k * 5 + 3, none⟩ = some (.slice pA yd.length pc) ∧ W.cell? ⟨g8', off8 + k * 5 + 4, none⟩ = some (.int .i64 yf)))) (by kernel_rfl) ?_ (fun hHeld => ?_)
                    · exact ⟨⟨s0, s1, s2, s3, s4⟩, d0, d1, d2, d3, d4⟩
                    refine wpAnyH_take (i := 0) (oi := { dst := some 169, op := Op.load 37 (Operand.tmp 19), type := 37, pos := "law.go:136", after := #[], guard := none }) (v := ?_) rfl (by kernel_rfl) (by kernel_rfl) (by kernel_rfl) (fun _ _ _ h => h) (Or.inl ⟨by rfl, ?_⟩) (by assumption) ?_
                    rotate_left
                    · (intro w hSw; (try dsimp only at hSw); (try obtain ⟨hSa, hSb⟩ := hSw); go_simp; try with_reducible rfl)
                    try simp only [Act.put, List.setIfInBounds_toArray, List.set_cons_zero, List.set_cons_succ]
                    refine wpAnyH_take (i := 1) (oi := { dst := some 170, op := Op.move (Operand.tmp 8), type := 45, pos := "law.go:136", after := #[], guard := none }) (v := ?_) rfl (by kernel_rfl) (by kernel_rfl) (by kernel_rfl) (fun _ _ _ h => h) (Or.inl ⟨by rfl, ?_⟩) (by assumption) ?_
                    rotate_left
                    · (intro w hSw; (try dsimp only at hSw); (try obtain ⟨hSa, hSb⟩ := hSw); go_simp; try with_reducible rfl)
                    try simp only [Act.put, List.setIfInBounds_toArray, List.set_cons_zero, List.set_cons_succ]
                    refine wpAnyH_take (i := 2) (oi := { dst := some 171, op := Op.move (Operand.tmp 18), type := 3, pos := "law.go:136", after := #[], guard := none }) (v := ?_) rfl (by kernel_rfl) (by kernel_rfl) (by kernel_rfl) (fun _ _ _ h => h) (Or.inl ⟨by rfl, ?_⟩) (by assumption) ?_
                    rotate_left
                    · (intro w hSw; (try dsimp only at hSw); (try obtain ⟨hSa, hSb⟩ := hSw); go_simp; try with_reducible rfl)
                    try simp only [Act.put, List.setIfInBounds_toArray, List.set_cons_zero, List.set_cons_succ]
                    refine wpAnyH_take (i := 3) (oi := { dst := some 172, op := Op.indexAddr 45 (Operand.tmp 170) (Operand.tmp 171), type := 0, pos := "law.go:136", after := #[{ on := 1, ground := Ground.data }, { on := 2, ground := Ground.data }], guard := none }) (v := ?_) rfl (by kernel_rfl) (by kernel_rfl) (by kernel_rfl) (fun _ _ _ h => h) (Or.inl ⟨by rfl, ?_⟩) (by assumption) ?_
                    rotate_left
                    · (intro w hSw; (try dsimp only at hSw); (try obtain ⟨hSa, hSb⟩ := hSw); go_simp; try with_reducible rfl)
                    try simp only [Act.put, List.setIfInBounds_toArray, List.set_cons_zero, List.set_cons_succ]
                    refine wpAnyH_take (i := 4) (oi := { dst := some 173, op := Op.load 37 (Operand.tmp 172), type := 37, pos := "law.go:136", after := #[{ on := 3, ground := Ground.data }], guard := none }) (v := ?_) rfl (by kernel_rfl) (by kernel_rfl) (by kernel_rfl) (fun _ _ _ h => h) (Or.inl ⟨by rfl, ?_⟩) (by assumption) ?_
                    rotate_left
                    · (intro w hSw; (try dsimp only at hSw); (try obtain ⟨hSa, hSb⟩ := hSw); go_simp; try with_reducible rfl)
                    try simp only [Act.put, List.setIfInBounds_toArray, List.set_cons_zero, List.set_cons_succ]
                    refine wpAnyH_ready (rs := [5]) (by kernel_rfl) (by simp) ?_
                    refine AllReadyH.cons (o := { dst := some 174, op := Op.call { callee := Callee.value (Operand.func 24), args := #[Operand.tmp 169, Operand.tmp 173], argTypes := #[37, 37] }, type := 4, pos := "law.go:136", after := #[{ on := 0, ground := Ground.data }, { on := 4, ground := Ground.data }], guard := none }) rfl (fun K hK => ?_) AllReadyH.nil
                    go_simp
                    refine HSM.out.mono ?_
                    rintro e wb ⟨rfl, hOb⟩
                    have HOb := Lib.hid (((Only.refl (fun _ => False) wz).drew).trans hOb)
                    clear hOb
                    dsimp only
                    refine hK.out _ _ ?_ (fun hHeld => ?_)
                    · exact ⟨⟨(HOb.out.cell (World.block_lt_of_cell? _ _ s0) id).trans s0, (HOb.out.cell (World.block_lt_of_cell? _ _ s1) id).trans s1, (HOb.out.cell (World.block_lt_of_cell? _ _ s2) id).trans s2, (HOb.out.cell (World.block_lt_of_cell? _ _ s3) id).trans s3, (HOb.out.cell (World.block_lt_of_cell? _ _ s4) id).trans s4⟩, (HOb.out.cell (World.block_lt_of_cell? _ _ d0) id).trans d0, (HOb.out.cell (World.block_lt_of_cell? _ _ d1) id).trans d1, (HOb.out.cell (World.block_lt_of_cell? _ _ d2) id).trans d2, (HOb.out.cell (World.block_lt_of_cell? _ _ d3) id).trans d3, (HOb.out.cell (World.block_lt_of_cell? _ _ d4) id).trans d4⟩
                    clear hK K
                    try simp only [Act.put, List.setIfInBounds_toArray, List.set_cons_zero, List.set_cons_succ]
                    refine wpAnyH_take (i := 6) (oi := { dst := some 21, op := Op.assign (Operand.tmp 174), type := 4, pos := "law.go:136", after := #[{ on := 5, ground := Ground.data }, { on := 5, ground := Ground.chain }, { on := 0, ground := Ground.phase }, { on := 1, ground := Ground.phase }, { on := 2, ground := Ground.phase }, { on := 3, ground := Ground.phase }, { on := 4, ground := Ground.phase }, { on := 5, ground := Ground.phase }], guard := none }) (v := ?_) rfl (by kernel_rfl) (by kernel_rfl) (by kernel_rfl) (fun _ _ _ h => h) (Or.inl ⟨by rfl, ?_⟩) (by assumption) ?_
                    rotate_left
                    · (intro w hSw; (try dsimp only at hSw); (try obtain ⟨hSa, hSb⟩ := hSw); go_simp; try with_reducible rfl)
                    try simp only [Act.put, List.setIfInBounds_toArray, List.set_cons_zero, List.set_cons_succ]
                    refine wpAnyH_done (by kernel_rfl) ?_ _
                    all_goals
                      have HOzz := Lib.hid (HO6.out.trans (HOZ.out.trans HOb.out))
                      clear hHeld
                      go_wp2
                      go_roundw
                      case rel => exact ⟨k + 1, by omega, by omega, by simp, HKMz.out.quiet HOzz.out, HOz.out.trans HOzz.out⟩
                      case measure => simp [intOf]; omega
                  · obtain rfl : k = h' := by omega
                    have k1' : ¬ (k : Int) < k := by omega
                    go_wp2
                    go_roundw
                    case rel => exact ⟨i + 1, k, t', l', ps', dn', A8', A9', c8', g8', c9', g9', by omega, by simp, rfl, rfl, rfl, HKMz.out, HKP2.out, by omega, by omega, by omega, HOz.out⟩
                    case measure => simp [intOf]; omega
      · have i2 : ¬ (i : Int) < 200 := by omega
        have i3 : decide ((i : Int) < 200) = false := by simp; omega
        go_wp2
        go_ret
        exact ⟨rfl, HO.out.below (Nat.le_refl _) (fun i hi h => h)⟩
    · have i1 : ¬ (i : Int) < n := by omega
      have i3 : decide ((i : Int) < n) = false := by simp; omega
      go_wp2
      go_ret
      exact ⟨rfl, HO.out.below (Nat.le_refl _) (fun i hi h => h)⟩
end Go.Proofs.Ytookghkfghdadaa
