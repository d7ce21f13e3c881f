/- Sched: SchedReady: the walk. -/
import Derived.Test.YtcbgobgicknhiaaJ
namespace Go.Proofs.Ytcbgobgicknhiaa
open Go.RowKit

structure OneAt (w : World) (b g : Nat) (n : Nat) (p : Int) (ws : List Int) (k : Nat) (wr : World) : Prop where
  s : SAt wr b g 47 ws p
  len : ws.length = n
  bd : bound ws (k : Int)
  only : Only (fun i => w.heap.size ≤ i) w wr

theorem pl_small {ws : List Int} {m pat : Int} (h : bound ws m) (hm : m < pat) (rd : List Bool) (k : Nat) (h0 : 0 < pat := by omega) : plTo ws rd pat k < 0 := by
  induction k with
  | zero => simp [plTo]
  | succ k ih =>
    rw [pl_step_no (.inr (.inl ?_))]
    · exact ih
    · simp only [List.getD]
      rcases hk : ws[k]? with _ | x
      · simp; omega
      · have := h x (List.mem_of_getElem? hk)
        simp; omega

set_option maxRecDepth 100000 in
set_option maxHeartbeats 4000000 in
theorem schedReady_walk (a : Int) (gA cA : Nat) (A : Option Addr) (l : List Opn) (w : World) (hr : Rd w gA A (ov l)) (hok : ∀ o ∈ l, o.Ok w) :
    Calls Try.prog 5 #[.int .i64 a, .slice A l.length cA] w fun e w' => e = .returned (.bool true) ∧ Below w.heap.size w w' := by
  have HR := Lib.hid hr
  have HOK := Lib.hid hok
  clear hr hok
  rcases hb : badN a 1000 with _ | _
  · obtain ⟨h1, h2, -, -⟩ := good_of hb
    obtain ⟨n, rfl⟩ := Int.eq_ofNat_of_zero_le (show 0 ≤ a by omega)
    have HB := Lib.hid hb
    clear hb
    go_enter Try.func5, Try.ntmps5
    go_wp2_with (fail)
    refine (awake_any w).mono ?_
    rintro e w0 ⟨rfl, hO⟩
    have HO := Lib.hid hO
    clear hO
    go_wp2_with (fail)
    refine (new_good n 1000 w0 HB.out).mono ?_
    rintro e w1 ⟨b, g, rfl, hb, hg, hbg, hS, hO⟩
    have HI : Hid (OneAt w b g n 1000 (List.replicate n 0) 0 w1) := ⟨hS, by simp, bound_zero n, (HO.out.trans hO).toOld _⟩
    have HQ : Hid (b ≠ g ∧ w.heap.size ≤ g ∧ w.heap.size ≤ b) := by
      have := HO.out.size
      exact ⟨hbg, by omega, by omega⟩
    clear hS hO HO hb hg hbg
    go_wp2
    go_loopw [8] (fun v wr => ∃ k : Nat, k ≤ l.length ∧ k ≤ 300 ∧ v = .int .i64 k ∧ ∃ ws, OneAt w b g n 1000 ws k wr) (fun v _ => l.length - (intOf v).toNat)
    case atStart => exact ⟨0, by omega, by omega, rfl, _, HI.out⟩
    case round =>
      clear HI
      obtain ⟨k, hk, hk3, rfl, ws, hI⟩ := hrel
      by_cases h1 : k < l.length
      · by_cases h3' : k < 300
        · obtain ⟨off, rfl, hgA, c0, c1⟩ := op_cells HR.out hI.only h1
          have hok := HOK.out _ (List.getElem_mem h1)
          obtain ⟨gr, hgr1, hgr2, hrd⟩ := hok.src g g HQ.out.2.1 HQ.out.2.1
          have hln := hok.len
          generalize l[k] = o at *
          obtain ⟨Ao, co, rd, want⟩ := o
          simp only at c0 c1 hrd hln
          have HI := Lib.hid hI
          have HRd := Lib.hid hrd
          clear hok hrd hI
          go_wp2
          obtain ⟨wo, rfl⟩ : ∃ wo : World, wo = wr := ⟨_, rfl⟩
          go_loopw [10, 11] (fun y v wr => ∃ j : Nat, j ≤ rd.length ∧ j ≤ 100 ∧ v = .int .i64 j ∧ y = .int .i64 (cnt rd j) ∧ wr = wo) (fun _ v _ => rd.length - (intOf v).toNat)
          case atStart => exact ⟨0, by omega, by omega, rfl, rfl, rfl⟩
          case round =>
            obtain ⟨j, hj, hj1, rfl, rfl, rfl⟩ := hrel
            have hcj := cnt_le rd j
            by_cases h5 : j < rd.length
            · by_cases h6 : j < 100
              · have hl2 : (bl rd).length = rd.length := by simp
                obtain ⟨offr, hAo, hgrl, hrc⟩ := HRd.out.at (by intro e; rw [e] at hl2; simp at hl2; omega)
                subst hAo
                have cj := (HI.out.only.cell (p := ⟨gr, offr + j, none⟩) hgrl (by simpa using hgrl)).trans (hrc j (.bool rd[j]) (by simp [h5]))
                clear hrc hl2
                by_cases hr : rd[j] = true
                · have Hs : Hid (cnt rd (j + 1) = cnt rd j + 1) := cnt_yes (by simp [List.getD, h5, hr])
                  rw [hr] at cj
                  clear hr
                  go_wp2
                  go_roundw
                  case rel => exact ⟨j + 1, by omega, by omega, by simp, by rw [Hs.out]; simp, trivial⟩
                  case measure => simp [intOf]; omega
                · have Hs : Hid (cnt rd (j + 1) = cnt rd j) := cnt_no (by simpa [List.getD, h5] using hr)
                  have hr' : rd[j] = false := by simpa using hr
                  rw [hr'] at cj
                  clear hr hr'
                  go_wp2
                  go_roundw
                  case rel => exact ⟨j + 1, by omega, by omega, by simp, by rw [Hs.out], trivial⟩
                  case measure => simp [intOf]; omega
              · have HM : Hid (rd.length = n → cnt rd j = cnt rd rd.length) := fun h => by omega
                have HI' : Hid (SAt wr b g 47 ws 1000) := HI.out.s
                have hwl := HI.out.len
                have Hp := Lib.hid (pick_any b g gr co Ao ws rd 1000 want k wr HI'.out HQ.out.1 (by omega) hgr1 (HRd.out.old HI.out.only (Nat.le_refl _)) hln HI.out.bd (by omega))
                rcases hn : noneP ws rd with _ | _
                · have hn' : rd.length = ws.length ∧ cnt rd rd.length ≠ 0 := by simpa [noneP, not_or] using hn
                  have hrn : rd.length = n := by omega
                  have hm : cnt rd j = cnt rd rd.length := HM.out hrn
                  obtain ⟨who, hw⟩ : ∃ who, IsWho ws rd 1000 want who := ⟨_, whoF_is hn⟩
                  have hpk := pk_who hn hw
                  have hoth := hw.other (pl_small HI.out.bd (by omega) rd rd.length)
                  rw [← hm] at hoth
                  obtain ⟨mm, hmm⟩ : ∃ mm, mm = cnt rd j := ⟨_, rfl⟩
                  rw [← hmm] at hoth ⊢
                  have hm0 : 0 < mm := by omega
                  have hm1 : ¬ mm = 0 := by omega
                  have hmi : (0 : Int) < (mm : Int) := by omega
                  have HW := Lib.hid hw
                  have Hoth := Lib.hid hoth
                  have he : ((rd.length : Int) == (n : Int)) = true := by simp [hrn]
                  have hwn1 : who < n := by have := hw.lt; omega
                  have hwr := hw.lt
                  have hcw := cnt_le rd who
                  have i1 : ¬ ((who : Int) < 0) := by omega
                  have i2 : (who : Int) < (n : Int) := by omega
                  have i3 : (0 : Int) ≤ (who : Int) := by omega
                  have i4 : (who : Int) < (rd.length : Int) := by omega
                  have hdm : decide ((0 : Int) < (mm : Int)) = true := by simpa using hm0
                  have Hpk := Lib.hid hpk
                  have Hrn := Lib.hid hrn
                  clear hn hn' hm hmm hw hoth hpk hm0 HM hrn hwl
                  go_wp2_with (fail)
                  refine Hp.out.mono ?_
                  unfold PkPost
                  rw [Hpk.out]
                  rintro e wx ⟨rfl, hSx, hOx⟩
                  have HI2 : Hid (OneAt w b g n 1000 (stepWN ws rd who) (k + 1) wx) := ⟨hSx, by rw [stepWN_len]; exact HI.out.len, by have := bound_step HI.out.bd (by omega) rd who; simpa using this, HI.out.only.trans' hOx (by rintro i hi rfl; exact HQ.out.2.1)⟩
                  have hl2 : (bl rd).length = rd.length := by simp
                  obtain ⟨offr, hAo, hgrl, hrc⟩ := HRd.out.at (by intro e; rw [e] at hl2; simp at hl2; omega)
                  subst hAo
                  have HRx : Hid (∀ (j : Nat) (u : Value), (bl rd)[j]? = some u → wx.cell? ⟨gr, offr + j, none⟩ = some u) := fun j u hu => (HI2.out.only.cell (p := ⟨gr, offr + j, none⟩) hgrl (by simpa using hgrl)).trans (hrc j u hu)
                  have cw : wx.cell? ⟨gr, offr + who, none⟩ = some (.bool true) := HRx.out who _ (by have := HW.out.ready; simp [List.getD, hwr] at this; simp [hwr, this])
                  have cx : wx.cell? ⟨gA, off + k * 2 + 1, none⟩ = some (.int .i64 want) := (hOx.cell (p := ⟨gA, off + k * 2 + 1, none⟩) (Nat.lt_of_lt_of_le hgA HI.out.only.size) (by (have := HQ.out); intro e; have e' : gA = g := e; omega)).trans c1
                  clear hSx hOx Hp HI HI' hrc hl2 c0 c1 Hpk
                  go_wp2
                  obtain ⟨wq, rfl⟩ : ∃ wq : World, wq = wx := ⟨_, rfl⟩
                  go_loopw [14, 15] (fun y v wr => ∃ i : Nat, i ≤ who ∧ v = .int .i64 i ∧ y = .int .i64 (cnt rd i) ∧ wr = wq) (fun _ v _ => who - (intOf v).toNat)
                  case atStart => exact ⟨0, by omega, rfl, rfl, rfl⟩
                  case round =>
                    obtain ⟨i, hi, rfl, rfl, rfl⟩ := hrel
                    have hci := cnt_le rd i
                    by_cases h5 : i < who
                    · have hir : i < rd.length := by omega
                      have ci := HRx.out i (.bool rd[i]) (by simp [hir])
                      by_cases hr : rd[i] = true
                      · have Hs : Hid (cnt rd (i + 1) = cnt rd i + 1) := cnt_yes (by simp [List.getD, hir, hr])
                        rw [hr] at ci
                        clear hr
                        go_wp2
                        go_roundw
                        case rel => exact ⟨i + 1, by omega, by simp, by rw [Hs.out]; simp, trivial⟩
                        case measure => simp [intOf]; omega
                      · have Hs : Hid (cnt rd (i + 1) = cnt rd i) := cnt_no (by simpa [List.getD, hir] using hr)
                        have hr' : rd[i] = false := by simpa using hr
                        rw [hr'] at ci
                        clear hr hr'
                        go_wp2
                        go_roundw
                        case rel => exact ⟨i + 1, by omega, by simp, by rw [Hs.out], trivial⟩
                        case measure => simp [intOf]; omega
                    · obtain rfl : i = who := by omega
                      by_cases hneg : want < 0
                      · have hz : cnt rd i = 0 := by have := Hoth.out; rw [Int.max_eq_right (by omega)] at this; simp at this; exact this
                        rw [hz]
                        clear hz
                        go_wp2
                        go_roundw
                        case rel => exact ⟨k + 1, by omega, by omega, by simp, _, HI2.out⟩
                        case measure => simp [intOf]; omega
                      · have hz : want % (mm : Int) = (cnt rd i : Int) := by have := Hoth.out; rw [Int.max_eq_left (by omega)] at this; omega
                        have hb : ((cnt rd i : Int) != (cnt rd i : Int)) = false := by simp
                        generalize cnt rd i = q at *
                        go_wp2
                        go_roundw
                        case rel => exact ⟨k + 1, by omega, by omega, by simp, _, HI2.out⟩
                        case measure => simp [intOf]; omega
                · have hpk := pk_none (pat := 1000) (want := want) hn
                  have Hpk := Lib.hid hpk
                  obtain ⟨mm, hmm⟩ : ∃ mm, mm = cnt rd j := ⟨_, rfl⟩
                  rw [← hmm]
                  by_cases hrn : rd.length = n
                  · have hmz : mm = 0 := by
                      have h1 := HM.out hrn
                      have h2 : cnt rd rd.length = 0 := by simpa [noneP, hrn, hwl] using hn
                      omega
                    subst hmz
                    have he : ((rd.length : Int) == (n : Int)) = true := by simp [hrn]
                    clear hn hpk hrn hmm HM hwl
                    go_wp2_with (fail)
                    refine Hp.out.mono ?_
                    unfold PkPost
                    rw [Hpk.out]
                    rintro e wx ⟨rfl, hSx, hOx⟩
                    have HI2 : Hid (OneAt w b g n 1000 ws (k + 1) wx) := ⟨hSx, HI.out.len, fun x hx => by have := HI.out.bd x hx; omega, HI.out.only.trans' hOx (by rintro i hi rfl; exact HQ.out.2.1)⟩
                    clear HI hSx hOx Hp HI'
                    go_wp2
                    go_roundw
                    case rel => exact ⟨k + 1, by omega, by omega, by simp, ws, HI2.out⟩
                    case measure => simp [intOf]; omega
                  · have he : ((rd.length : Int) == (n : Int)) = false := beq_false_of_ne (by omega)
                    clear hn hpk hrn hmm HM hwl
                    go_wp2_with (fail)
                    refine Hp.out.mono ?_
                    unfold PkPost
                    rw [Hpk.out]
                    rintro e wx ⟨rfl, hSx, hOx⟩
                    have HI2 : Hid (OneAt w b g n 1000 ws (k + 1) wx) := ⟨hSx, HI.out.len, fun x hx => by have := HI.out.bd x hx; omega, HI.out.only.trans' hOx (by rintro i hi rfl; exact HQ.out.2.1)⟩
                    clear HI hSx hOx Hp HI'
                    go_wp2
                    go_roundw
                    case rel => exact ⟨k + 1, by omega, by omega, by simp, ws, HI2.out⟩
                    case measure => simp [intOf]; omega
            · have HM : Hid (rd.length = n → cnt rd j = cnt rd rd.length) := fun h => by rw [show j = rd.length by omega]
              have HI' : Hid (SAt wr b g 47 ws 1000) := HI.out.s
              have hwl := HI.out.len
              have Hp := Lib.hid (pick_any b g gr co Ao ws rd 1000 want k wr HI'.out HQ.out.1 (by omega) hgr1 (HRd.out.old HI.out.only (Nat.le_refl _)) hln HI.out.bd (by omega))
              rcases hn : noneP ws rd with _ | _
              · have hn' : rd.length = ws.length ∧ cnt rd rd.length ≠ 0 := by simpa [noneP, not_or] using hn
                have hrn : rd.length = n := by omega
                have hm : cnt rd j = cnt rd rd.length := HM.out hrn
                obtain ⟨who, hw⟩ : ∃ who, IsWho ws rd 1000 want who := ⟨_, whoF_is hn⟩
                have hpk := pk_who hn hw
                have hoth := hw.other (pl_small HI.out.bd (by omega) rd rd.length)
                rw [← hm] at hoth
                obtain ⟨mm, hmm⟩ : ∃ mm, mm = cnt rd j := ⟨_, rfl⟩
                rw [← hmm] at hoth ⊢
                have hm0 : 0 < mm := by omega
                have hm1 : ¬ mm = 0 := by omega
                have hmi : (0 : Int) < (mm : Int) := by omega
                have HW := Lib.hid hw
                have Hoth := Lib.hid hoth
                have he : ((rd.length : Int) == (n : Int)) = true := by simp [hrn]
                have hwn1 : who < n := by have := hw.lt; omega
                have hwr := hw.lt
                have hcw := cnt_le rd who
                have i1 : ¬ ((who : Int) < 0) := by omega
                have i2 : (who : Int) < (n : Int) := by omega
                have i3 : (0 : Int) ≤ (who : Int) := by omega
                have i4 : (who : Int) < (rd.length : Int) := by omega
                have hdm : decide ((0 : Int) < (mm : Int)) = true := by simpa using hm0
                have Hpk := Lib.hid hpk
                have Hrn := Lib.hid hrn
                clear hn hn' hm hmm hw hoth hpk hm0 HM hrn hwl
                go_wp2_with (fail)
                refine Hp.out.mono ?_
                unfold PkPost
                rw [Hpk.out]
                rintro e wx ⟨rfl, hSx, hOx⟩
                have HI2 : Hid (OneAt w b g n 1000 (stepWN ws rd who) (k + 1) wx) := ⟨hSx, by rw [stepWN_len]; exact HI.out.len, by have := bound_step HI.out.bd (by omega) rd who; simpa using this, HI.out.only.trans' hOx (by rintro i hi rfl; exact HQ.out.2.1)⟩
                have hl2 : (bl rd).length = rd.length := by simp
                obtain ⟨offr, hAo, hgrl, hrc⟩ := HRd.out.at (by intro e; rw [e] at hl2; simp at hl2; omega)
                subst hAo
                have HRx : Hid (∀ (j : Nat) (u : Value), (bl rd)[j]? = some u → wx.cell? ⟨gr, offr + j, none⟩ = some u) := fun j u hu => (HI2.out.only.cell (p := ⟨gr, offr + j, none⟩) hgrl (by simpa using hgrl)).trans (hrc j u hu)
                have cw : wx.cell? ⟨gr, offr + who, none⟩ = some (.bool true) := HRx.out who _ (by have := HW.out.ready; simp [List.getD, hwr] at this; simp [hwr, this])
                have cx : wx.cell? ⟨gA, off + k * 2 + 1, none⟩ = some (.int .i64 want) := (hOx.cell (p := ⟨gA, off + k * 2 + 1, none⟩) (Nat.lt_of_lt_of_le hgA HI.out.only.size) (by (have := HQ.out); intro e; have e' : gA = g := e; omega)).trans c1
                clear hSx hOx Hp HI HI' hrc hl2 c0 c1 Hpk
                go_wp2
                obtain ⟨wq, rfl⟩ : ∃ wq : World, wq = wx := ⟨_, rfl⟩
                go_loopw [14, 15] (fun y v wr => ∃ i : Nat, i ≤ who ∧ v = .int .i64 i ∧ y = .int .i64 (cnt rd i) ∧ wr = wq) (fun _ v _ => who - (intOf v).toNat)
                case atStart => exact ⟨0, by omega, rfl, rfl, rfl⟩
                case round =>
                  obtain ⟨i, hi, rfl, rfl, rfl⟩ := hrel
                  have hci := cnt_le rd i
                  by_cases h5 : i < who
                  · have hir : i < rd.length := by omega
                    have ci := HRx.out i (.bool rd[i]) (by simp [hir])
                    by_cases hr : rd[i] = true
                    · have Hs : Hid (cnt rd (i + 1) = cnt rd i + 1) := cnt_yes (by simp [List.getD, hir, hr])
                      rw [hr] at ci
                      clear hr
                      go_wp2
                      go_roundw
                      case rel => exact ⟨i + 1, by omega, by simp, by rw [Hs.out]; simp, trivial⟩
                      case measure => simp [intOf]; omega
                    · have Hs : Hid (cnt rd (i + 1) = cnt rd i) := cnt_no (by simpa [List.getD, hir] using hr)
                      have hr' : rd[i] = false := by simpa using hr
                      rw [hr'] at ci
                      clear hr hr'
                      go_wp2
                      go_roundw
                      case rel => exact ⟨i + 1, by omega, by simp, by rw [Hs.out], trivial⟩
                      case measure => simp [intOf]; omega
                  · obtain rfl : i = who := by omega
                    by_cases hneg : want < 0
                    · have hz : cnt rd i = 0 := by have := Hoth.out; rw [Int.max_eq_right (by omega)] at this; simp at this; exact this
                      rw [hz]
                      clear hz
                      go_wp2
                      go_roundw
                      case rel => exact ⟨k + 1, by omega, by omega, by simp, _, HI2.out⟩
                      case measure => simp [intOf]; omega
                    · have hz : want % (mm : Int) = (cnt rd i : Int) := by have := Hoth.out; rw [Int.max_eq_left (by omega)] at this; omega
                      have hb : ((cnt rd i : Int) != (cnt rd i : Int)) = false := by simp
                      generalize cnt rd i = q at *
                      go_wp2
                      go_roundw
                      case rel => exact ⟨k + 1, by omega, by omega, by simp, _, HI2.out⟩
                      case measure => simp [intOf]; omega
              · have hpk := pk_none (pat := 1000) (want := want) hn
                have Hpk := Lib.hid hpk
                obtain ⟨mm, hmm⟩ : ∃ mm, mm = cnt rd j := ⟨_, rfl⟩
                rw [← hmm]
                by_cases hrn : rd.length = n
                · have hmz : mm = 0 := by
                    have h1 := HM.out hrn
                    have h2 : cnt rd rd.length = 0 := by simpa [noneP, hrn, hwl] using hn
                    omega
                  subst hmz
                  have he : ((rd.length : Int) == (n : Int)) = true := by simp [hrn]
                  clear hn hpk hrn hmm HM hwl
                  go_wp2_with (fail)
                  refine Hp.out.mono ?_
                  unfold PkPost
                  rw [Hpk.out]
                  rintro e wx ⟨rfl, hSx, hOx⟩
                  have HI2 : Hid (OneAt w b g n 1000 ws (k + 1) wx) := ⟨hSx, HI.out.len, fun x hx => by have := HI.out.bd x hx; omega, HI.out.only.trans' hOx (by rintro i hi rfl; exact HQ.out.2.1)⟩
                  clear HI hSx hOx Hp HI'
                  go_wp2
                  go_roundw
                  case rel => exact ⟨k + 1, by omega, by omega, by simp, ws, HI2.out⟩
                  case measure => simp [intOf]; omega
                · have he : ((rd.length : Int) == (n : Int)) = false := beq_false_of_ne (by omega)
                  clear hn hpk hrn hmm HM hwl
                  go_wp2_with (fail)
                  refine Hp.out.mono ?_
                  unfold PkPost
                  rw [Hpk.out]
                  rintro e wx ⟨rfl, hSx, hOx⟩
                  have HI2 : Hid (OneAt w b g n 1000 ws (k + 1) wx) := ⟨hSx, HI.out.len, fun x hx => by have := HI.out.bd x hx; omega, HI.out.only.trans' hOx (by rintro i hi rfl; exact HQ.out.2.1)⟩
                  clear HI hSx hOx Hp HI'
                  go_wp2
                  go_roundw
                  case rel => exact ⟨k + 1, by omega, by omega, by simp, ws, HI2.out⟩
                  case measure => simp [intOf]; omega
        · have HI := Lib.hid hI
          clear hI
          go_wp2
          go_ret
          exact ⟨rfl, HI.out.only.below (Nat.le_refl _) (fun i hi h => by omega)⟩
      · obtain rfl : k = l.length := by omega
        have HI := Lib.hid hI
        clear hI
        go_wp2
        go_ret
        exact ⟨rfl, HI.out.only.below (Nat.le_refl _) (fun i hi h => by omega)⟩
  · have HB := Lib.hid hb
    have hbad := (badN_iff _ _).1 hb
    clear hb
    have hd : (decide (a < 1) || decide (32 < a)) = true := by simp; omega
    clear hbad
    by_cases ha : a < 1
    · go_enter Try.func5, Try.ntmps5
      go_wp2_with (fail)
      refine (awake_any w).mono ?_
      rintro e w0 ⟨rfl, hO⟩
      have HO := Lib.hid hO
      clear hO
      go_wp2_with (fail)
      refine (new_bad a 1000 w0 HB.out).mono ?_
      rintro e w1 ⟨rfl, rfl⟩
      go_wp2
      go_ret
      exact ⟨by simp, HO.out.below (Nat.le_refl _) (fun i hi h => h)⟩
    · have ha2 : 32 < a := by simpa [ha] using hd
      go_enter Try.func5, Try.ntmps5
      go_wp2_with (fail)
      refine (awake_any w).mono ?_
      rintro e w0 ⟨rfl, hO⟩
      have HO := Lib.hid hO
      clear hO
      go_wp2_with (fail)
      refine (new_bad a 1000 w0 HB.out).mono ?_
      rintro e w1 ⟨rfl, rfl⟩
      go_wp2
      go_ret
      exact ⟨by simp, HO.out.below (Nat.le_refl _) (fun i hi h => h)⟩
end Go.Proofs.Ytcbgobgicknhiaa
