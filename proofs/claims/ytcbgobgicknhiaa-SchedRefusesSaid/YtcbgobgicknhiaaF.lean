/- Sched: the reference's Pick. -/
import Derived.Test.YtcbgobgicknhiaaE
namespace Go.Proofs.Ytcbgobgicknhiaa
open Go.RowKit

def iv (l : List Int) : List Value := l.map (Value.int .i64)
theorem iv_len (l : List Int) : (iv l).length = l.length := by simp [iv]

set_option maxRecDepth 100000 in
set_option maxHeartbeats 4000000 in
theorem refPick_some (b g gr off c : Nat) (ws : List Int) (rd : List Bool) (pat want m : Int) (w : World) (h : SAt w b g 49 ws pat) (hbg : b ≠ g) (hlen : ws.length ≤ 1000)
    (hgr : gr < w.heap.size) (hgg : gr ≠ g) (hrd : ∀ (j : Nat) (u : Value), (bl rd)[j]? = some u → w.cell? ⟨gr, off + j, none⟩ = some u) (hn : noneP ws rd = false) (hm : bound ws m) (hm' : m ≤ 1000000000) (hp1 : 1 ≤ pat) (hp2 : pat ≤ 1000) :
    Calls Try.prog 14 #[.pointer (some ⟨b, 0, none⟩), .slice (some ⟨gr, off, none⟩) rd.length c, .int .i64 want] w (PickPost b g 49 ws rd pat want w) := by
  have HRd := Lib.hid hrd
  have HS := Lib.hid h
  have hn' : rd.length = ws.length ∧ cnt rd rd.length ≠ 0 := by simpa [noneP, not_or] using hn
  have HN := Lib.hid hn'
  have HB := Lib.hid hm
  have hlen' : rd.length ≤ 1000 := by omega
  have hl' : ((rd.length : Int) == (ws.length : Int)) = true := by simp [hn'.1]
  obtain ⟨i0, hi0, hz0, hz1, hz2⟩ := info_parts Try.info3
  clear hrd h hn hn' hm
  go_enter Try.func14, Try.ntmps14
  go_wp2
  go_loopw [8, 9] (fun m v wr => ∃ k : Nat, k ≤ rd.length ∧ v = .int .i64 k ∧ (∃ A c, m = .slice A (cnt rd k) c ∧ wr.ownsRow w.heap.size 3 1 (.slice A (cnt rd k) c) (cnt rd k) (iv (rl rd k))) ∧ Only (fun _ => False) w wr) (fun _ v _ => rd.length - (intOf v).toNat)
  case atStart => exact ⟨0, by omega, rfl, ⟨none, 0, rfl, rfl, .inl ⟨rfl, rfl⟩⟩, Only.refl _ _⟩
  case round =>
    obtain ⟨k, hk, rfl, ⟨A, cA, rfl, hown⟩, hO⟩ := hrel
    have hcl := cnt_le rd k
    have cs := (HS.out.only hO id id).st.cell 0
    simp at cs
    by_cases h1 : k < rd.length
    · have c0 : wr.cell? ⟨gr, off + k, none⟩ = some (.bool rd[k]) := (hO.cell (p := ⟨gr, off + k, none⟩) hgr id).trans (HRd.out k (.bool rd[k]) (by simp [h1]))
      by_cases hr : rd[k] = true
      · have hyes : rd.getD k false = true := by simp [List.getD, h1, hr]
        have Hs : Hid (cnt rd (k + 1) = cnt rd k + 1 ∧ rl rd (k + 1) = rl rd k ++ [(k : Int)]) := ⟨cnt_yes hyes, rl_yes hyes⟩
        rw [hr] at c0
        clear hr hyes
        have HO := Lib.hid hO
        have hown' := hown.alloc (.cells #[.int .i64 k] 3)
        have HOwn := Lib.hid hown
        have hrn : Rd (wr.alloc (.cells #[.int .i64 k] 3)) wr.heap.size (some ⟨wr.heap.size, 0, none⟩) [.int .i64 k] := .inr ⟨0, rfl, by simp, fun j u hu => by
          have q := (At.new wr 3 #[.int .i64 k]).cell (0 + j)
          rw [q]
          rcases j with _ | j
          · simpa using hu
          · simp at hu⟩
        have hsz : w.heap.size ≤ (wr.alloc (.cells #[.int .i64 k] 3)).heap.size := Nat.le_trans hO.size (by simp)
        clear hO hown
        generalize hcn : cnt rd k = n at *
        have hcnk : n ≤ 1000 := by omega
        go_wp2_with (at_builtin; go_loud (refine wpList_append_src _ rfl (.tmp 34) (.tmp 36) 43 rfl w.heap.size 3 i0 (.int .i64 0) 1 8 Try.underlying43 hi0 hz0 hz1 hz2 rfl (by decide) (.slice A n cA) n (iv (rl rd k)) rfl hown' wr.heap.size (some ⟨wr.heap.size, 0, none⟩) 1 1 [.int .i64 k] rfl (by simp) hrn (by simp [Value.oneCell']) (by unfold maxLen; omega) (by omega) hsz ?_); intro A1 c1 w1 hc1 hown1 hgrow1 hat1)
        have HR : Hid (w1.ownsRow w.heap.size 3 1 (.slice A1 (n + 1) c1) (n + 1) (iv (rl rd (k + 1)))) := by
          rw [Hs.out.2]
          have e : iv (rl rd k ++ [(k : Int)]) = iv (rl rd k) ++ [.int .i64 k] := by simp [iv]
          rw [e]; exact hown1
        have HO1 : Hid (Only (fun _ => False) w w1) := (HO.out.alloc _).grown hgrow1 (by intro i hi e; have := ownsRow_block HOwn.out e; omega)
        clear hown1 hgrow1 hat1 hown' hrn
        go_wp2
        go_roundw
        case rel => exact ⟨k + 1, by omega, by simp, ⟨A1, c1, by rw [Hs.out.1], by rw [Hs.out.1]; exact HR.out⟩, HO1.out⟩
        case measure => simp [intOf]; omega
      · have hno : rd.getD k false = false := by simpa [List.getD, h1] using hr
        have Hs : Hid (cnt rd (k + 1) = cnt rd k ∧ rl rd (k + 1) = rl rd k) := ⟨cnt_no hno, rl_no hno⟩
        have hr' : rd[k] = false := by simpa using hr
        rw [hr'] at c0
        clear hr hr' hno
        have HO := Lib.hid hO
        have HOwn := Lib.hid hown
        clear hO hown
        go_wp2
        go_roundw
        case rel => exact ⟨k + 1, by omega, by simp, ⟨A, cA, by rw [Hs.out.1], by rw [Hs.out.1, Hs.out.2]; exact HOwn.out⟩, HO.out⟩
        case measure => simp [intOf]; omega
    · obtain rfl : k = rd.length := by omega
      have hz : ((cnt rd rd.length : Int) == 0) = false := by simpa using HN.out.2
      obtain ⟨gl, hA, hgb, hgl, hHL⟩ := ownsRow_at hown (Nat.pos_of_ne_zero HN.out.2)
      subst hA
      obtain ⟨q, hq⟩ : ∃ q, q = cnt rd rd.length := ⟨_, rfl⟩
      have HQ := Lib.hid hq
      have HC : Hid (q ≤ rd.length ∧ 0 < q) := by have := HN.out.2; exact ⟨by omega, by omega⟩
      rw [← hq] at hz ⊢
      have hqp : (0 : Int) < q := by have := HC.out; omega
      have hq0 : ¬ q = 0 := by omega
      have hq1000 : q ≤ 1000 := by have := HC.out; omega
      have HHL : Hid (∀ (j : Nat) (u : Value), (iv (rl rd rd.length))[j]? = some u → wr.cell? ⟨gl, j, none⟩ = some u) := hHL
      have HOw := Lib.hid hO
      have HS1 : Hid (SAt wr b g 49 ws pat) := HS.out.only hO id id
      have HRd1 : Hid (∀ (j : Nat) (u : Value), (bl rd)[j]? = some u → wr.cell? ⟨gr, off + j, none⟩ = some u) := fun j u hu => (hO.cell (p := ⟨gr, off + j, none⟩) hgr id).trans (HRd.out j u hu)
      have c1 := HS1.out.st.cell 1
      simp at c1
      clear hq h1 hk hcl hown hO hHL HRd HS
      by_cases hwn : want < 0
      · have hJ : ((0 : Nat) : Int) = max want 0 % (q : Int) := by rw [Int.max_eq_right (by omega)]; simp
        obtain ⟨p, hpn, hpr, hpc, hpl⟩ := rl_at (rd := rd) (n := rd.length) (i := 0) (by have := HQ.out; omega)
        have cp : wr.cell? ⟨gl, 0, none⟩ = some (.int .i64 p) := HHL.out 0 _ (by simp [iv, hpl])
        have HJ : Hid ((cnt rd p : Int) = max want 0 % (q : Int)) := Lib.hid (by rw [← hJ, hpc])
        have HPR := Lib.hid hpr
        clear hpr hpc hpl hJ
        go_wp2
        obtain ⟨w3, hw3⟩ : ∃ w3, w3 = wr := ⟨_, rfl⟩
        rw [← hw3]
        have HG : Hid (((p : Int), pat - 1) = ((gfold ws ((rl rd rd.length).take 0) (pat - 1) p).2, (gfold ws ((rl rd rd.length).take 0) (pat - 1) p).1)) := rfl
        rw [← hw3] at HHL HOw HS1 HRd1 hgl
        have HW3 : Hid (w.heap.size ≤ w3.heap.size) := HOw.out.size
        clear hw3 cp cs c1
        go_loopw [10, 11, 12] (fun x y v wr => ∃ i : Nat, i ≤ q ∧ v = .int .i64 i ∧ x = .int .i64 (gfold ws ((rl rd rd.length).take i) (pat - 1) p).2 ∧ y = .int .i64 (gfold ws ((rl rd rd.length).take i) (pat - 1) p).1 ∧ Only (fun _ => False) w3 wr) (fun _ _ v _ => q - (intOf v).toNat)
        case atStart => exact ⟨0, by omega, rfl, rfl, rfl, Only.refl _ _⟩
        case round =>
          obtain ⟨i, hi, rfl, rfl, rfl, hO⟩ := hrel
          by_cases h1 : i < q
          · obtain ⟨j, hj, hjr, hjc, hjl⟩ := rl_at (rd := rd) (n := rd.length) (i := i) (by have := HQ.out; omega)
            have hll := rl_len rd rd.length
            have hil : i < (rl rd rd.length).length := by have := HQ.out; omega
            have hget : (rl rd rd.length)[i] = (j : Int) := by rw [List.getElem?_eq_getElem hil] at hjl; simpa using hjl
            have hstep := gfold_take (ws := ws) (most := pat - 1) (who := (p : Int)) hil
            rw [hget] at hstep
            have hjw : j < ws.length := by have := HN.out.1; omega
            have cg : wr.cell? ⟨gl, i, none⟩ = some (.int .i64 j) := (hO.cell (p := ⟨gl, i, none⟩) hgl id).trans (HHL.out i _ (by simp [iv, hjl]))
            have hS := HS1.out.only hO id id
            have cw := waits_at hS.row hjw
            have c3 := hS.st.cell 0
            simp at c3
            have HO' := Lib.hid hO
            have Hs : Hid (gfold ws ((rl rd rd.length).take (i + 1)) (pat - 1) p = if (gfold ws ((rl rd rd.length).take i) (pat - 1) p).1 < ws[j] then (ws[j], (j : Int)) else gfold ws ((rl rd rd.length).take i) (pat - 1) p) := Lib.hid (by
              rw [hstep]; simp only [gstep, Int.toNat_natCast, List.getD, List.getElem?_eq_getElem hjw, Option.getD_some])
            have j1 : (0 : Int) ≤ (i : Int) := by omega
            have j2 : (i : Int) < (q : Int) := by omega
            have j3 : (0 : Int) ≤ (j : Int) := by omega
            have j4 : (j : Int) < (ws.length : Int) := by omega
            clear hO hS hstep hget hil hll hjl hjc hjr hj
            generalize gfold ws ((rl rd rd.length).take i) (pat - 1) p = G at *
            generalize ws[j] = x at *
            obtain ⟨y, z⟩ := G
            by_cases hlt : y < x
            · have hd : decide (y < x) = true := by simpa using hlt
              have Hs' : Hid (gfold ws ((rl rd rd.length).take (i + 1)) (pat - 1) p = (x, (j : Int))) := by rw [Hs.out]; exact if_pos hlt
              clear hlt Hs
              go_wp2_with (fail)
              go_region
              go_wp2
              go_region
              go_wp2
              go_roundw
              case rel => exact ⟨i + 1, by omega, by simp, by rw [Hs'.out], by rw [Hs'.out], (HO'.out.drewN _).drewN _⟩
              case measure => simp [intOf]; omega
            · have hd : decide (y < x) = false := by simpa using hlt
              have Hs' : Hid (gfold ws ((rl rd rd.length).take (i + 1)) (pat - 1) p = (y, z)) := by rw [Hs.out]; exact if_neg hlt
              clear hlt Hs
              go_wp2_with (fail)
              go_region
              go_wp2
              go_roundw
              case rel => exact ⟨i + 1, by omega, by simp, by rw [Hs'.out], by rw [Hs'.out], HO'.out.drewN _⟩
              case measure => simp [intOf]; omega
          · obtain rfl : i = q := by omega
            have hfin : gfold ws ((rl rd rd.length).take i) (pat - 1) p = gfold ws (rl rd rd.length) (pat - 1) p := by rw [List.take_of_length_le (by rw [rl_len]; have := HQ.out; omega)]
            obtain ⟨who, hwho, hW⟩ := isWho_of_fold (ws := ws) (pat := pat) (want := want) hpn HPR.out (by have h1 := HJ.out; have h2 := HQ.out; rw [← h2]; exact h1)
            rw [hfin, hwho]
            have HW := Lib.hid hW
            generalize (gfold ws (rl rd rd.length) (pat - 1) p).1 = y at *
            obtain ⟨w4, hw4⟩ : ∃ w4, w4 = wr := ⟨_, rfl⟩
            rw [← hw4]
            have HS4 : Hid (SAt w4 b g 49 ws pat) := by rw [hw4]; exact HS1.out.only hO id id
            have HRd4 : Hid (∀ (j : Nat) (u : Value), (bl rd)[j]? = some u → w4.cell? ⟨gr, off + j, none⟩ = some u) := by
              rw [hw4]; exact fun j u hu => (hO.cell (p := ⟨gr, off + j, none⟩) (Nat.lt_of_lt_of_le hgr HW3.out) id).trans (HRd1.out j u hu)
            have HO : Hid (Only (fun _ => False) w w4) := by rw [hw4]; exact HOw.out.trans hO
            clear hw4 hO hfin hwho hW h1 HG HHL HOw HS1 HRd1
            go_wp2
            go_loopw [13] (fun v wr => ∃ k : Nat, k ≤ rd.length ∧ v = .int .i64 k ∧ UpInv w4 b g 49 ws rd pat who k wr) (fun v _ => rd.length - (intOf v).toNat)
            case atStart => exact ⟨0, by omega, rfl, ⟨by rw [stepTo_zero]; exact HS4.out, Only.refl _ _⟩⟩
            case round =>
              obtain ⟨k, hk, rfl, hI⟩ := hrel
              by_cases h1 : k < rd.length
              · have hkw : k < ws.length := by have := HN.out.1; omega
                have hst := stepTo_len ws rd who k
                have c0 : wr.cell? ⟨gr, off + k, none⟩ = some (.bool rd[k]) := (hI.only.cell (p := ⟨gr, off + k, none⟩) (Nat.lt_of_lt_of_le hgr HO.out.size) hgg).trans (HRd4.out k (.bool rd[k]) (by simp [h1]))
                have c3 := hI.at_.st.cell 0
                have c5 := waits_at hI.at_.row (by omega : k < (stepTo ws rd who k).length)
                rw [stepTo_at hkw] at c5
                have f5 := hI.at_.row.frozen k
                simp [hst] at c3
                have hbd := HB.out _ (List.getElem_mem hkw)
                have j1 : (0 : Int) ≤ (k : Int) := by omega
                have j2 : (k : Int) < (ws.length : Int) := by omega
                have HI := Lib.hid hI
                clear hI hst
                by_cases hw : k = who
                · have Hs := Lib.hid (HI.out.zero hbg hkw (.inl hw))
                  have hd : decide ((k : Int) = (who : Int)) = true := by simp [hw]
                  have hd' : ((k : Int) == (who : Int)) = true := by simp [hw]
                  clear HI hw
                  generalize ws[k] = x at *
                  generalize rd[k] = is at *
                  go_wp2
                  go_roundw
                  case rel => exact ⟨k + 1, by omega, by simp, Hs.out _⟩
                  case measure => simp [intOf]; omega
                · have hd' : ((k : Int) == (who : Int)) = false := beq_false_of_ne (by omega)
                  by_cases hr : rd[k] = true
                  · have Hs := Lib.hid (HI.out.more hbg hkw (not_or.2 ⟨hw, by simp [List.getD, h1, hr]⟩))
                    rw [hr] at c0
                    clear hr HI hw
                    generalize ws[k] = x at *
                    go_wp2
                    go_roundw
                    case rel => exact ⟨k + 1, by omega, by simp, Hs.out⟩
                    case measure => simp [intOf]; omega
                  · have Hs := Lib.hid (HI.out.zero hbg hkw (.inr (by simpa [List.getD, h1] using hr)))
                    have hr' : rd[k] = false := by simpa using hr
                    rw [hr'] at c0
                    clear hr hr' HI hw
                    generalize ws[k] = x at *
                    go_wp2
                    go_roundw
                    case rel => exact ⟨k + 1, by omega, by simp, Hs.out _⟩
                    case measure => simp [intOf]; omega
              · obtain rfl : k = rd.length := by omega
                have HI := Lib.hid hI
                clear hI
                go_wp2
                go_ret2
                refine ⟨who, rfl, HW.out, ?_, (HO.out.mono fun i _ h => h.elim).trans HI.out.only⟩
                have := HI.out.at_
                rw [HN.out.1] at this
                exact this
      · obtain ⟨L, hL⟩ := Int.eq_ofNat_of_zero_le (Int.emod_nonneg want (show (q : Int) ≠ 0 by omega))
        have hJ : (L : Int) = max want 0 % (q : Int) := by rw [Int.max_eq_left (by omega), hL]
        have hLq : L < q := by have := Int.emod_lt_of_pos want hqp; omega
        obtain ⟨p, hpn, hpr, hpc, hpl⟩ := rl_at (rd := rd) (n := rd.length) (i := L) (by have := HQ.out; omega)
        have cp : wr.cell? ⟨gl, L, none⟩ = some (.int .i64 p) := HHL.out L _ (by simp [iv, hpl])
        have HJ : Hid ((cnt rd p : Int) = max want 0 % (q : Int)) := Lib.hid (by rw [← hJ, hpc])
        have HPR := Lib.hid hpr
        have j1 : (0 : Int) ≤ (L : Int) := by omega
        have j2 : (L : Int) < (q : Int) := by omega
        clear hpr hpc hpl hJ
        go_wp2
        obtain ⟨w3, hw3⟩ : ∃ w3, w3 = wr := ⟨_, rfl⟩
        rw [← hw3]
        have HG : Hid (((p : Int), pat - 1) = ((gfold ws ((rl rd rd.length).take 0) (pat - 1) p).2, (gfold ws ((rl rd rd.length).take 0) (pat - 1) p).1)) := rfl
        rw [← hw3] at HHL HOw HS1 HRd1 hgl
        have HW3 : Hid (w.heap.size ≤ w3.heap.size) := HOw.out.size
        clear hw3 cp cs c1
        go_loopw [10, 11, 12] (fun x y v wr => ∃ i : Nat, i ≤ q ∧ v = .int .i64 i ∧ x = .int .i64 (gfold ws ((rl rd rd.length).take i) (pat - 1) p).2 ∧ y = .int .i64 (gfold ws ((rl rd rd.length).take i) (pat - 1) p).1 ∧ Only (fun _ => False) w3 wr) (fun _ _ v _ => q - (intOf v).toNat)
        case atStart => exact ⟨0, by omega, rfl, rfl, rfl, Only.refl _ _⟩
        case round =>
          obtain ⟨i, hi, rfl, rfl, rfl, hO⟩ := hrel
          by_cases h1 : i < q
          · obtain ⟨j, hj, hjr, hjc, hjl⟩ := rl_at (rd := rd) (n := rd.length) (i := i) (by have := HQ.out; omega)
            have hll := rl_len rd rd.length
            have hil : i < (rl rd rd.length).length := by have := HQ.out; omega
            have hget : (rl rd rd.length)[i] = (j : Int) := by rw [List.getElem?_eq_getElem hil] at hjl; simpa using hjl
            have hstep := gfold_take (ws := ws) (most := pat - 1) (who := (p : Int)) hil
            rw [hget] at hstep
            have hjw : j < ws.length := by have := HN.out.1; omega
            have cg : wr.cell? ⟨gl, i, none⟩ = some (.int .i64 j) := (hO.cell (p := ⟨gl, i, none⟩) hgl id).trans (HHL.out i _ (by simp [iv, hjl]))
            have hS := HS1.out.only hO id id
            have cw := waits_at hS.row hjw
            have c3 := hS.st.cell 0
            simp at c3
            have HO' := Lib.hid hO
            have Hs : Hid (gfold ws ((rl rd rd.length).take (i + 1)) (pat - 1) p = if (gfold ws ((rl rd rd.length).take i) (pat - 1) p).1 < ws[j] then (ws[j], (j : Int)) else gfold ws ((rl rd rd.length).take i) (pat - 1) p) := Lib.hid (by
              rw [hstep]; simp only [gstep, Int.toNat_natCast, List.getD, List.getElem?_eq_getElem hjw, Option.getD_some])
            have j1 : (0 : Int) ≤ (i : Int) := by omega
            have j2 : (i : Int) < (q : Int) := by omega
            have j3 : (0 : Int) ≤ (j : Int) := by omega
            have j4 : (j : Int) < (ws.length : Int) := by omega
            clear hO hS hstep hget hil hll hjl hjc hjr hj
            generalize gfold ws ((rl rd rd.length).take i) (pat - 1) p = G at *
            generalize ws[j] = x at *
            obtain ⟨y, z⟩ := G
            by_cases hlt : y < x
            · have hd : decide (y < x) = true := by simpa using hlt
              have Hs' : Hid (gfold ws ((rl rd rd.length).take (i + 1)) (pat - 1) p = (x, (j : Int))) := by rw [Hs.out]; exact if_pos hlt
              clear hlt Hs
              go_wp2_with (fail)
              go_region
              go_wp2
              go_region
              go_wp2
              go_roundw
              case rel => exact ⟨i + 1, by omega, by simp, by rw [Hs'.out], by rw [Hs'.out], (HO'.out.drewN _).drewN _⟩
              case measure => simp [intOf]; omega
            · have hd : decide (y < x) = false := by simpa using hlt
              have Hs' : Hid (gfold ws ((rl rd rd.length).take (i + 1)) (pat - 1) p = (y, z)) := by rw [Hs.out]; exact if_neg hlt
              clear hlt Hs
              go_wp2_with (fail)
              go_region
              go_wp2
              go_roundw
              case rel => exact ⟨i + 1, by omega, by simp, by rw [Hs'.out], by rw [Hs'.out], HO'.out.drewN _⟩
              case measure => simp [intOf]; omega
          · obtain rfl : i = q := by omega
            have hfin : gfold ws ((rl rd rd.length).take i) (pat - 1) p = gfold ws (rl rd rd.length) (pat - 1) p := by rw [List.take_of_length_le (by rw [rl_len]; have := HQ.out; omega)]
            obtain ⟨who, hwho, hW⟩ := isWho_of_fold (ws := ws) (pat := pat) (want := want) hpn HPR.out (by have h1 := HJ.out; have h2 := HQ.out; rw [← h2]; exact h1)
            rw [hfin, hwho]
            have HW := Lib.hid hW
            generalize (gfold ws (rl rd rd.length) (pat - 1) p).1 = y at *
            obtain ⟨w4, hw4⟩ : ∃ w4, w4 = wr := ⟨_, rfl⟩
            rw [← hw4]
            have HS4 : Hid (SAt w4 b g 49 ws pat) := by rw [hw4]; exact HS1.out.only hO id id
            have HRd4 : Hid (∀ (j : Nat) (u : Value), (bl rd)[j]? = some u → w4.cell? ⟨gr, off + j, none⟩ = some u) := by
              rw [hw4]; exact fun j u hu => (hO.cell (p := ⟨gr, off + j, none⟩) (Nat.lt_of_lt_of_le hgr HW3.out) id).trans (HRd1.out j u hu)
            have HO : Hid (Only (fun _ => False) w w4) := by rw [hw4]; exact HOw.out.trans hO
            clear hw4 hO hfin hwho hW h1 HG HHL HOw HS1 HRd1
            go_wp2
            go_loopw [13] (fun v wr => ∃ k : Nat, k ≤ rd.length ∧ v = .int .i64 k ∧ UpInv w4 b g 49 ws rd pat who k wr) (fun v _ => rd.length - (intOf v).toNat)
            case atStart => exact ⟨0, by omega, rfl, ⟨by rw [stepTo_zero]; exact HS4.out, Only.refl _ _⟩⟩
            case round =>
              obtain ⟨k, hk, rfl, hI⟩ := hrel
              by_cases h1 : k < rd.length
              · have hkw : k < ws.length := by have := HN.out.1; omega
                have hst := stepTo_len ws rd who k
                have c0 : wr.cell? ⟨gr, off + k, none⟩ = some (.bool rd[k]) := (hI.only.cell (p := ⟨gr, off + k, none⟩) (Nat.lt_of_lt_of_le hgr HO.out.size) hgg).trans (HRd4.out k (.bool rd[k]) (by simp [h1]))
                have c3 := hI.at_.st.cell 0
                have c5 := waits_at hI.at_.row (by omega : k < (stepTo ws rd who k).length)
                rw [stepTo_at hkw] at c5
                have f5 := hI.at_.row.frozen k
                simp [hst] at c3
                have hbd := HB.out _ (List.getElem_mem hkw)
                have j1 : (0 : Int) ≤ (k : Int) := by omega
                have j2 : (k : Int) < (ws.length : Int) := by omega
                have HI := Lib.hid hI
                clear hI hst
                by_cases hw : k = who
                · have Hs := Lib.hid (HI.out.zero hbg hkw (.inl hw))
                  have hd : decide ((k : Int) = (who : Int)) = true := by simp [hw]
                  have hd' : ((k : Int) == (who : Int)) = true := by simp [hw]
                  clear HI hw
                  generalize ws[k] = x at *
                  generalize rd[k] = is at *
                  go_wp2
                  go_roundw
                  case rel => exact ⟨k + 1, by omega, by simp, Hs.out _⟩
                  case measure => simp [intOf]; omega
                · have hd' : ((k : Int) == (who : Int)) = false := beq_false_of_ne (by omega)
                  by_cases hr : rd[k] = true
                  · have Hs := Lib.hid (HI.out.more hbg hkw (not_or.2 ⟨hw, by simp [List.getD, h1, hr]⟩))
                    rw [hr] at c0
                    clear hr HI hw
                    generalize ws[k] = x at *
                    go_wp2
                    go_roundw
                    case rel => exact ⟨k + 1, by omega, by simp, Hs.out⟩
                    case measure => simp [intOf]; omega
                  · have Hs := Lib.hid (HI.out.zero hbg hkw (.inr (by simpa [List.getD, h1] using hr)))
                    have hr' : rd[k] = false := by simpa using hr
                    rw [hr'] at c0
                    clear hr hr' HI hw
                    generalize ws[k] = x at *
                    go_wp2
                    go_roundw
                    case rel => exact ⟨k + 1, by omega, by simp, Hs.out _⟩
                    case measure => simp [intOf]; omega
              · obtain rfl : k = rd.length := by omega
                have HI := Lib.hid hI
                clear hI
                go_wp2
                go_ret2
                refine ⟨who, rfl, HW.out, ?_, (HO.out.mono fun i _ h => h.elim).trans HI.out.only⟩
                have := HI.out.at_
                rw [HN.out.1] at this
                exact this
end Go.Proofs.Ytcbgobgicknhiaa
