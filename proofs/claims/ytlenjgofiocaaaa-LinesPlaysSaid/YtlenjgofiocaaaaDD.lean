/- Lines: alike; LinesNews walked. -/
import Derived.Test.YtlenjgofiocaaaaCC
namespace Go.Proofs.Ytlenjgofiocaaaa
open Go.RowKit

set_option maxRecDepth 100000 in
set_option maxHeartbeats 8000000 in
theorem alike_any (b off c gb r offr cr rb : Nat) (G : Ge) (hG : G.Is) (l : List Ln) (op : Int) (hI : Inv l op) (w : World) (k : LAt w b G l off c gb op) (kr : RAt w r G l offr cr rb) :
    Calls Try.prog 12 #[.pointer (some ⟨b, 0, none⟩), .pointer (some ⟨r, 0, none⟩)] w fun e w' => e = .returned (.bool true) ∧ Only (fun _ => False) w w' := by
  have hlen := k.len
  have HK := Lib.hid k
  have HKR := Lib.hid kr
  have HI := Lib.hid hI
  have HG := Lib.hid hG
  clear k kr hI hG
  obtain ⟨n, hn⟩ : ∃ n, l.length = n := ⟨_, rfl⟩
  have HN := Lib.hid hn
  rw [hn] at hlen
  clear hn
  go_enter Try.func12, Try.ntmps12
  go_wp2_with (fail)
  go_loopw [5, 6, 7, 8, 9] (fun v5 v6 v7 v8 v9 wr => ∃ q : Nat, q ≤ n + 2 ∧ v5 = .int .i64 ((q : Int) - 1) ∧ Only (fun _ => False) w wr) (fun v5 _ _ _ _ wr => (n + 1 - intOf v5).toNat)
  case atStart => exact ⟨0, by omega, rfl, Only.refl _ _⟩
  case round =>
    obtain ⟨q, hq, rfl, hO⟩ := hrel
    have HO := Lib.hid hO
    have hkr := HKR.out.quiet hO
    have c5 := hkr.st.cell 5
    simp only [List.getElem?_toArray, List.getElem?_cons_zero, List.getElem?_cons_succ] at c5
    rw [HN.out] at c5
    have HKQ := Lib.hid (HK.out.quiet hO)
    have HRQ := Lib.hid hkr
    clear hO hkr
    obtain ⟨z, hz⟩ : ∃ z : Int, (q : Int) - 1 = z := ⟨_, rfl⟩
    have HZ := Lib.hid hz
    rw [hz]
    by_cases hqn : z ≤ n
    · have z0 : -1 ≤ z := by omega
      have z1 : z ≤ 64 := by omega
      have HG1 := Lib.hid (get_any b off c gb G HG.out l HI.out.g op z wr HKQ.out)
      have HG2 : Hid (∀ W, Only (fun _ => False) w W → Calls Try.prog 30 #[.pointer (some ⟨r, 0, none⟩), .int .i64 z] W fun e w' => e = .returned (.tuple #[getV G l z, .int .i64 (getE l z)]) ∧ Only (fun _ => False) W w') :=
        Lib.hid (fun W o => refGet_any r offr cr rb G HG.out l HI.out.g z W (HKR.out.quiet o))
      have HC1 : Hid (∀ W, Only (fun _ => False) w W → Calls Try.prog 23 #[.pointer (some ⟨b, 0, none⟩), .int .i64 z] W fun e w' => e = .returned (.int .i64 ((flt l z l.length).length : Int)) ∧ Only (fun _ => False) W w') :=
        Lib.hid (fun W o => count_any b off c gb G l op z W (HK.out.quiet o))
      have HC2 : Hid (∀ W, Only (fun _ => False) w W → Calls Try.prog 31 #[.pointer (some ⟨r, 0, none⟩), .int .i64 z] W fun e w' => e = .returned (.int .i64 ((flt l z l.length).length : Int)) ∧ w' = W) :=
        Lib.hid (fun W o => refCount_any r offr cr rb G l z W (HKR.out.quiet o))
      obtain ⟨a0, a1, a2, a3, a4, hv⟩ := getV_form G l z
      rw [hv] at HG1 HG2
      generalize ((flt l z l.length).length : Int) = cn at *
      generalize getE l z = er at *
      clear hv hz
      go_wp2_with (fail)
      refine HG1.out.mono ?_
      rintro e w3 ⟨rfl, hO3⟩
      have HO3 := Lib.hid (HO.out.trans (hO3.alloc (.cells #[.int .i64 a0, .int .i64 a1, .int .i64 a2, .int .i64 a3, .int .i64 a4] 43)))
      have HA3 := Lib.hid (At.new w3 43 #[.int .i64 a0, .int .i64 a1, .int .i64 a2, .int .i64 a3, .int .i64 a4])
      clear hO3 HG1 c5
      go_wp2_with (fail)
      refine (HG2.out _ HO3.out).mono ?_
      rintro e w4 ⟨rfl, hO4⟩
      have o5 := hO4.alloc (.cells #[.int .i64 a0, .int .i64 a1, .int .i64 a2, .int .i64 a3, .int .i64 a4] 43)
      have HO5 := Lib.hid (HO3.out.trans o5)
      have ha5 := HA3.out.only o5 id
      have u0 := ha5.cell 0
      have u1 := ha5.cell 1
      have u2 := ha5.cell 2
      have u3 := ha5.cell 3
      have u4 := ha5.cell 4
      simp only [List.getElem?_toArray, List.getElem?_cons_zero, List.getElem?_cons_succ] at u0 u1 u2 u3 u4
      clear hO4 o5 ha5 HG2
      go_wp2_with (fail)
      refine (HC1.out _ HO5.out).mono ?_
      rintro e w6 ⟨rfl, hO6⟩
      have HO6 := Lib.hid (HO5.out.trans hO6)
      clear hO6 u0 u1 u2 u3 u4
      go_wp2_with (fail)
      refine (HC2.out _ HO6.out).mono ?_
      rintro e w7 ⟨rfl, rfl⟩
      go_wp2
      go_roundw
      case rel => exact ⟨q + 1, by have := HZ.out; omega, by have := HZ.out; congr 1; omega, HO6.out⟩
      case measure => simp [intOf]; omega
    · have z0 : decide (z ≤ n) = false := decide_eq_false hqn
      have HC1 := Lib.hid (current_any b off c gb G l op wr HKQ.out)
      have HC2 := Lib.hid (refCurrent_any r offr cr rb G l op HI.out wr HRQ.out)
      have HP1 := Lib.hid (capacity_any b off c gb G HG.out l HI.out.g op wr HKQ.out)
      have HP2 : Hid (∀ W, Only (fun _ => False) w W → Calls Try.prog 33 #[.pointer (some ⟨r, 0, none⟩)] W fun e w' => e = .returned (.int .i64 (capTo G l l.length)) ∧ Only (fun _ => False) W w') :=
        Lib.hid (fun W o => refCapacity_any r offr cr rb G HG.out l HI.out.g W (HKR.out.quiet o))
      generalize capTo G l l.length = cp at *
      clear hz
      go_wp2_with (fail)
      refine HC1.out.mono ?_
      rintro e w3 ⟨rfl, rfl⟩
      go_wp2_with (fail)
      refine HC2.out.mono ?_
      rintro e w3 ⟨rfl, rfl⟩
      go_wp2_with (fail)
      refine HP1.out.mono ?_
      rintro e w3 ⟨rfl, hO3⟩
      have HO3 := Lib.hid (HO.out.trans hO3)
      clear hO3
      go_wp2_with (fail)
      refine (HP2.out _ HO3.out).mono ?_
      rintro e w4 ⟨rfl, hO4⟩
      have HO4 := Lib.hid (HO3.out.trans hO4)
      clear hO4
      go_wp2
      go_ret
      exact ⟨rfl, HO4.out⟩

set_option maxRecDepth 100000 in
set_option maxHeartbeats 4000000 in
theorem linesNews_walk (G : Ge) (hw : G.Wf) (good wear : List Int) (Ag Aw : Option Addr) (cg cw gg gw : Nat) (w : World) (hg : Rd w gg Ag (iv good)) (hwr : Rd w gw Aw (iv wear)) :
    Calls Try.prog 3 #[G.val, .slice Ag good.length cg, .slice Aw wear.length cw] w fun e w' => e = .returned (.bool true) ∧ Below w.heap.size w w' := by
  have HO0 := Lib.hid ((Only.refl (fun _ => False) w).alloc (.cells #[.int .i64 G.c, .int .i64 G.l, .int .i64 G.b, .int .i64 G.p, .int .i64 G.s] 23))
  have HN0 := Lib.hid (At.new w 23 #[.int .i64 G.c, .int .i64 G.l, .int .i64 G.b, .int .i64 G.p, .int .i64 G.s])
  have HNEW : Hid (∀ W, Only (fun _ => False) w W → Calls Try.prog 10 #[G.val, .slice Ag good.length cg, .slice Aw wear.length cw] W (NewP G good wear W)) :=
    Lib.hid (fun W o => new_any G hw good wear Ag Aw cg cw gg gw W (hg.only o id) (hwr.only o id))
  have HRNEW : Hid (∀ W, Only (fun _ => False) w W → Calls Try.prog 11 #[G.val, .slice Ag good.length cg, .slice Aw wear.length cw] W (RNewP G good wear W)) :=
    Lib.hid (fun W o => refnew_any G hw good wear Ag Aw cg cw gg gw W (hg.only o id) (hwr.only o id))
  clear hg hwr hw
  unfold Ge.val at HNEW HRNEW ⊢
  go_enter Try.func3, Try.ntmps3
  go_wp2_with (fail)
  refine (awake_any _).mono ?_
  rintro e w1 ⟨rfl, hO⟩
  have HO1 := Lib.hid (HO0.out.trans hO)
  have a1 := HN0.out.only hO id
  have g0 := a1.cell 0
  have g1 := a1.cell 1
  have g2 := a1.cell 2
  have g3 := a1.cell 3
  have g4 := a1.cell 4
  simp only [List.getElem?_toArray, List.getElem?_cons_zero, List.getElem?_cons_succ] at g0 g1 g2 g3 g4
  have HN1 := Lib.hid a1
  clear hO a1 HN0 HO0
  go_wp2_with (fail)
  refine (HNEW.out w1 HO1.out).mono ?_
  clear g0 g1 g2 g3 g4
  rintro e w2 (⟨hok, b, off, c, gb, rfl, k, hb1, hb2, hO⟩ | ⟨hno, rfl, hO⟩)
  case inr =>
    have HO2 := Lib.hid (HO1.out.trans hO)
    have a1 := HN1.out.only hO id
    have g0 := a1.cell 0
    have g1 := a1.cell 1
    have g2 := a1.cell 2
    have g3 := a1.cell 3
    have g4 := a1.cell 4
    simp only [List.getElem?_toArray, List.getElem?_cons_zero, List.getElem?_cons_succ] at g0 g1 g2 g3 g4
    have HNO := Lib.hid hno
    clear hno hO HO1 HN1 a1
    go_wp2_with (fail)
    refine (HRNEW.out w2 HO2.out).mono ?_
    rintro e w3 (⟨hok, _⟩ | ⟨_, rfl, hO⟩)
    · exact absurd hok HNO.out
    have HO3 := Lib.hid (HO2.out.trans hO)
    clear hO g0 g1 g2 g3 g4
    go_wp2
    go_ret
    exact ⟨rfl, HO3.out.below (Nat.le_refl _) (fun _ _ => id)⟩
  have HO2 := Lib.hid (HO1.out.trans hO)
  have a1 := HN1.out.only hO id
  have g0 := a1.cell 0
  have g1 := a1.cell 1
  have g2 := a1.cell 2
  have g3 := a1.cell 3
  have g4 := a1.cell 4
  simp only [List.getElem?_toArray, List.getElem?_cons_zero, List.getElem?_cons_succ] at g0 g1 g2 g3 g4
  have HOK := Lib.hid hok
  have HK := Lib.hid k
  clear hok k hO HO1 HN1 a1 hb1 hb2
  go_wp2_with (fail)
  refine (HRNEW.out w2 HO2.out).mono ?_
  rintro e w3 (⟨_, r, offr, cr, rb, rfl, kr, _, _, hO⟩ | ⟨hno, _⟩)
  case inr => exact absurd HOK.out hno
  have HO3 := Lib.hid (HO2.out.trans hO)
  have HAL := Lib.hid (alike_any b off c gb r offr cr rb G (newOk_g HOK.out).1 _ _ (Inv.new HOK.out) w3 (HK.out.quiet hO) kr)
  clear hO kr g0 g1 g2 g3 g4
  go_wp2_with (fail)
  refine HAL.out.mono ?_
  rintro e w4 ⟨rfl, hO⟩
  have HO4 := Lib.hid (HO3.out.trans hO)
  clear hO
  go_wp2
  go_ret
  exact ⟨rfl, HO4.out.below (Nat.le_refl _) (fun _ _ => id)⟩
end Go.Proofs.Ytlenjgofiocaaaa
