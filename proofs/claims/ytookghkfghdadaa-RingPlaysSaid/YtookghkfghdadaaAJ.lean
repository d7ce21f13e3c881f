/- Ring: the law RingPlays, walked. -/
import Derived.Test.YtookghkfghdadaaAI
namespace Go.Proofs.Ytookghkfghdadaa
open Go.RowKit

theorem XM.zero {B : Nat} {w : World} {d : Nat} {size : Int} (h : At w d 60 #[.int .i64 size, .slice none 0 0, .slice none 0 0]) (hB : B ≤ d) : XM B w d size [] [] ⟨none, 0, 0, none, 0, 0⟩ :=
  ⟨h, .inl ⟨rfl, rfl, rfl, rfl⟩, fun r hr => by simp at hr, .inl ⟨rfl, rfl, rfl, rfl⟩, rfl, by simp, hB, fun h => absurd rfl h, fun h => absurd rfl h⟩

set_option maxRecDepth 100000 in
set_option maxHeartbeats 16000000 in
theorem ringPlays_walk (a : Int) (g0 c0 : Nat) (A0 : Option Addr) (ops : List Opr) (w : World) (hr : Rd w g0 A0 (ocs ops)) (hok : ∀ o ∈ ops, o.Ok w) (hlen : ops.length ≤ 9223372036854775807) :
    Calls Try.prog 9 #[.int .i64 a, .slice A0 ops.length c0] w fun e w' => e = .returned (.bool true) ∧ Below w.heap.size w w' := by
  have HR := Lib.hid hr
  have HOK := Lib.hid hok
  obtain ⟨n, hn⟩ : ∃ n, ops.length = n := ⟨_, rfl⟩
  have HL := Lib.hid hn
  rw [hn] at hlen ⊢
  clear hr hok hn
  by_cases hbad : a < 1 ∨ 256 < a
  · have HN := Lib.hid (new_bad a hbad)
    have HN' := Lib.hid (refnew_bad a hbad)
    clear hbad
    go_enter Try.func9, Try.ntmps9
    go_wp2_with (fail)
    refine (awake_any _).mono ?_
    rintro e w1 ⟨rfl, hO⟩
    have HO := Lib.hid hO
    clear hO
    go_wp2_with (fail)
    refine (HN.out _).mono ?_
    rintro e w2 ⟨rfl, rfl⟩
    go_wp2_with (fail)
    refine (HN'.out _).mono ?_
    rintro e w3 ⟨rfl, rfl⟩
    go_wp2_with (fail)
    go_loopw [10, 11] (fun v10 v11 wr => v10 = .int .i64 0 ∧ wr = w3) (fun _ _ _ => 0)
    case atStart => exact ⟨rfl, rfl⟩
    case round =>
      obtain ⟨rfl, rfl⟩ := hrel
      by_cases hN0 : (0 : Int) < n
      · go_wp2
        go_ret
        exact ⟨rfl, HO.out.below (Nat.le_refl _) (fun _ _ => id)⟩
      · have d0 : decide (0 < (n : Int)) = false := decide_eq_false hN0
        go_wp2
        go_ret
        exact ⟨rfl, HO.out.below (Nat.le_refl _) (fun _ _ => id)⟩
  obtain ⟨size, rfl⟩ : ∃ m : Nat, a = m := ⟨a.toNat, by omega⟩
  have n1 : 1 ≤ size := by omega
  have n2 : size ≤ 256 := by omega
  clear hbad
  have HN := Lib.hid (new_any size n1 n2)
  have HN' := Lib.hid (refnew_any size n1 n2)
  go_enter Try.func9, Try.ntmps9
  go_wp2_with (fail)
  refine (awake_any _).mono ?_
  rintro e w1 ⟨rfl, hO⟩
  have HO1 := Lib.hid hO
  clear hO
  go_wp2_with (fail)
  refine (HN.out _).mono ?_
  rintro e w2 ⟨b, g, rfl, hk, hb, hg, hO⟩
  have HBG : Hid (w.heap.size ≤ b ∧ w.heap.size ≤ g) := Lib.hid (by have := HO1.out.size; omega)
  have HK2 := Lib.hid hk
  have HO2 := Lib.hid (HO1.out.trans hO)
  clear hk hb hg hO HN
  go_wp2_with (fail)
  refine (HN'.out _).mono ?_
  rintro e w3 ⟨rfl, hst, hO⟩
  have HKX3 := Lib.hid (XM.zero hst (HO2.out.size : w.heap.size ≤ w2.heap.size))
  have HK3 := Lib.hid (HK2.out.quiet hO)
  have HO3 := Lib.hid (HO2.out.trans hO)
  have HRL3 := Lib.hid (Rl.zero size n1)
  generalize w2.heap.size = d at *
  clear hst hO HN' HK2 HO2 HO1
  go_wp2_with (fail)
  go_loopw [10, 11] (fun v10 v11 wr => ∃ (i t h : Nat) (l : List RC) (ps : List PS) (ss : List Int) (L : XL), i ≤ n ∧ i ≤ 200 ∧ h ≤ i ∧ v10 = .int .i64 i ∧ RgAt wr b g t h l ∧ XM w.heap.size wr d size ps ss L ∧ Rl l size t h ps ss ∧ Only (fun _ => False) w wr) (fun v10 _ wr => (n - intOf v10).toNat)
  case atStart => exact ⟨0, 0, 0, _, [], [], _, by omega, by omega, by omega, rfl, HK3.out, HKX3.out, HRL3.out, HO3.out⟩
  case round =>
    obtain ⟨i, t, h, l, ps, ss, L, hi, hi200, hhi, rfl, hk, hkx, hrl, hO⟩ := hrel
    have HKi := Lib.hid hk
    have HXi := Lib.hid hkx
    have HRi := Lib.hid hrl
    have HOi := Lib.hid hO
    clear hk hkx hrl hO HO3 HK3 HKX3 HRL3
    by_cases hin : i < n
    case neg =>
      obtain rfl : i = n := by omega
      have i1 : decide ((i : Int) < i) = false := by simp
      go_wp2
      go_ret
      exact ⟨rfl, HOi.out.below (Nat.le_refl _) (fun _ _ => id)⟩
    have i0 : (0 : Int) ≤ i := by omega
    have i1 : (i : Int) < n := by omega
    by_cases h200 : i < 200
    case neg =>
      have i2 : decide ((i : Int) < 200) = false := by simp; omega
      go_wp2
      go_ret
      exact ⟨rfl, HOi.out.below (Nat.le_refl _) (fun _ _ => id)⟩
    have i2 : (i : Int) < 200 := by omega
    obtain ⟨off, rfl, hlt, hop⟩ := op_cells HR.out HOi.out (show i < ops.length by rw [HL.out]; exact hin)
    have hokk := HOK.out _ (List.getElem_mem (show i < ops.length by rw [HL.out]; exact hin))
    generalize ops[i]'(by rw [HL.out]; exact hin) = o at *
    have HD : Hid (o.x.data.length ≤ 1000 → Calls Try.prog 26 #[.pointer (some ⟨b, 0, none⟩), .pointer (some ⟨d, 0, none⟩), .agg o.cells.toArray] wr fun e w' => e = .returned (.bool true) ∧ DoP w.heap.size b g d size h L wr w') :=
      Lib.hid (fun hd => does_any w.heap.size b g d size t h l ps ss L o wr (fun W oW => by
        obtain ⟨gr, hgr⟩ := hokk.rd
        rcases hgr with hnil | ⟨f, hA, hl, hc⟩
        · exact ⟨0, .inl hnil⟩
        · exact ⟨gr, (Rd.only (.inr ⟨f, hA, hl, hc⟩ : Rd w gr o.A _) ((HOi.out.mono (fun i _ e => e.elim) : Only (fun i => w.heap.size ≤ i) _ _).trans oW) (by omega))⟩) hd HKi.out HXi.out HRi.out HOi.out.size HBG.out n2 (by omega))
    obtain ⟨od, on, ola, ox, oA, ocap⟩ := o
    obtain ⟨xk, xl, xs, xf, xd⟩ := ox
    obtain ⟨c0, c1, c2, c3, c4, c5, c6, c7⟩ := hop
    simp only at c0 c1 c2 c3 c4 c5 c6 c7 HD
    unfold Opr.cells at HD
    simp only at HD
    clear hokk hlt
    by_cases hbig : (1000 : Int) < xd.length
    case pos =>
      go_wp2
      go_ret
      exact ⟨rfl, HOi.out.below (Nat.le_refl _) (fun _ _ => id)⟩
    have HD2 := Lib.hid (HD.out (by omega))
    have db : decide ((1000 : Int) < xd.length) = false := decide_eq_false hbig
    clear HD
    go_wp2_with (fail)
    refine HD2.out.mono ?_
    rintro e w4 ⟨rfl, hB⟩
    obtain ⟨t', h', l', ps', ss', L', hk, hkx, hrl, hh, hO⟩ := hB
    have HK4 := Lib.hid hk
    have HX4 := Lib.hid hkx
    have HR4 := Lib.hid hrl
    have HO4 := Lib.hid (HOi.out.trans' hO (S := fun _ => False) (fun j hj e => by
      rcases e with e | e | e
      · have := HBG.out; omega
      · have := HBG.out; omega
      · have := HXi.out.above e; omega))
    clear hO hk hkx hrl HD2 c0 c1 c2 c3 c4 c5 c6 c7
    have hps : ps'.length = h' := HR4.out.hp
    have H27 := Lib.hid (fun W kx => xhead_any w.heap.size d size ps' ss' L' W kx)
    rw [hps] at H27
    have H29 := Lib.hid (fun W kx => xwait_any w.heap.size d size ps' ss' L' W kx)
    rw [← HR4.out.wait] at H29
    have H30 := Lib.hid (fun W kx => xfree_any w.heap.size d size ps' ss' L' t' HR4.out.tl n2 W kx)
    have H16 := Lib.hid (fun W k => free_any b g t' h' l' W k)
    have hfr : ((l'.length + t' - h' : Nat) : Int) = (size : Int) - ps'.length + t' := by
      have h1 := HR4.out.wn.len
      have h2 := HR4.out.wn.win
      rw [hps]; omega
    rw [← hfr] at H30
    generalize ((l'.length + t' - h' : Nat) : Int) = F at *
    have HWT := Lib.hid (fun W k => waiting_any b g t' h' l' W k)
    generalize (waitN l' t' h') = WN at *
    have e1 : ((h' : Int) != (h' : Int)) = false := by simp
    have e2 : ((t' : Int) != (t' : Int)) = false := by simp
    have e3 : ((WN : Int) != (WN : Int)) = false := by simp
    have e4 : (F != F) = false := by simp
    clear hfr hps
    go_wp2_with (fail)
    refine (head_any b g t' h' l' w4 HK4.out).mono ?_
    rintro e w5 ⟨rfl, rfl⟩
    go_wp2_with (fail)
    refine (H27.out _ HX4.out).mono ?_
    rintro e w6 ⟨rfl, rfl⟩
    go_wp2_with (fail)
    refine (tail_any b g t' h' l' _ HK4.out).mono ?_
    rintro e w5 ⟨rfl, rfl⟩
    go_wp2_with (fail)
    refine (xtail_any w.heap.size d size ps' ss' L' t' HR4.out.tl _ HX4.out).mono ?_
    rintro e w6 ⟨rfl, rfl⟩
    go_wp2_with (fail)
    refine (HWT.out _ HK4.out).mono ?_
    rintro e w7 ⟨rfl, hO⟩
    have HK7 := Lib.hid (HK4.out.quiet hO)
    have HX7 := Lib.hid (HX4.out.quiet hO)
    have HO7 := Lib.hid (HO4.out.trans hO)
    clear hO
    go_wp2_with (fail)
    refine (H29.out _ HX7.out).mono ?_
    rintro e w8 ⟨rfl, rfl⟩
    go_wp2_with (fail)
    refine (H16.out _ HK7.out).mono ?_
    rintro e w9 ⟨rfl, hO⟩
    have HK9 := Lib.hid (HK7.out.quiet hO)
    have HX9 := Lib.hid (HX7.out.quiet hO)
    have HO9 := Lib.hid (HO7.out.trans hO)
    clear hO
    go_wp2_with (fail)
    refine (H30.out _ HX9.out).mono ?_
    rintro e w10 ⟨rfl, hO⟩
    have HK10 := Lib.hid (HK9.out.quiet hO)
    have HX10 := Lib.hid (HX9.out.quiet hO)
    have HO10 := Lib.hid (HO9.out.trans hO)
    clear hO
    go_wp2
    go_roundw
    case rel => exact ⟨i + 1, t', h', l', ps', ss', L', by omega, by omega, by omega, by simp, HK10.out, HX10.out, HR4.out, HO10.out⟩
    case measure => simp [intOf]; omega
end Go.Proofs.Ytookghkfghdadaa
