/- Top: how many good blocks each line has, by the setup. -/
import Derived.Test.YtjobaplioidogaaGreatAK
namespace Go.Proofs.YtjobaplioidogaaGreat
open Go.RowKit

theorem rOf_mk (N : Nat) (bad : List Int) (q : Nat) (h : q < N) : rOf (mkBs N bad) q = decide ((q : Int) ∈ bad) := by
  unfold rOf
  rw [List.getD_eq_getElem?_getD, List.getElem?_eq_getElem (by rw [mkBs_len]; exact h)]
  simp [mkBs]
theorem take_has (bad : List Int) (k : Nat) (z : Int) (h : k < bad.length) : decide (z ∈ bad.take (k + 1)) = (decide (z ∈ bad.take k) || decide (bad[k] = z)) := by
  have e : bad.take (k + 1) = bad.take k ++ [bad[k]] := by rw [List.take_add_one, List.getElem?_eq_getElem h]; rfl
  rw [e]
  clear e
  generalize bad.take k = t
  generalize bad[k] = y
  by_cases h1 : z ∈ t <;> by_cases h2 : y = z
  · simp [h1]
  · simp [h1]
  · simp [h2]
  · simp [h1, h2]; exact fun e => h2 e.symm

def GoodsU (G : Ge) (bad : List Int) (w : World) (e : Ending) (w' : World) : Prop :=
  ∃ A c g, e = .returned (.slice A G.b.toNat c) ∧ RowAt w' A G.b.toNat c g 3 1 (iv (goodsL G.b.toNat (mkBs (G.u * G.b).toNat bad) G.u.toNat G.b.toNat)) ∧ (A ≠ none → w.heap.size ≤ g) ∧ Only (fun _ => False) w w'

set_option maxRecDepth 100000 in
set_option maxHeartbeats 16000000 in
theorem goodsU_any (G : Ge) (hI : G.Is) (s : Sg) (bad : List Int) (Ab : Option Addr) (cb : Nat) (gs : Nat) (Ap : Option Addr) (np cp : Nat) (w : World) (hr : Rd w gs Ab (bad.map (Value.int .i64))) (hb100 : bad.length ≤ 100) :
    Calls Tryz.prog 10 #[.agg (setV G s Ab bad.length cb Ap np cp)] w (GoodsU G bad w) := by
  have HU := Lib.hid (fun W => refUnits_any G hI W)
  have hub : 1 ≤ G.u ∧ G.u ≤ 8 := hI.u
  have hbb := hI.b
  obtain ⟨i0, hi⟩ : ∃ i, Tryz.prog.info? 3 = some i := ⟨_, rfl⟩
  have HIT := Lib.hid (And.intro hi (And.intro (show i0.zero = some (.int .i64 0) by cases hi; rfl) (And.intro (show i0.size = 1 by cases hi; rfl) (show i0.bytes = 8 by cases hi; rfl))))
  clear hi
  unfold GoodsU
  have HROF : Hid (∀ q : Nat, (q : Int) < G.u * G.b → rOf (mkBs (G.u * G.b).toNat bad) q = decide ((q : Int) ∈ bad)) := Lib.hid (fun q hq => rOf_mk _ _ _ (by omega))
  generalize hL : mkBs (G.u * G.b).toNat bad = L at *
  clear hL
  obtain ⟨n, hn⟩ : ∃ n : Nat, G.b = n := ⟨G.b.toNat, by omega⟩
  obtain ⟨un, hun⟩ : ∃ n : Nat, G.u = n := ⟨G.u.toNat, by omega⟩
  have HBX := Lib.hid (At.new w 29 (setV G s Ab bad.length cb Ap np cp))
  have HO0 := Lib.hid ((Only.refl (fun _ => False) w).alloc (.cells (setV G s Ab bad.length cb Ap np cp) 29))
  have HRB := Lib.hid hr
  unfold setV Ge.val at *
  rw [hun] at HU hub HROF ⊢
  rw [hn] at HU hbb HBX HO0 HROF ⊢
  simp only [Int.toNat_natCast] at *
  obtain ⟨gc, gl, gbb, gp, gss⟩ := G
  simp only at *
  subst hn
  clear hun hI hr
  have HM := Lib.hid (fun (u i : Nat) (hu : u < un) (hi : i < n) => show (u : Int) * n + i < un * n ∧ 0 ≤ (u : Int) * n ∧ (u : Int) * n + i < 1000 by
    have h1 : u * n + n ≤ un * n := by rw [← Nat.succ_mul]; exact Nat.mul_le_mul_right n hu
    have h2 : un * n ≤ 8 * 64 := Nat.mul_le_mul (by omega) (by omega)
    have h3 : ((u * n + i : Nat) : Int) = (u : Int) * n + i := by simp
    have h4 : ((un * n : Nat) : Int) = (un : Int) * n := by simp
    have h5 : 0 ≤ (u : Int) * n := Int.mul_nonneg (by omega) (by omega)
    omega)
  go_enter Tryz.func10, Tryz.ntmps10
  go_wp2_with (fail)
  go_loopw [3, 4, 5, 6, 7, 8] (fun v3 v4 v5 v6 v7 v8 wr => ∃ (i : Nat) (A : Option Addr) (c g : Nat), i ≤ n ∧ v3 = .slice A i c ∧ v4 = .int .i64 i ∧ RowAt wr A i c g 3 1 (iv (goodsL n L un i)) ∧ (A ≠ none → w.heap.size ≤ g) ∧ At wr w.heap.size 29 #[.int .i64 gc, .int .i64 gl, .int .i64 n, .int .i64 gp, .int .i64 gss, .int .i64 s.n, .int .i64 s.r, .slice Ab bad.length cb, .slice Ap np cp] ∧ Only (fun _ => False) w wr) (fun _ v4 _ _ _ _ _ => (n - intOf v4).toNat)
  case atStart => exact ⟨0, none, 0, 0, by omega, rfl, rfl, .inl ⟨rfl, rfl, rfl, rfl⟩, by simp, HBX.out, HO0.out⟩
  case round =>
    obtain ⟨i, A, c, g, hi, rfl, rfl, hrow, hge, hx, hO⟩ := hrel
    have HX := Lib.hid hx
    have HROW := Lib.hid hrow
    have HGR := Lib.hid hge
    have HO := Lib.hid hO
    clear hx hrow hge hO HO0 HBX
    have c2 := HX.out.cell 2
    simp only [List.getElem?_toArray, List.getElem?_cons_zero, List.getElem?_cons_succ] at c2
    by_cases hin : i < n
    · have i1 : decide ((i : Int) < n) = true := decide_eq_true (by omega)
      have i1' : decide (i < n) = true := decide_eq_true (by omega)
      have i2 : decide ((i : Int) < 64) = true := decide_eq_true (by omega)
      have i2' : decide (i < 64) = true := decide_eq_true (by omega)
      go_wp2_with (fail)
      obtain ⟨w4, hw4⟩ : ∃ w4, w4 = wr := ⟨_, rfl⟩
      subst hw4
      go_loopw [5, 6, 7, 8] (fun v5 v6 v7 v8 wr => ∃ (u : Nat), u ≤ un ∧ v5 = .int .i64 (goodTo n L i u) ∧ v6 = .int .i64 u ∧ Only (fun _ => False) w4 wr) (fun _ v6 _ _ _ => (un - intOf v6).toNat)
      case atStart => exact ⟨0, by omega, rfl, rfl, Only.refl _ _⟩
      case round =>
        obtain ⟨u, hu, rfl, rfl, hO⟩ := hrel
        have HOb := Lib.hid hO
        clear hO c2
        have hxb := HX.out.only HOb.out id
        have b0 := hxb.cell 0
        have b1 := hxb.cell 1
        have b2 := hxb.cell 2
        have b3 := hxb.cell 3
        have b4 := hxb.cell 4
        simp only [List.getElem?_toArray, List.getElem?_cons_zero, List.getElem?_cons_succ] at b0 b1 b2 b3 b4
        clear hxb
        go_wp2_with (fail)
        refine (HU.out _).mono ?_
        rintro e w5 ⟨rfl, hO⟩
        have HOc := Lib.hid (HOb.out.trans hO)
        clear hO b0 b1 b2 b3 b4
        by_cases hul : u < un
        · have i3 : decide ((u : Int) < un) = true := decide_eq_true (by omega)
          have i3' : decide (u < un) = true := decide_eq_true (by omega)
          have hxc := HX.out.only HOc.out id
          have HXc := Lib.hid hxc
          have b2 := hxc.cell 2
          have b7 := hxc.cell 7
          simp only [List.getElem?_toArray, List.getElem?_cons_zero, List.getElem?_cons_succ] at b2 b7
          have HRc := Lib.hid ((HRB.out.only HO.out id).only HOc.out id)
          clear hxc
          obtain ⟨m1, m2, m3⟩ := HM.out u i hul hin
          have e1 : IntKind.i64.wrap ((u : Int) * n) = u * n := IntWalk.i64_in _ (by omega)
          have e1' : wrap64 ((u : Int) * n) = u * n := by rw [← IntWalk.i64_left]; exact e1
          have e2 : IntKind.i64.wrap ((u : Int) * n + i) = u * n + i := IntWalk.i64_in _ (by omega)
          have e2' : wrap64 ((u : Int) * n + i) = u * n + i := by rw [← IntWalk.i64_left]; exact e2
          have HZ := Lib.hid (show ((u * n + i : Nat) : Int) = (u : Int) * n + i by simp)
          have HRF := Lib.hid (HROF.out (u * n + i) (by rw [HZ.out]; exact m1))
          obtain ⟨b8, b9⟩ := goodTo_bd n L i u
          have hg1 : goodTo n L i (u + 1) = goodTo n L i u + if rOf L (u * n + i) then 0 else 1 := rfl
          rw [HRF.out, HZ.out] at hg1
          have HG1 := Lib.hid hg1
          clear hg1 m1 m2 HRF
          generalize goodTo n L i u = z at *
          go_wp2_with (fail)
          obtain ⟨w6, hw6⟩ : ∃ w6, w6 = w5 := ⟨_, rfl⟩
          subst hw6
          go_loopw [7, 8] (fun v7 v8 wr => ∃ (k : Nat), k ≤ bad.length ∧ v7 = .bool (decide ((u : Int) * n + i ∈ bad.take k)) ∧ v8 = .int .i64 k ∧ Only (fun _ => False) w6 wr) (fun _ v8 _ => (bad.length - intOf v8).toNat)
          case atStart => exact ⟨0, by omega, by simp, rfl, Only.refl _ _⟩
          case round =>
            obtain ⟨k, hk, rfl, rfl, hO⟩ := hrel
            have HOd := Lib.hid hO
            have hxd := HXc.out.only hO id
            have hrd := HRc.out.only hO id
            clear hO b2 b7
            have d2 := hxd.cell 2
            have d7 := hxd.cell 7
            simp only [List.getElem?_toArray, List.getElem?_cons_zero, List.getElem?_cons_succ] at d2 d7
            clear hxd
            by_cases hkl : k < bad.length
            · have i4 : decide ((k : Int) < bad.length) = true := decide_eq_true (by omega)
              have i4' : decide (k < bad.length) = true := decide_eq_true (by omega)
              have HTK := Lib.hid (take_has bad k ((u : Int) * n + i) hkl)
              obtain ⟨o, rfl, _, hc⟩ := hrd.at (fun e => by rw [List.map_eq_nil_iff] at e; rw [e] at hkl; simp at hkl)
              have d9 := hc k (.int .i64 bad[k]) (by simp [hkl])
              have hk0 : (0 : Int) ≤ k := by omega
              have hk1 : (k : Int) < bad.length := by omega
              clear hc hrd
              generalize hbk : bad[k] = y at *
              clear hbk
              cases hf : decide ((u : Int) * n + i ∈ bad.take k) with
              | true =>
                rw [hf] at HTK
                have HF := Lib.hid hf
                clear hf
                go_upto_region 13 with (fail)
                go_region
                go_wp2_with (fail)
                go_roundw
                case rel => exact ⟨k + 1, by omega, by rw [HTK.out]; simp, by simp, HOd.out.drew⟩
                case measure => simp [intOf]; omega
              | false =>
                rw [hf] at HTK
                have HF := Lib.hid hf
                clear hf
                go_upto_region 13 with (fail)
                go_region
                go_wp2_with (fail)
                go_roundw
                case rel => exact ⟨k + 1, by omega, by rw [HTK.out]; simp; by_cases hy : y = (u : Int) * n + i <;> simp [hy], by simp, HOd.out.drew⟩
                case measure => simp [intOf]; omega
            · obtain rfl : k = bad.length := by omega
              have i4 : decide ((bad.length : Int) < bad.length) = false := by simp
              have HOe := Lib.hid (HOc.out.trans HOd.out)
              clear hrd d2
              rw [List.take_length]
              cases hf : decide ((u : Int) * n + i ∈ bad) with
              | true =>
                have hg := HG1.out
                have hf' := of_decide_eq_true hf
                rw [if_pos (by exact hf)] at hg
                have HG := Lib.hid hg
                clear hg hf hf'
                go_wp2_with (fail)
                go_roundw
                case rel => exact ⟨u + 1, by omega, by rw [HG.out]; simp, by simp, HOe.out⟩
                case measure => simp [intOf]; omega
              | false =>
                have hg := HG1.out
                have hf' := of_decide_eq_false hf
                rw [if_neg (by rw [hf]; simp)] at hg
                have HG := Lib.hid hg
                clear hg hf hf'
                have e3 : IntKind.i64.wrap (z + 1) = z + 1 := IntWalk.i64_in _ (by omega)
                have e3' : wrap64 (z + 1) = z + 1 := by rw [← IntWalk.i64_left]; exact e3
                go_wp2_with (fail)
                go_roundw
                case rel => exact ⟨u + 1, by omega, by rw [HG.out], by simp, HOe.out⟩
                case measure => simp [intOf]; omega
        · obtain rfl : u = un := by omega
          have i3 : decide ((u : Int) < u) = false := by simp
          have hgl : goodsL n L u (i + 1) = goodsL n L u i ++ [goodTo n L i u] := rfl
          have HGL := Lib.hid hgl
          clear hgl
          generalize goodTo n L i u = z at *
          have hx3 := HX.out.only HOc.out id
          have hrw := HROW.out.only HOc.out (fun _ => id)
          have hoo := HO.out.trans HOc.out
          obtain ⟨wx, hwx⟩ : ∃ wx, wx = w5 := ⟨_, rfl⟩
          subst hwx
          have oa := (Only.refl (fun _ => False) wx).alloc (.cells #[.int .i64 z] 3)
          have HX3b := Lib.hid (hx3.only oa id)
          have HROWb := Lib.hid (hrw.only oa (fun _ => id))
          have HOo := Lib.hid (hoo.trans oa)
          have HN := Lib.hid (At.new wx 3 #[.int .i64 z])
          have hkm : i + 1 ≤ maxLen := by unfold maxLen; omega
          clear hx3 hrw hoo oa HX HROW HO HOb
          go_wp2_with (at_builtin; go_loud (refine wpList_append_row _ rfl (.tmp 54) (.tmp 56) 26 rfl 3 i0 (.int .i64 0) 1 8 Tryz.underlying26 HIT.out.1 HIT.out.2.1 HIT.out.2.2.1 HIT.out.2.2.2 rfl (by decide) A i c g (iv (goodsL n L u i)) rfl HROWb.out ⟨wx.heap.size, 0, none⟩ [.int .i64 z] 1 rfl rfl (fun j u hj => At.reads HN.out j u hj) (by simp [Value.oneCell']) hkm (by omega) ?_); intro A3 c9 g3 w8 hrow3 hO3 hA3; have HR3 := Lib.hid hrow3; have HO3 := Lib.hid hO3; have HA3 := Lib.hid hA3; clear hrow3 hO3 hA3)
          have y3 := HX3b.out.only HO3.out (fun h => HROWb.out.neAt HX3b.out h.1 (by decide) h.2.symm)
          have y4 := HR3.out
          rw [← iv_app, ← HGL.out] at y4
          have hwz := HOo.out.size
          have y5 : A3 ≠ none → w.heap.size ≤ g3 := fun _ => by
            rcases HA3.out.2 with ⟨h1, h2⟩ | h2
            · rw [h2]; exact HGR.out h1
            · omega
          have y6 := (HOo.out.trans' HO3.out (fun i hi e => by have := HGR.out e.1; omega) (S := fun _ => False))
          have HFIN := Lib.hid (And.intro y3 (And.intro y4 (And.intro y5 y6)))
          clear y3 y4 y5 y6 hwz
          go_roundw
          case rel => exact ⟨i + 1, A3, c9, g3, by omega, by simp, by simp, HFIN.out.2.1, HFIN.out.2.2.1, HFIN.out.1, HFIN.out.2.2.2⟩
          case measure => simp [intOf]; omega
    · obtain rfl : i = n := by omega
      have i1 : decide ((i : Int) < i) = false := by simp
      go_wp2
      go_ret
      exact ⟨A, c, g, rfl, HROW.out, HGR.out, HO.out⟩
end Go.Proofs.YtjobaplioidogaaGreat
