/- Top: a device of one sector is mounted; the first word; the law's arguments, opened. -/
import Derived.Test.YtjobaplioidogaaGreatBF
import Derived.Test.YtjobaplioidogaaGreatS
import Derived.Test.YtjobaplioidogaaGreatR
import Derived.Deep.Strs
namespace Go.Proofs.YtjobaplioidogaaGreat
open Go.RowKit

set_option maxRecDepth 100000 in
set_option maxHeartbeats 4000000 in
theorem valid_two (mb kt kw vb : Nat) (w : World) (hh : At w mb 142 #[.int .i64 1, .int .i64 1, .int .i64 2, .int .i64 2, .int .i64 1, .int .i64 2, .pointer (some ⟨kt, 0, none⟩), .pointer (some ⟨kw, 0, none⟩), .slice (some ⟨vb, 0, none⟩) 2 2]) (hv : At w vb 3 #[.int .i64 1, .int .i64 0]) :
    (Calls Tryz.prog 58 #[.pointer (some ⟨mb, 0, none⟩), .int .i64 0] w fun e w' => e = .returned (.int .i64 1) ∧ w' = w) ∧ (Calls Tryz.prog 58 #[.pointer (some ⟨mb, 0, none⟩), .int .i64 1] w fun e w' => e = .returned (.int .i64 0) ∧ w' = w) := by
  have c2 := hh.cell 2
  have c8 := hh.cell 8
  have v0 := hv.cell 0
  have v1 := hv.cell 1
  simp only [List.getElem?_toArray, List.getElem?_cons_zero, List.getElem?_cons_succ] at c2 c8 v0 v1
  clear hh hv
  constructor
  · go_enter Tryz.func58, Tryz.ntmps58
    go_wp2
    go_ret
    exact ⟨rfl, rfl⟩
  · go_enter Tryz.func58, Tryz.ntmps58
    go_wp2
    go_ret
    exact ⟨rfl, rfl⟩

set_option maxRecDepth 100000 in
set_option maxHeartbeats 4000000 in
theorem many_one (mb kt kw vb : Nat) (w : World) (hh : At w mb 142 #[.int .i64 1, .int .i64 1, .int .i64 2, .int .i64 2, .int .i64 1, .int .i64 2, .pointer (some ⟨kt, 0, none⟩), .pointer (some ⟨kw, 0, none⟩), .slice (some ⟨vb, 0, none⟩) 2 2]) (hv : At w vb 3 #[.int .i64 1, .int .i64 0]) :
    Calls Tryz.prog 21 #[.pointer (some ⟨mb, 0, none⟩)] w fun e w' => e = .returned (.int .i64 1) ∧ w' = w := by
  have c8 := hh.cell 8
  have v0 := hv.cell 0
  have v1 := hv.cell 1
  simp only [List.getElem?_toArray, List.getElem?_cons_zero, List.getElem?_cons_succ] at c8 v0 v1
  clear hh hv
  go_enter Tryz.func21, Tryz.ntmps21
  go_wp2_with (fail)
  go_loopw [3, 5, 11] (fun v3 v5 v11 wr => ((v11 = .int .i64 0 ∧ v3 = .int .i64 0) ∨ (v11 = .int .i64 1 ∧ v3 = .int .i64 1) ∨ (v11 = .int .i64 2 ∧ v3 = .int .i64 1)) ∧ w = wr) (fun _ _ v11 _ => (2 - intOf v11).toNat)
  case atStart => exact ⟨.inl ⟨rfl, rfl⟩, rfl⟩
  case round =>
    obtain ⟨⟨rfl, rfl⟩ | ⟨rfl, rfl⟩ | ⟨rfl, rfl⟩, rfl⟩ := hrel
    · go_wp2
      go_roundw
      case rel => exact ⟨.inr (.inl ⟨by simp, by simp⟩), trivial⟩
      case measure => simp [intOf]
    · go_wp2
      go_roundw
      case rel => exact ⟨.inr (.inr ⟨by simp, by simp⟩), trivial⟩
      case measure => simp [intOf]
    · go_wp2
      go_ret
      exact ⟨rfl, rfl⟩

def MountQ (w : World) (e : Ending) (w' : World) : Prop :=
  ∃ mb kt kw vb b, e = .returned (.tuple #[.pointer (some ⟨mb, 0, none⟩), .pointer (some ⟨b, 0, none⟩), .int .i64 5, .int .i64 0]) ∧ At w' mb 142 #[.int .i64 1, .int .i64 1, .int .i64 2, .int .i64 2, .int .i64 1, .int .i64 2, .pointer (some ⟨kt, 0, none⟩), .pointer (some ⟨kw, 0, none⟩), .slice (some ⟨vb, 0, none⟩) 2 2] ∧ At w' vb 3 #[.int .i64 1, .int .i64 0] ∧ Only (fun _ => False) w w'

set_option maxRecDepth 100000 in
set_option maxHeartbeats 16000000 in
theorem mount_one (S0 S : Int) (h0 : crcL 0 oobL = S0) (h1 : crcL S0 datL = S) (hS : takeL (S % 256) (S / 256 % 256) (S / 65536 % 256) (S / 16777216 % 256) = S) (d gb mp pp : Nat) (A B : Option Addr) (c c' g3 g4 : Nat) (w : World) (k : NAt w d gb mp pp gq oneBs (oneE A B c c') 1) (hr3 : Rd w g3 A (bv datL)) (hr4 : Rd w g4 B (lob S)) :
    Calls Tryz.prog 20 #[.pointer (some ⟨d, 0, none⟩), .int .i64 2] w (MountQ w) := by
  have HGE : Hid (∀ W, Only (fun _ => False) w W → Calls Tryz.prog 51 #[.pointer (some ⟨d, 0, none⟩)] W fun e w' => e = .returned (.agg #[.int .i64 1, .int .i64 1, .int .i64 2, .int .i64 2, .int .i64 1]) ∧ Only (fun _ => False) W w') := Lib.hid (fun W o => geometry_any d gb mp pp gq oneBs _ 1 W (k.quiet o))
  have HSC := Lib.hid (fun W (o : Only (fun _ => False) w W) => scan_one S0 S h0 h1 hS d gb mp pp oneBs A B c c' g3 g4 W (k.quiet o) (hr3.only o id) (hr4.only o id))
  have HGO := Lib.hid (fun W (o : Only (fun _ => False) w W) => goods_any d gb mp pp gq oneBs _ 1 W (k.quiet o))
  have HWE := Lib.hid (fun W (o : Only (fun _ => False) w W) => wears_one S0 S h0 h1 hS d gb mp pp oneBs A B c c' g3 g4 W (k.quiet o) (hr3.only o id) (hr4.only o id))
  have HNM : Hid (∀ W, Calls Tryz.prog 50 #[.agg #[.int .i64 1, .int .i64 1, .int .i64 2, .int .i64 2, .int .i64 1], .int .i64 2] W (NewMapQ gq 2 W)) := Lib.hid (fun W => newMap_far gq gq_is 2 (by omega) (by decide) W)
  have HNE := Lib.hid (fun A c g p q W h => newest_one A c g p q W h)
  have HLA := Lib.hid (fun mb kt kw vb lo g st sw W k h h' => lay_one mb kt kw vb lo g st sw W k h h')
  have HLN : Hid (∀ Ag Aw cg cw gg gw W, Rd W gg Ag (iv (goodsL 2 oneBs 1 2)) → Rd W gw Aw (iv [0, 0]) → Calls Tryz.prog 57 #[.agg #[.int .i64 1, .int .i64 1, .int .i64 2, .int .i64 2, .int .i64 1], .slice Ag 2 cg, .slice Aw 2 cw] W (NewP gq (goodsL 2 oneBs 1 2) [0, 0] W)) := Lib.hid (fun Ag Aw cg cw gg gw W h h' => new_any gq gq_is.wf (goodsL 2 oneBs 1 2) [0, 0] Ag Aw cg cw gg gw W h h')
  have HUS := Lib.hid (fun b off c gb l op n W k => use_any b off c gb gq l op n W k)
  have HVA := Lib.hid (fun mb kt kw vb W h h' => valid_two mb kt kw vb W h h')
  have HOKN : Hid (newOk gq (goodsL 2 oneBs 1 2) [0, 0]) := Lib.hid (newOk_mount gq_is oneBs)
  clear k h0 h1 hS hr3 hr4
  unfold MountQ
  unfold NewMapQ at HNM
  unfold GoodsP at HGO
  unfold WearsP at HWE
  unfold NewP at HLN
  unfold SetP at HLA
  unfold FoundP at HSC
  go_enter Tryz.func20, Tryz.ntmps20
  go_wp2_with (fail)
  refine (HGE.out _ (Only.refl _ _)).mono ?_
  rintro e w1 ⟨rfl, hO1⟩
  go_wp2_with (fail)
  refine (HNM.out _).mono ?_
  rintro e w2 ⟨mb, kt, kw, vb, st, sw, rfl, hm, hsep, hO2⟩
  have HM2 : Hid (MAt w2 mb kt kw vb gq 2 st sw (fun _ => ⟨-1, 0, 0⟩) (fun _ => 0) [0, 0] w1.heap.size) := Lib.hid hm
  have HSEP := Lib.hid hsep
  have HW1 := Lib.hid hO1.size
  have HO2 := Lib.hid (hO1.trans hO2)
  clear hm hO1 hO2 hsep
  go_wp2_with (fail)
  refine (HSC.out _ HO2.out).mono ?_
  rintro e w3 ⟨A1, c1, rfl, ⟨g, p, q, hr1, -, -, -, -⟩, hO⟩
  have HM3 := Lib.hid (HM2.out.quiet hO)
  have HO3 := Lib.hid (HO2.out.trans hO)
  have HR1 := Lib.hid hr1
  clear hO hr1
  go_wp2_with (fail)
  refine (HNE.out A1 c1 g p q _ HR1.out).mono ?_
  rintro e w4 ⟨g4, rfl, hx, hge, hO⟩
  have HM4 := Lib.hid (HM3.out.quiet hO)
  have HO4 := Lib.hid (HO3.out.trans hO)
  have HX := Lib.hid hx
  clear hO hx hge
  go_wp2_with (fail)
  refine (HLA.out mb kt kw vb _ g4 st sw _ HM4.out HSEP.out HX.out).mono ?_
  rintro e w5 ⟨rfl, hh, hv, hO⟩
  have HH5 := Lib.hid hh
  have HV5 := Lib.hid hv
  have HO5 := Lib.hid (HO4.out.trans' hO (S := fun _ => False) (fun i hi e => by have := HW1.out; omega))
  clear hO hh hv
  go_wp2_with (fail)
  refine (HGO.out _ HO5.out).mono ?_
  rintro e w6 ⟨Ag, cg, gg, rfl, hrow, hge, hO⟩
  have HH6 := Lib.hid (HH5.out.only hO id)
  have HV6 := Lib.hid (HV5.out.only hO id)
  have HO6 := Lib.hid (HO5.out.trans hO)
  have HR6 : Hid (Rd w6 gg Ag (iv (goodsL 2 oneBs 1 2))) := Lib.hid hrow.rd
  clear hO hrow hge
  go_wp2_with (fail)
  refine (HWE.out _ HO6.out).mono ?_
  rintro e w7 ⟨gw, rfl, hx, hge, hO⟩
  have HH7 := Lib.hid (HH6.out.only hO id)
  have HV7 := Lib.hid (HV6.out.only hO id)
  have HO7 := Lib.hid (HO6.out.trans hO)
  have HR7 := Lib.hid (HR6.out.only hO id)
  have HX7 : Hid (At w7 gw 3 (iv [0, 0]).toArray) := Lib.hid hx
  clear hO hx hge
  go_wp2_with (fail)
  refine (HGE.out _ HO7.out).mono ?_
  rintro e w8 ⟨rfl, hO⟩
  have HH8 := Lib.hid (HH7.out.only hO id)
  have HV8 := Lib.hid (HV7.out.only hO id)
  have HO8 := Lib.hid (HO7.out.trans hO)
  have HR8 := Lib.hid (HR7.out.only hO id)
  have HX8 := Lib.hid (HX7.out.only hO id)
  clear hO
  go_wp2_with (fail)
  refine (HLN.out _ _ _ _ _ _ _ HR8.out HX8.out.rdIv).mono ?_
  rintro e w9 (⟨_, b, off, c, gb9, rfl, hl, hb1, hb2, hO⟩ | ⟨hno, _⟩)
  case inr => exact absurd HOKN.out hno
  have HH9 := Lib.hid (HH8.out.only hO id)
  have HV9 := Lib.hid (HV8.out.only hO id)
  have HO9 := Lib.hid (HO8.out.trans hO)
  have HL9 := Lib.hid hl
  have HB9 := Lib.hid (Nat.le_trans HO8.out.size hb2)
  clear hO hl hb1 hb2
  go_wp2_with (fail)
  refine (HGE.out _ HO9.out).mono ?_
  rintro e w10 ⟨rfl, hO⟩
  have HH10 := Lib.hid (HH9.out.only hO id)
  have HV10 := Lib.hid (HV9.out.only hO id)
  have HO10 := Lib.hid (HO9.out.trans hO)
  have HL10 := Lib.hid (HL9.out.quiet hO)
  clear hO
  obtain ⟨U, hU⟩ : ∃ U, U = w10 := ⟨_, rfl⟩
  subst hU
  have hfl := fld_blocks 1 1 2 2 1 U
  go_wp2_with (fail)
  clear hfl
  go_loopw [18, 73] (fun v18 v73 wr => (v73 = .int .i64 0 ∧ wr = U) ∨ ((v73 = .int .i64 1 ∨ v73 = .int .i64 2) ∧ At wr mb 142 #[.int .i64 1, .int .i64 1, .int .i64 2, .int .i64 2, .int .i64 1, .int .i64 2, .pointer (some ⟨kt, 0, none⟩), .pointer (some ⟨kw, 0, none⟩), .slice (some ⟨vb, 0, none⟩) 2 2] ∧ At wr vb 3 #[.int .i64 1, .int .i64 0] ∧ Only (fun _ => False) w wr)) (fun _ v73 _ => (2 - intOf v73).toNat)
  case atStart => exact .inl ⟨rfl, rfl⟩
  case round =>
    rcases hrel with ⟨rfl, rfl⟩ | ⟨rfl | rfl, hh, hv, hO⟩
    · go_wp2_with (fail)
      refine ((HVA.out mb kt kw vb _ HH10.out HV10.out).1).mono ?_
      rintro e w11 ⟨rfl, rfl⟩
      go_wp2_with (fail)
      refine (HUS.out b off c gb9 _ _ 0 _ HL10.out).mono ?_
      rintro e w12 ⟨rfl, hl, hO⟩
      have HH11 := Lib.hid (HH10.out.only hO (fun e => HL10.out.row.neAt HH10.out (by simp) (by decide) e.symm))
      have HV11 := Lib.hid (HV10.out.only hO (fun e => HL10.out.row.neAt HV10.out (by simp) (by decide) e.symm))
      have HO11 := Lib.hid (HO10.out.trans' hO (S := fun _ => False) (fun i hi e => by have := HB9.out; omega))
      clear hl hO
      go_wp2_with (fail)
      go_roundw
      case rel => exact .inr ⟨.inl (by simp), HH11.out, HV11.out, HO11.out⟩
      case measure => simp [intOf]
    · have HF := Lib.hid (And.intro hh (And.intro hv hO))
      clear hh hv hO
      go_wp2_with (fail)
      refine ((HVA.out mb kt kw vb _ HF.out.1 HF.out.2.1).2).mono ?_
      rintro e w11 ⟨rfl, rfl⟩
      go_wp2_with (fail)
      go_roundw
      case rel => exact .inr ⟨.inr (by simp), HF.out.1, HF.out.2.1, HF.out.2.2⟩
      case measure => simp [intOf]
    · have HF := Lib.hid (And.intro hh (And.intro hv hO))
      clear hh hv hO
      go_wp2
      (try simp only [Exit.inBlock, Exit.then]); refine bodyPost_ret (results_tmp4 rfl _ _ _) rfl ?_
      exact ⟨mb, kt, kw, vb, b, rfl, HF.out.1, HF.out.2.1, HF.out.2.2⟩
end Go.Proofs.YtjobaplioidogaaGreat

namespace Go.Proofs.YtjobaplioidogaaGreat
open Go.RowKit

set_option maxRecDepth 100000 in
set_option maxHeartbeats 16000000 in
theorem awake_of (S0 S : Int) (h0 : crcL 0 oobL = S0) (h1 : crcL S0 datL = S) (hS : takeL (S % 256) (S / 256 % 256) (S / 65536 % 256) (S / 16777216 % 256) = S) (w : World) :
    Calls Tryz.prog 4 #[] w fun e w' => e = .returned (.bool true) ∧ Only (fun _ => False) w w' := by
  have HN : Hid (∀ W, Calls Tryz.prog 17 #[.agg #[.int .i64 1, .int .i64 1, .int .i64 2, .int .i64 2, .int .i64 1], .slice none 0 0] W fun e w' => ∃ d gb mp pp, e = .returned (.tuple #[.pointer (some ⟨d, 0, none⟩), .int .i64 0]) ∧ NAt w' d gb mp pp gq noBs #[] 0 ∧ (∃ Ap cp, At w' pp 171 #[.slice Ap 0 cp, .int .i64 0]) ∧ (W.heap.size ≤ d ∧ W.heap.size ≤ gb ∧ W.heap.size ≤ mp ∧ W.heap.size ≤ pp) ∧ Only (fun _ => False) W w') := Lib.hid (fun W => by
    refine (nand_walk gq gq_is [] none 0 0 W Rd.nil (by simp)).mono ?_
    rintro e w' (⟨_, d, gb, mp, pp, he, hk, hp, hge, hO⟩ | ⟨⟨z, hz, _⟩, _⟩)
    · exact ⟨d, gb, mp, pp, he, hk, hp, hge, hO⟩
    · simp at hz)
  have HBU := Lib.hid (fun Ad cd gd sb W h h' => build_one S0 S h0 h1 Ad cd gd sb W h h')
  have HPR := Lib.hid (fun d gb mp pp A1 A2 A3 A4 c1 c2 c3 c4 g1 g2 g3 g4 W k Ap cp hp hr1 hr2 hr3 hr4 hne => program_one (lob S) (lob_len S) (bv_one _) d gb mp pp A1 A2 A3 A4 c1 c2 c3 c4 g1 g2 g3 g4 W k Ap cp hp hr1 hr2 hr3 hr4 hne)
  have HMO := Lib.hid (fun d gb mp pp A B c c' g3 g4 W k hr3 hr4 => mount_one S0 S h0 h1 hS d gb mp pp A B c c' g3 g4 W k hr3 hr4)
  have HSE : Hid (∀ W, Calls Tryz.prog 12 #[.int .i64 9] W fun e w' => e = .returned (.slice (some ⟨W.heap.size, 0, none⟩) 16 16) ∧ At w' W.heap.size 5 (bv datL).toArray ∧ Only (fun _ => False) W w') := Lib.hid (fun W => sector_any 9 W)
  have HMA := Lib.hid (fun mb kt kw vb W h h' => many_one mb kt kw vb W h h')
  unfold ProgP at HPR
  unfold MountQ at HMO
  unfold slotV at HBU
  have HLO := Lib.hid (show bv (oobL ++ fixL S) = lob S from rfl)
  rw [HLO.out] at HBU
  generalize bv datL = ld at *
  generalize lob S = ls at *
  clear h0 h1 hS
  go_enter Tryz.func4, Tryz.ntmps4
  go_wp2_with (fail)
  refine (HN.out _).mono ?_
  rintro e w1 ⟨d, gb, mp, pp, rfl, hk, ⟨Ap, cp, hp⟩, hge, hO⟩
  have HK1 := Lib.hid hk
  have HP1 := Lib.hid hp
  have HO1 := Lib.hid hO
  have HG1 := Lib.hid hge
  clear hk hp hO hge
  go_wp2_with (fail)
  refine (HSE.out _).mono ?_
  rintro e w2 ⟨rfl, hA, hO⟩
  have oa := hO.alloc (.cells #[.int .i64 1, .int .i64 1, .int .i64 5, .slice (some ⟨w1.heap.size, 0, none⟩) 16 16, .int .i64 0] 60)
  have HR2 := Lib.hid ((At.rdL hA).only ((Only.refl (fun _ => False) w2).alloc (.cells #[.int .i64 1, .int .i64 1, .int .i64 5, .slice (some ⟨w1.heap.size, 0, none⟩) 16 16, .int .i64 0] 60)) id)
  have HB2 := Lib.hid (At.new w2 60 #[.int .i64 1, .int .i64 1, .int .i64 5, .slice (some ⟨w1.heap.size, 0, none⟩) 16 16, .int .i64 0])
  have HK2 := Lib.hid (HK1.out.quiet oa)
  have HP2 := Lib.hid (HP1.out.only oa id)
  have HO2 := Lib.hid (HO1.out.trans oa)
  clear hA hO oa
  go_wp2_with (fail)
  refine (HBU.out _ _ _ _ _ HR2.out HB2.out).mono ?_
  rintro e w3 ⟨A1, c1, g1, A2, c2, g2, A3, c3, g3, A4, c4, g4, rfl, hge, hr1, hr2, hr3, hr4, hO⟩
  have HR3 := Lib.hid (And.intro hr1 (And.intro hr2 (And.intro hr3 hr4)))
  have HK3 := Lib.hid (HK2.out.quiet hO)
  have HP3 := Lib.hid (HP2.out.only hO id)
  have HO3 := Lib.hid (HO2.out.trans hO)
  have hlt := HK2.out.lts
  have hpl := HP2.out.lt
  have HNE := Lib.hid (show ∀ g, g = g1 ∨ g = g2 ∨ g = g3 ∨ g = g4 → ¬ (g = gb ∨ g = pp ∨ g = mp) by intro g hg; omega)
  clear hge hr1 hr2 hr3 hr4 hO hlt hpl
  go_wp2_with (fail)
  refine (HPR.out d gb mp pp A1 A2 A3 A4 c1 c2 c3 c4 g1 g2 g3 g4 _ HK3.out Ap cp HP3.out HR3.out.1 HR3.out.2.1 HR3.out.2.2.1 HR3.out.2.2.2 HNE.out).mono ?_
  rintro e w4 ⟨rfl, A5, c5, g5, A6, c6, g6, hk, hr5, hr6, hO⟩
  have HK4 := Lib.hid hk
  have HR4 := Lib.hid (And.intro hr5 hr6)
  have HO4 := Lib.hid (HO3.out.trans' hO (S := fun _ => False) (fun i hi e => by have := HG1.out; omega))
  clear hk hr5 hr6 hO
  go_wp2_with (fail)
  refine (HMO.out d gb mp pp A5 A6 c5 c6 g5 g6 _ HK4.out HR4.out.1 HR4.out.2).mono ?_
  rintro e w5 ⟨mb, kt, kw, vb, b, rfl, hh, hv, hO⟩
  have HH := Lib.hid hh
  have HV := Lib.hid hv
  have HO5 := Lib.hid (HO4.out.trans hO)
  clear hh hv hO
  go_wp2_with (fail)
  refine (HMA.out mb kt kw vb _ HH.out HV.out).mono ?_
  rintro e w6 ⟨rfl, rfl⟩
  go_wp2
  go_ret
  exact ⟨rfl, HO5.out⟩

/-- The first word. -/
theorem awake_any (w : World) : Calls Tryz.prog 4 #[] w fun e w' => e = .returned (.bool true) ∧ Only (fun _ => False) w w' :=
  awake_of (crcL 0 oobL) sumV rfl rfl sum_back w
end Go.Proofs.YtjobaplioidogaaGreat

namespace Go.Proofs.YtjobaplioidogaaGreat
open Go.ChangeShapes Go.WideShapes Go.ChangeAt Go.RowKit Go.Deep

/-- What a slice's cell leads to: so many elements of k cells, each with its own reading. -/
theorem cells_slice_any {H : Type} {enc : TypeId × Value → H} {P : Program} {w : World} {spare : Nat → Bool} {held : Bool} {t e : TypeId} {fuel : Nat} {cs : List Value} {x : DataW H × List MemPlace} {k : Nat}
    (ht : P.underlying t = some (.slice e)) (hk : P.cellsOf e = k) (hk0 : 0 < k) (hf : DataW.trod enc P w 0 spare held fuel t cs = some x) :
    ∃ (g c n : Nat) (A : Option Addr) (vs : List Value), cs = [.slice A n c] ∧ n ≤ c ∧ c ≤ maxLen ∧ vs.length = n * k ∧ Rd w g A vs ∧
      ∀ i, i < n → ∃ (fuel : Nat) (x : DataW H × List MemPlace), DataW.trod enc P w 0 spare held fuel e ((vs.drop (i * k)).take k) = some x := by
  rcases Go.Deep.open_slice ht hf with ⟨hcs, _⟩ | ⟨a, len0, cap0, m, n, D, Pl, hcs, hb, hl, hm, hmm, hx, hi⟩
  · exact ⟨0, 0, 0, none, [], hcs, Nat.le_refl _, by simp [maxLen], by simp, .inl rfl, fun i hi => by omega⟩
  · have hlm : len0 ≤ m := by rw [hmm]; split <;> omega
    have hi' : ∀ i, i < len0 → ∃ cs, w.cells? 0 (a.add (i * k)) k = some cs ∧ DataW.trod enc P w 0 spare held n e cs = some (D i, Pl i) := by
      intro i h
      have := hi i (by omega)
      rwa [hk] at this
    let f : Nat → List Value := fun i => (w.cells? 0 (a.add (i * k)) k).getD []
    have hf1 : ∀ i, i < len0 → (f i).length = k := by
      intro i h
      obtain ⟨cs, h1, _⟩ := hi' i h
      obtain ⟨_, h2, _⟩ := World.cells?_some h1
      show ((w.cells? 0 (a.add (i * k)) k).getD []).length = k
      rw [h1]; exact h2
    have hf2 : ∀ i, i < len0 → ∀ r, r < k → w.cell? ((a.add (i * k)).add r) = (f i)[r]? := by
      intro i h r hr
      obtain ⟨cs, h1, _⟩ := hi' i h
      obtain ⟨_, _, h3⟩ := World.cells?_some h1
      show _ = ((w.cells? 0 (a.add (i * k)) k).getD [])[r]?
      rw [h1]; exact h3 r hr
    refine ⟨a.block, cap0, len0, some a, (List.range len0).flatMap f, hcs, hl, hm, flat_length f k len0 hf1, ?_, ?_⟩
    · by_cases h0 : len0 = 0
      · subst h0; exact .inl (by simp)
      · have c0 := hf2 0 (by omega) 0 hk0
        have hfl := hf1 0 (by omega)
        rw [List.getElem?_eq_getElem (by omega)] at c0
        have c0' : w.cell? (a.add 0) = some ((f 0)[0]'(by omega)) := by
          rw [← c0]; simp [Addr.add]
        obtain ⟨b, off, ha, _⟩ := add_spot c0' ⟨_, c0'⟩
        subst ha
        refine .inr ⟨off, rfl, World.block_lt_of_cell? _ _ (by simpa [Addr.add] using c0'), fun j u hu => ?_⟩
        have hj : j < len0 * k := by
          have := (List.getElem?_eq_some_iff.1 hu).1
          rwa [flat_length f k len0 hf1] at this
        have hq : j / k < len0 := Nat.div_lt_of_lt_mul (by rwa [Nat.mul_comm] at hj)
        have hr : j % k < k := Nat.mod_lt _ hk0
        have hjk : j / k * k + j % k = j := Nat.div_add_mod' j k
        have h1 := flat_get f k len0 hf1 (j / k) (j % k) hq hr
        rw [hjk, hu] at h1
        have h2 := hf2 (j / k) hq (j % k) hr
        rw [← h1] at h2
        rw [← h2, Go.Deep.add_add, hjk]
        unfold Addr.add
        split
        · subst j; rfl
        · rfl
    · intro i h
      obtain ⟨cs, h1, h2⟩ := hi' i h
      have he : (((List.range len0).flatMap f).drop (i * k)).take k = cs := by
        have hfi : f i = cs := by show (w.cells? 0 (a.add (i * k)) k).getD [] = cs; rw [h1]; rfl
        apply List.ext_getElem?
        intro r
        by_cases hr : r < k
        · rw [List.getElem?_take, if_pos hr, List.getElem?_drop, flat_get f k len0 hf1 i r h hr, hfi]
        · rw [List.getElem?_take, if_neg hr]
          have := hf1 i h
          rw [hfi] at this
          rw [List.getElem?_eq_none (by omega)]
      exact ⟨n, (D i, Pl i), by rw [he]; exact h2⟩



theorem nums_of {H : Type} {enc : TypeId × Value → H} {w : World} {spare : Nat → Bool} {held : Bool} {t : TypeId} {k : IntKind} (hu : Tryz.prog.underlying t = some (.int k)) (n : Nat) (vs : List Value) (hl : vs.length = n * 1)
    (h : ∀ i, i < n → ∃ (fuel : Nat) (x : DataW H × List MemPlace), DataW.trod enc Tryz.prog w 0 spare held fuel t ((vs.drop (i * 1)).take 1) = some x) : ∃ l : List Int, l.length = n ∧ vs = l.map (Value.int k) := by
  obtain ⟨l, h1, h2, _⟩ := chunks (fun b : Int => [Value.int k b]) 1 (fun _ => rfl) (fun _ => True) n vs hl (fun i hi => by
    obtain ⟨fuel, x, ht⟩ := h i hi
    obtain ⟨b, hb, _⟩ := DataW.trod_int hu ht
    exact ⟨b, trivial, hb⟩)
  exact ⟨l, h1, by rw [h2]; exact List.map_eq_flatMap.symm⟩

set_option maxRecDepth 100000 in
theorem open_setup {H : Type} {enc : TypeId × Value → H} {w : World} {spare : Nat → Bool} {held : Bool} {v : Value} {d : DataW H} {p : List MemPlace} {r : Reach} {b0 : Nat}
    (hv : Value.okWide Tryz.prog w r b0 29 v) (h : DataW.Trod enc Tryz.prog w 0 spare held 29 v d p) :
    ∃ (G : Ge) (s : Sg) (bad pl : List Int) (Ab Ap : Option Addr) (cb cp gs gp : Nat), v = .agg (setV G s Ab bad.length cb Ap pl.length cp) ∧ Rd w gs Ab (bad.map (Value.int .i64)) ∧ Rd w gp Ap (bv pl) := by
  obtain ⟨cs, rfl, hsz⟩ := okWide_struct Tryz.underlying29 hv
  obtain ⟨fuel, hf⟩ := h
  obtain ⟨xs, n, _, _, hl, hlen, hg⟩ := DataW.trod_struct Tryz.underlying29 hf
  obtain ⟨cs⟩ := cs
  have hl' : cs.length = 9 := by rw [← List.size_toArray, hsz]; kernel_rfl
  have hx : xs.length = 4 := by rw [hlen]; rfl
  match cs, hl', xs, hx with
  | [u0, u1, u2, u3, u4, u5, u6, u7, u8], _, [y0, y1, y2, y3], _ =>
    have t0 : DataW.trod enc Tryz.prog w 0 spare held n 23 [u0, u1, u2, u3, u4] = some y0 := hg 0 _ rfl
    have t1 : DataW.trod enc Tryz.prog w 0 spare held n 25 [u5, u6] = some y1 := hg 1 _ rfl
    have t2 : DataW.trod enc Tryz.prog w 0 spare held n 26 [u7] = some y2 := hg 2 _ rfl
    have t3 : DataW.trod enc Tryz.prog w 0 spare held n 27 [u8] = some y3 := hg 3 _ rfl
    obtain ⟨xs0, n0, _, _, _, hlen0, hg0⟩ := DataW.trod_struct Tryz.underlying23 t0
    obtain ⟨xs1, n1, _, _, _, hlen1, hg1⟩ := DataW.trod_struct Tryz.underlying25 t1
    have hx0 : xs0.length = 5 := by rw [hlen0]; rfl
    have hx1 : xs1.length = 2 := by rw [hlen1]; rfl
    match xs0, hx0, xs1, hx1 with
    | [a0, a1, a2, a3, a4], _, [b0, b1], _ =>
      have s0 : DataW.trod enc Tryz.prog w 0 spare held n0 3 [u0] = some a0 := hg0 0 _ rfl
      have s1 : DataW.trod enc Tryz.prog w 0 spare held n0 3 [u1] = some a1 := hg0 1 _ rfl
      have s2 : DataW.trod enc Tryz.prog w 0 spare held n0 3 [u2] = some a2 := hg0 2 _ rfl
      have s3 : DataW.trod enc Tryz.prog w 0 spare held n0 3 [u3] = some a3 := hg0 3 _ rfl
      have s4 : DataW.trod enc Tryz.prog w 0 spare held n0 3 [u4] = some a4 := hg0 4 _ rfl
      have s5 : DataW.trod enc Tryz.prog w 0 spare held n1 3 [u5] = some b0 := hg1 0 _ rfl
      have s6 : DataW.trod enc Tryz.prog w 0 spare held n1 3 [u6] = some b1 := hg1 1 _ rfl
      obtain ⟨z0, h0, _⟩ := DataW.trod_int Tryz.underlying3 s0
      obtain ⟨z1, h1, _⟩ := DataW.trod_int Tryz.underlying3 s1
      obtain ⟨z2, h2, _⟩ := DataW.trod_int Tryz.underlying3 s2
      obtain ⟨z3, h3, _⟩ := DataW.trod_int Tryz.underlying3 s3
      obtain ⟨z4, h4, _⟩ := DataW.trod_int Tryz.underlying3 s4
      obtain ⟨z5, h5, _⟩ := DataW.trod_int Tryz.underlying3 s5
      obtain ⟨z6, h6, _⟩ := DataW.trod_int Tryz.underlying3 s6
      obtain ⟨gg, cg, m0, Ag, vs0, hc0, _, _, hl0, hr0, hi0⟩ := cells_slice_any (k := 1) Tryz.underlying26 (by kernel_rfl) (by omega) t2
      obtain ⟨gw, cw, m1, Aw, vs1, hc1, _, _, hl1, hr1, hi1⟩ := cells_slice_any (k := 1) Tryz.underlying27 (by kernel_rfl) (by omega) t3
      obtain ⟨bad, e0, rfl⟩ := nums_of Tryz.underlying3 m0 vs0 hl0 hi0
      obtain ⟨pl, e1, rfl⟩ := nums_of Tryz.underlying5 m1 vs1 hl1 hi1
      simp at hc0 hc1 h0 h1 h2 h3 h4 h5 h6
      exact ⟨⟨z0, z1, z2, z3, z4⟩, ⟨z5, z6⟩, bad, pl, Ag, Aw, cg, cw, gg, gw, by rw [h0, h1, h2, h3, h4, h5, h6, hc0, hc1, e0, e1]; rfl, hr0, hr1⟩

set_option maxRecDepth 100000 in
theorem open_puts {H : Type} {enc : TypeId × Value → H} {w : World} {spare : Nat → Bool} {held : Bool} {v : Value} {d : DataW H} {p : List MemPlace} {r : Reach} {b0 : Nat}
    (hv : Value.okWide Tryz.prog w r b0 30 v) (h : DataW.Trod enc Tryz.prog w 0 spare held 30 v d p) :
    ∃ (g c : Nat) (A : Option Addr) (l : List (Int × Int)), v = .slice A l.length c ∧ Rd w g A (pv l) := by
  obtain ⟨g, c, n, A, vs, rfl, hn, hm, hl, hr, hi⟩ := open_slice_any (k := 2) Tryz.underlying30 (by kernel_rfl) (by omega) hv h
  obtain ⟨l, h1, h2, _⟩ := chunks (fun z : Int × Int => [Value.int .i64 z.1, Value.int .i64 z.2]) 2 (fun _ => rfl) (fun _ => True) n vs hl (fun i hin => by
    obtain ⟨fuel, x, ht⟩ := hi i hin
    generalize (vs.drop (i * 2)).take 2 = cs at ht
    obtain ⟨xs, m, _, _, hcl, hlen, hg⟩ := DataW.trod_struct Tryz.underlying40 ht
    have hcl' : cs.length = 2 := by rw [hcl]; kernel_rfl
    have hx : xs.length = 2 := by rw [hlen]; rfl
    match cs, hcl', xs, hx with
    | [u0, u1], _, [y0, y1], _ =>
      have t0' : DataW.trod enc Tryz.prog w 0 spare held m 3 [u0] = some y0 := hg 0 _ rfl
      have t1' : DataW.trod enc Tryz.prog w 0 spare held m 3 [u1] = some y1 := hg 1 _ rfl
      obtain ⟨z0, hz0, _⟩ := DataW.trod_int Tryz.underlying3 t0'
      obtain ⟨z1, hz1, _⟩ := DataW.trod_int Tryz.underlying3 t1'
      simp at hz0 hz1
      exact ⟨(z0, z1), trivial, by simp [hz0, hz1]⟩)
  subst h1
  subst h2
  exact ⟨g, c, A, l, rfl, hr⟩

/-- TopReadOnly answers true. -/
theorem top_read_only (G : Ge) (s : Sg) (bad pl : List Int) (Ab Ap : Option Addr) (cb cp gs gp : Nat) (l : List (Int × Int)) (Al : Option Addr) (cl gl : Nat) (w : World)
    (hr : Rd w gs Ab (bad.map (Value.int .i64))) (hp : Rd w gp Ap (bv pl)) (hl : Rd w gl Al (pv l)) :
    Calls Tryz.prog 3 #[.agg (setV G s Ab bad.length cb Ap pl.length cp), .slice Al l.length cl] w fun e w' => e = .returned (.bool true) ∧ Below w.heap.size w w' := by
  refine (top_walk G s bad Ab cb gs pl Ap cp gp l Al cl gl w hr hp hl awake_any).mono ?_
  rintro e w' ⟨he, hO⟩
  exact ⟨he, hO.below (Nat.le_refl _) (fun _ _ => id)⟩
end Go.Proofs.YtjobaplioidogaaGreat
