/- Top: Mount of a device that holds nothing. -/
import Derived.Test.YtjobaplioidogaaGreatX
namespace Go.Proofs.YtjobaplioidogaaGreat
open Go.RowKit

theorem results_tmp4 {fn : Func} {t u v x : Tmp} (h : fn.results = #[.tmp t, .tmp u, .tmp v, .tmp x]) (tmps : Array Value) (P : Program) (w : World) :
    (results fn tmps).run P w = .ok (.tuple #[tmps.getD t undef, tmps.getD u undef, tmps.getD v undef, tmps.getD x undef]) w := by
  simp [results, h]

theorem RowAt.rd' {w : World} {A : Option Addr} {n c g : Nat} {e : TypeId} {sz : Nat} {xs : List Value} (h : RowAt w A n c g e sz xs) : Rd w g A xs := h.rd

theorem MAt.weak {w : World} {mb kt kw vb n lo : Nat} {G : Ge} {st sw : Nat → Sh} {E : Nat → En} {F : Nat → Int} {vs : List Int} (k : MAt w mb kt kw vb G n st sw E F vs lo) {lo' : Nat} (h : lo' ≤ lo) : MAt w mb kt kw vb G n st sw E F vs lo' :=
  ⟨k.hd, k.tt.weak h, k.who.weak h, k.val, k.is, k.len, k.nt, k.nw, Nat.le_trans h k.ge.1, Nat.le_trans h k.ge.2.1, Nat.le_trans h k.ge.2.2.1, Nat.le_trans h k.ge.2.2.2⟩
theorem At.rdIv {w : World} {g : Nat} {xs : List Int} (h : At w g 3 (iv xs).toArray) : Rd w g (some ⟨g, 0, none⟩) (iv xs) :=
  .inr ⟨0, rfl, h.lt, fun j u hu => by rw [Nat.zero_add, h.cell]; simpa using hu⟩

/-- The lines of a device: so many good blocks each, none erased yet. -/
def mountL (G : Ge) (l : List Bk) : List Ln := newL (goodsL G.b.toNat l G.u.toNat G.b.toNat) (List.replicate G.b.toNat 0) G.b.toNat
theorem newOk_mount {G : Ge} (hI : G.Is) (l : List Bk) : newOk G (goodsL G.b.toNat l G.u.toNat G.b.toNat) (List.replicate G.b.toNat 0) := by
  have hb := hI.b
  have hu : 1 ≤ G.u ∧ G.u ≤ 8 := hI.u
  refine ⟨hI.ok, by rw [goodsL_len]; omega, by rw [List.length_replicate]; omega, fun i hi => ?_⟩
  rw [goodsL_len] at hi
  have hw : (List.replicate G.b.toNat (0 : Int)).getD i 0 = 0 := by simp only [List.getD, List.getElem?_replicate]; rw [if_pos hi]; rfl
  have hg : ∀ k, i < k → (goodsL G.b.toNat l G.u.toNat k).getD i 0 = goodTo G.b.toNat l i G.u.toNat := by
    intro k
    induction k with
    | zero => intro h; omega
    | succ k ih =>
      intro h
      simp only [goodsL, List.getD]
      by_cases hk : i < k
      · rw [List.getElem?_append_left (by rw [goodsL_len]; exact hk)]
        exact ih hk
      · obtain rfl : i = k := by omega
        rw [List.getElem?_append_right (by rw [goodsL_len]; exact Nat.le_refl _), goodsL_len]
        simp
  rw [hw, hg _ hi]
  have := goodTo_bd G.b.toNat l i G.u.toNat
  omega

theorem fld_blocks (a b c d e : Int) (W : World) : (Instr.field 23 (.agg #[.int .i64 a, .int .i64 b, .int .i64 c, .int .i64 d, .int .i64 e]) 2).run Tryz.prog W = .ok (.int .i64 c) W := by kernel_rfl

def MountP (G : Ge) (l : List Bk) (n : Nat) (w : World) (e : Ending) (w' : World) : Prop :=
  ∃ mb kt kw vb st sw b off c gb, e = .returned (.tuple #[.pointer (some ⟨mb, 0, none⟩), .pointer (some ⟨b, 0, none⟩), .int .i64 0, .int .i64 0]) ∧
    MAt w' mb kt kw vb G n st sw (fun _ => ⟨-1, 0, 0⟩) (fun _ => 0) (List.replicate G.b.toNat 0) w.heap.size ∧ LAt w' b G (mountL G l) off c gb (-1) ∧ w.heap.size ≤ b ∧ w.heap.size ≤ gb ∧ Only (fun _ => False) w w'

set_option maxRecDepth 100000 in
set_option maxHeartbeats 8000000 in
theorem mount_none (d gb mp pp : Nat) (G : Ge) (l : List Bk) (ck n : Nat) (h1 : 1 ≤ n ∧ n ≤ 4096) (h2 : (n : Int) ≤ G.al) (w : World) (k : NAt w d gb mp pp G l #[] ck) :
    Calls Tryz.prog 20 #[.pointer (some ⟨d, 0, none⟩), .int .i64 n] w (MountP G l n w) := by
  have hI := k.is
  have HGE := Lib.hid (fun W (o : Only (fun _ => False) w W) => geometry_any d gb mp pp G l #[] ck W (k.quiet o))
  have HSC := Lib.hid (fun W (o : Only (fun _ => False) w W) => scan_none d gb mp pp G l ck W (k.quiet o))
  have HGO := Lib.hid (fun W (o : Only (fun _ => False) w W) => goods_any d gb mp pp G l #[] ck W (k.quiet o))
  have HWE := Lib.hid (fun W (o : Only (fun _ => False) w W) => wears_none d gb mp pp G l ck W (k.quiet o))
  have HNM := Lib.hid (fun W => newMap_any G hI n h1 h2 W)
  have HNE := Lib.hid (fun W => newest_none n h1 W)
  have HLA := Lib.hid (fun v g W (h : At W g 163 (ecs (List.replicate n ⟨-1, 0, 0⟩)).toArray) => lay_none v n g n W h (by omega))
  have HLN := Lib.hid (fun Ag Aw cg cw gg gw W (h : Rd W gg Ag (iv (goodsL G.b.toNat l G.u.toNat G.b.toNat))) (h' : Rd W gw Aw (iv (List.replicate G.b.toNat 0))) => new_any G hI.wf _ _ Ag Aw cg cw gg gw W h h')
  have HOKN := Lib.hid (newOk_mount hI l)
  have hbb := hI.b
  have HNT : Hid ((List.replicate G.b.toNat (0 : Int)).length = G.b.toNat) := Lib.hid List.length_replicate
  have HGL := Lib.hid (goodsL_len G.b.toNat l G.u.toNat G.b.toNat)
  have HBN : Hid (G.b = G.b.toNat) := Lib.hid (by omega)
  clear k hI h2
  unfold NewMapP at HNM
  unfold NewestP at HNE
  unfold GoodsP at HGO
  unfold WearsP at HWE
  unfold NewP at HLN
  unfold MountP mountL
  rw [HNT.out, HGL.out] at HLN
  unfold Ge.val at *
  generalize goodsL G.b.toNat l G.u.toNat G.b.toNat = gl at *
  have HZ := Lib.hid (zeros_iv G.b.toNat)
  generalize G.b.toNat = bn at *
  rw [HBN.out] at HGE HNM HLN
  have hbn : 1 ≤ bn ∧ bn ≤ 64 := by have := HBN.out; omega
  clear hbb
  go_enter Tryz.func20, Tryz.ntmps20
  go_wp2_with (fail)
  refine (HGE.out _ (Only.refl _ _)).mono ?_
  rintro e w1 ⟨rfl, hO1⟩
  go_wp2_with (fail)
  refine (HNM.out _).mono ?_
  rintro e w2 ⟨mb, kt, kw, vb, st, sw, rfl, hm, hO2⟩
  have HM2 := Lib.hid (hm.weak hO1.size)
  have HO2 := Lib.hid (hO1.trans hO2)
  clear hm hO1 hO2
  go_wp2_with (fail)
  refine (HSC.out _ HO2.out).mono ?_
  rintro e w3 ⟨rfl, hO⟩
  have HM3 := Lib.hid (HM2.out.quiet hO)
  have HO3 := Lib.hid (HO2.out.trans hO)
  clear hO HM2 HO2
  go_wp2_with (fail)
  refine (HNE.out _).mono ?_
  rintro e w4 ⟨g4, rfl, hx, hge, hO⟩
  have HM4 := Lib.hid (HM3.out.quiet hO)
  have HO4 := Lib.hid (HO3.out.trans hO)
  have HX := Lib.hid hx
  clear hO hx hge HM3 HO3
  go_wp2_with (fail)
  refine (HLA.out _ _ _ HX.out).mono ?_
  rintro e w5 ⟨rfl, hO⟩
  have HM5 := Lib.hid (HM4.out.quiet hO)
  have HO5 := Lib.hid (HO4.out.trans hO)
  clear hO HM4 HO4
  go_wp2_with (fail)
  refine (HGO.out _ HO5.out).mono ?_
  rintro e w6 ⟨Ag, cg, gg, rfl, hrow, hge, hO⟩
  have HM6 := Lib.hid (HM5.out.quiet hO)
  have HO6 := Lib.hid (HO5.out.trans hO)
  have HR6 := Lib.hid hrow
  clear hO hrow hge HM5 HO5
  go_wp2_with (fail)
  refine (HWE.out _ HO6.out).mono ?_
  rintro e w7 ⟨gw, rfl, hx, hge, hO⟩
  rw [HZ.out] at hx
  have HM7 := Lib.hid (HM6.out.quiet hO)
  have HO7 := Lib.hid (HO6.out.trans hO)
  have HR7 := Lib.hid (HR6.out.only hO (fun _ => id))
  have HX7 := Lib.hid hx
  clear hO hx hge HM6 HO6 HR6
  go_wp2_with (fail)
  refine (HGE.out _ HO7.out).mono ?_
  rintro e w8 ⟨rfl, hO⟩
  have HM8 := Lib.hid (HM7.out.quiet hO)
  have HO8 := Lib.hid (HO7.out.trans hO)
  have HR8 := Lib.hid (HR7.out.only hO (fun _ => id))
  have HX8 := Lib.hid (HX7.out.only hO id)
  clear hO HM7 HO7 HR7 HX7
  go_wp2_with (fail)
  refine (HLN.out _ _ _ _ _ _ _ HR8.out.rd HX8.out.rdIv).mono ?_
  rintro e w9 (⟨_, b, off, c, gb9, rfl, hl, hb1, hb2, hO⟩ | ⟨hno, _⟩)
  case inr => exact absurd HOKN.out hno
  have HM9 := Lib.hid (HM8.out.quiet hO)
  have HO9 := Lib.hid (HO8.out.trans hO)
  have HL9 := Lib.hid hl
  have HB9 := Lib.hid (And.intro (Nat.le_trans HO8.out.size hb1) (Nat.le_trans HO8.out.size hb2))
  clear hO hl hb1 hb2 HM8 HO8
  go_wp2_with (fail)
  refine (HGE.out _ HO9.out).mono ?_
  rintro e w10 ⟨rfl, hO⟩
  have HM10 := Lib.hid (HM9.out.quiet hO)
  have HO10 := Lib.hid (HO9.out.trans hO)
  have HL10 := Lib.hid (HL9.out.quiet hO)
  clear hO HM9 HO9 HL9
  obtain ⟨U, hU⟩ : ∃ U, U = w10 := ⟨_, rfl⟩
  subst hU
  have hfl := fld_blocks G.c G.l bn G.p G.s U
  go_wp2_with (fail)
  clear hfl
  go_loopw [18, 73] (fun v18 v73 wr => ∃ i : Nat, i ≤ bn ∧ v73 = .int .i64 i ∧ wr = U) (fun _ v73 _ => (bn - intOf v73).toNat)
  case atStart => exact ⟨0, by omega, rfl, rfl⟩
  case round =>
    obtain ⟨i, hi, rfl, rfl⟩ := hrel
    by_cases hin : i < bn
    · have i1 : (i : Int) < bn := by omega
      have HV := Lib.hid (valid_any mb kt kw vb n i _ G st sw _ _ _ wr HM10.out (by rw [List.length_replicate]; exact hin))
      rw [List.getElem_replicate] at HV
      go_wp2_with (fail)
      refine HV.out.mono ?_
      rintro e w11 ⟨rfl, rfl⟩
      go_wp2
      go_roundw
      case rel => exact ⟨i + 1, by omega, by simp, by trivial⟩
      case measure => simp [intOf]; omega
    · obtain rfl : i = bn := by omega
      have i1 : decide ((i : Int) < i) = false := by simp
      go_wp2
      (try simp only [Exit.inBlock, Exit.then]); refine bodyPost_ret (results_tmp4 rfl _ _ _) rfl ?_
      exact ⟨mb, kt, kw, vb, st, sw, b, off, c, gb9, rfl, HM10.out, HL10.out, HB9.out.1, HB9.out.2, HO10.out⟩
end Go.Proofs.YtjobaplioidogaaGreat
