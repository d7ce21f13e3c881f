/- Sched: SchedFair: the walk. -/
import Derived.Test.YtcbgobgicknhiaaO
namespace Go.Proofs.Ytcbgobgicknhiaa
open Go.RowKit

/-- Who is ready when who is always. -/
def fr (rd : List Bool) (who k : Nat) : Bool := decide (k = who) || rd.getD k false
def frTo (rd : List Bool) (who n j : Nat) : List Bool := (List.range n).map fun k => if k < j then fr rd who k else false
theorem frTo_len (rd : List Bool) (who n j : Nat) : (frTo rd who n j).length = n := by simp [frTo]
theorem frTo_zero (rd : List Bool) (who n : Nat) : frTo rd who n 0 = List.replicate n false := by
  apply List.ext_getElem
  · simp [frTo]
  · intro i h1 h2; simp [frTo]
theorem frTo_succ (rd : List Bool) (who n j : Nat) : (frTo rd who n j).set j (fr rd who j) = frTo rd who n (j + 1) := by
  apply List.ext_getElem
  · simp [frTo]
  · intro i h1 h2
    rw [List.getElem_set]
    simp only [frTo, List.getElem_map, List.getElem_range]
    by_cases hij : j = i
    · subst hij; simp
    · rw [if_neg hij]
      by_cases h3 : i < j
      · rw [if_pos h3, if_pos (by omega)]
      · rw [if_neg h3, if_neg (by omega)]
theorem frTo_old {rd : List Bool} {who n j : Nat} (h : j < n) : (frTo rd who n j)[j]'(by rw [frTo_len]; exact h) = false := by simp [frTo]
theorem frTo_who {rd : List Bool} {who n : Nat} (h : who < n) : (frTo rd who n n).getD who false = true := by
  simp [List.getD, frTo, fr, h]

/-- One scheduler; since when who was not picked. -/
structure FairAt (w : World) (b g : Nat) (n : Nat) (p : Int) (who : Nat) (ws : List Int) (k : Nat) (wr : World) : Prop where
  s : SAt wr b g 47 ws p
  len : ws.length = n
  bd : bound ws (k : Int)
  fair : Fair ws p n
  only : Only (fun i => w.heap.size ≤ i) w wr

set_option maxRecDepth 100000 in
set_option maxHeartbeats 8000000 in
theorem schedFair_walk (x0 x1 x2 : Int) (gA cA : Nat) (A : Option Addr) (l : List Opn) (w : World) (hr : Rd w gA A (ov l)) (hok : ∀ o ∈ l, o.Ok w) :
    Calls Try.prog 6 #[.agg #[.int .i64 x0, .int .i64 x1, .int .i64 x2], .slice A l.length cA] w fun e w' => e = .returned (.bool true) ∧ Below w.heap.size w w' := by
  have HR := Lib.hid hr
  have HOK := Lib.hid hok
  clear hr hok
  go_enter Try.func6, Try.ntmps6
  go_wp2_with (fail)
  refine (awake_any _).mono ?_
  rintro e w0 ⟨rfl, hO⟩
  have q1 := (At.new w 40 #[.int .i64 x0, .int .i64 x1, .int .i64 x2]).only hO id
  have hO0 : Only (fun i => w.heap.size ≤ i) w w0 := ((Only.refl (fun _ => False) w).alloc _).toOld _ |>.trans (hO.toOld _)
  have c0 := q1.cell 0
  have c1 := q1.cell 1
  have c2 := q1.cell 2
  simp at c0 c1 c2
  have HO0 := Lib.hid hO0
  clear q1 hO hO0
  go_wp2_with (fail)
  go_region
  have HO1 : Hid (Only (fun i => w.heap.size ≤ i) w w0.drew) := HO0.out.drew
  clear c0 c1 c2
  rcases hb : badN x0 x1 with _ | _
  · obtain ⟨h1, h2, h3, h4⟩ := good_of hb
    obtain ⟨n, rfl⟩ := Int.eq_ofNat_of_zero_le (show 0 ≤ x0 by omega)
    have HB := Lib.hid hb
    clear hb
    go_wp2_with (fail)
    refine (new_good n x1 _ HB.out).mono ?_
    rintro e w1 ⟨b, g, rfl, hb, hg, hbg, hS, hO⟩
    have HOn : Hid (Only (fun i => w.heap.size ≤ i) w w1) := HO1.out.trans (hO.toOld _)
    have HQ : Hid (b ≠ g ∧ w.heap.size ≤ g ∧ w.heap.size ≤ b) := by
      have := HO1.out.size
      exact ⟨hbg, by omega, by omega⟩
    have HS := Lib.hid hS
    clear hS hO HO0 HO1 hb hg hbg
    by_cases hy : x2 < 0
    · go_wp2
      go_ret
      exact ⟨rfl, HOn.out.below (Nat.le_refl _) (fun i hi h => by omega)⟩
    · obtain ⟨who, rfl⟩ := Int.eq_ofNat_of_zero_le (show 0 ≤ x2 by omega)
      clear hy
      by_cases hy2 : n ≤ who
      · go_wp2
        go_ret
        exact ⟨rfl, HOn.out.below (Nat.le_refl _) (fun i hi h => by omega)⟩
      · have hwn : who < n := by omega
        have HI : Hid (FairAt w b g n x1 who (List.replicate n 0) 0 w1) := ⟨HS.out, by simp, bound_zero n, fair_zero n n h3, HOn.out⟩
        have Hw0 : Hid ((List.replicate n (0 : Int)).getD who 0 = 0) := Lib.hid (by simp [List.getD, List.getElem?_replicate]; try (split <;> rfl))
        obtain ⟨i0, hi0, hz0, hz1, hz2⟩ := info_parts Try.info4
        have hmk := fun W => run_make_one (P := Try.prog) Try.underlying33 hi0 hz0 rfl hz1 n (by rw [hz2]; omega) (by omega) W
        have Hmk := Lib.hid hmk
        have hdn : decide (n ≤ who) = false := decide_eq_false (by omega)
        have hd0 : decide ((who : Int) < 0) = false := decide_eq_false (by omega)
        clear hmk hy2 HS HOn
        go_wp2
        go_loopw [11, 12] (fun s v wr => ∃ k : Nat, k ≤ l.length ∧ k ≤ 300 ∧ v = .int .i64 k ∧ ∃ ws, s = .int .i64 (ws.getD who 0) ∧ FairAt w b g n x1 who ws k wr) (fun _ v _ => l.length - (intOf v).toNat)
        case atStart => exact ⟨0, by omega, by omega, rfl, _, by rw [Hw0.out], HI.out⟩
        case round =>
          clear HI Hw0
          obtain ⟨k, hk, hk3, rfl, ws, rfl, hI⟩ := hrel
          have HI := Lib.hid hI
          clear hI
          have Hfb := Lib.hid (fair_bound HI.out.fair hwn)
          have Hbd : Hid (0 ≤ ws.getD who 0 ∧ ws.getD who 0 ≤ (k : Int)) := by
            have hww : who < ws.length := by rw [HI.out.len]; exact hwn
            have := HI.out.bd _ (List.getElem_mem hww)
            exact Lib.hid (by simpa [List.getD, hww] using this)
          by_cases h1 : k < l.length
          · by_cases h3' : k < 300
            · obtain ⟨off, rfl, hgA, hc0, hc1⟩ := op_cells HR.out HI.out.only h1
              have hok := HOK.out _ (List.getElem_mem h1)
              generalize l[k] = o at *
              have Hok := Lib.hid hok
              have hgaw : gA < wr.heap.size := Nat.lt_of_lt_of_le hgA HI.out.only.size
              obtain ⟨gR, hgR⟩ : ∃ gR, gR = wr.heap.size := ⟨_, rfl⟩
              have hmk := Hmk.out wr
              rw [← ob_zero] at hmk
              have q0 := At.new wr 4 (ob (List.replicate n false))
              rw [← hgR] at q0
              have hW : Only (fun _ => False) wr (wr.alloc (.cells (ob (List.replicate n false)) 4)) := (Only.refl _ _).alloc _
              obtain ⟨wz, hwz⟩ : ∃ wz, wz = wr.alloc (.cells (ob (List.replicate n false)) 4) := ⟨_, rfl⟩
              have HZ : Hid (At wz gR 4 (ob (List.replicate n false)) ∧ SAt wz b g 47 ws x1 ∧ Only (fun i => w.heap.size ≤ i) w wz ∧ Only (fun _ => False) wr wz) := by
                rw [hwz]; exact ⟨q0, HI.out.s.only hW id id, HI.out.only.alloc _, hW⟩
              have HG : Hid (gA < gR ∧ b < gR ∧ g < gR ∧ w.heap.size ≤ gR) := by
                have := HI.out.only.size
                rw [hgR]; exact ⟨hgaw, HI.out.s.st.lt, HI.out.s.row.lt, by omega⟩
              have Hc : Hid (wr.cell? ⟨gA, off + k * 2, none⟩ = some (.slice o.A o.rd.length o.c) ∧ wr.cell? ⟨gA, off + k * 2 + 1, none⟩ = some (.int .i64 o.want)) := ⟨hc0, hc1⟩
              clear q0 hW hc0 hc1 hok
              go_wp2
              rw [← hwz, ← hgR]
              clear hwz hgR hmk
              go_loopw [14] (fun v wr => ∃ j : Nat, j ≤ n ∧ v = .int .i64 j ∧ At wr gR 4 (ob (frTo o.rd who n j)) ∧ Only (fun i => i = gR) wz wr) (fun v _ => n - (intOf v).toNat)
              case atStart => exact ⟨0, by omega, rfl, by rw [frTo_zero]; exact HZ.out.1, Only.refl _ _⟩
              case round =>
                obtain ⟨j, hj, rfl, hrow, hOr⟩ := hrel
                have hg1 := HG.out.1
                have d0 : wr.cell? ⟨gA, off + k * 2, none⟩ = some (.slice o.A o.rd.length o.c) := ((hOr.cell (p := ⟨gA, off + k * 2, none⟩) (Nat.lt_of_lt_of_le hgaw HZ.out.2.2.2.size) (by intro e; have e' : gA = gR := e; omega)).trans (HZ.out.2.2.2.cell (p := ⟨gA, off + k * 2, none⟩) hgaw id)).trans Hc.out.1
                have d1 : wr.cell? ⟨gA, off + k * 2 + 1, none⟩ = some (.int .i64 o.want) := ((hOr.cell (p := ⟨gA, off + k * 2 + 1, none⟩) (Nat.lt_of_lt_of_le hgaw HZ.out.2.2.2.size) (by intro e; have e' : gA = gR := e; omega)).trans (HZ.out.2.2.2.cell (p := ⟨gA, off + k * 2 + 1, none⟩) hgaw id)).trans Hc.out.2
                by_cases h5 : j < n
                · have f1 := hrow.frozen j
                  have f2 := hrow.cell j
                  rw [ob_get (by rw [frTo_len]; exact h5), frTo_old h5] at f2
                  have hrow2 := hrow.set j (.bool (fr o.rd who j))
                  rw [ob_set, frTo_succ] at hrow2
                  have Hrow2 : Hid (At (wr.setCell ⟨gR, j, none⟩ (.bool (fr o.rd who j))) gR 4 (ob (frTo o.rd who n (j + 1))) ∧ Only (fun k => k = gR) wz (wr.setCell ⟨gR, j, none⟩ (.bool (fr o.rd who j)))) := ⟨hrow2, hOr.setCell (fun _ => rfl) _⟩
                  have i1 : (0 : Int) ≤ (j : Int) := by omega
                  have i2 : (j : Int) < (n : Int) := by omega
                  by_cases hjw : j = who
                  · have hfr : fr o.rd who j = true := by simp [fr, hjw]
                    rw [hfr] at Hrow2
                    have e0 : ((j : Int) == (who : Int)) = true := by simp [hjw]
                    clear hrow hrow2 hOr hjw hfr
                    go_wp2
                    go_roundw
                    case rel => exact ⟨j + 1, by omega, by simp, Hrow2.out.1, Hrow2.out.2⟩
                    case measure => simp [intOf]; omega
                  · have e0 : ((j : Int) == (who : Int)) = false := beq_false_of_ne (by omega)
                    by_cases hjl : j < o.rd.length
                    · obtain ⟨⟨gr, hrd, hgr⟩, _, _⟩ := Hok.out
                      have hl2 : (bl o.rd).length = o.rd.length := by simp
                      obtain ⟨offr, hAo, hgrl, hrc⟩ := hrd.at (by intro e; rw [e] at hl2; simp at hl2; omega)
                      have hfr : fr o.rd who j = o.rd[j] := by simp [fr, hjw, List.getD, hjl]
                      rw [hfr] at Hrow2
                      have hO2 : Only (fun i => w.heap.size ≤ i) w wr := HZ.out.2.2.1.trans' hOr (by rintro i hi rfl; exact HG.out.2.2.2)
                      have d2 : wr.cell? ⟨gr, offr + j, none⟩ = some (.bool o.rd[j]) := (hO2.cell (p := ⟨gr, offr + j, none⟩) hgrl (by simpa using hgrl)).trans (hrc j _ (by simp [hjl]))
                      have hjl2 : (j : Int) < (o.rd.length : Int) := by omega
                      rw [hAo] at d0
                      have Hjw := Lib.hid hjw
                      clear hrow hrow2 hOr hjw hfr hrd hgr hl2 hrc hAo hO2
                      generalize o.rd[j] = is at *
                      go_wp2
                      go_roundw
                      case rel => exact ⟨j + 1, by omega, by simp, Hrow2.out.1, Hrow2.out.2⟩
                      case measure => simp [intOf]; omega
                    · have hfr : fr o.rd who j = false := by simp [fr, hjw, List.getD, List.getElem?_eq_none (show o.rd.length ≤ j by omega)]
                      rw [hfr] at Hrow2
                      have hjl2 : ¬ (j : Int) < (o.rd.length : Int) := by omega
                      clear hrow hrow2 hOr hjw hfr
                      go_wp2
                      go_roundw
                      case rel => exact ⟨j + 1, by omega, by simp, Hrow2.out.1, Hrow2.out.2⟩
                      case measure => simp [intOf]; omega
                · obtain rfl : n = j := by omega
                  have hsw := HZ.out.2.1.only hOr (by have := HG.out; omega) (by have := HG.out; omega)
                  have hwl := HI.out.len
                  obtain ⟨rd, hrd⟩ : ∃ rd, rd = frTo o.rd who n n := ⟨_, rfl⟩
                  have hrl : rd.length = n := by rw [hrd]; exact frTo_len _ _ _ _
                  have hrw : rd.getD who false = true := by rw [hrd]; exact frTo_who hwn
                  rw [← hrd] at hrow
                  have hnn : noneP ws rd = false := noneP_false (by rw [hrl, hwl]) hrw (by omega)
                  have hiw := whoF_is (pat := x1) (want := o.want) hnn
                  obtain ⟨v, hv⟩ : ∃ v, v = whoF ws rd x1 o.want := ⟨_, rfl⟩
                  rw [← hv] at hiw
                  have Hpk := Lib.hid (pk_who hnn hiw)
                  have hp0 := pick_any b g gR n (some ⟨gR, 0, none⟩) ws rd x1 o.want k wr hsw HQ.out.1 (by omega) (by have := HG.out; omega) (.inr ⟨0, rfl, hrow.lt, fun j u hu => by rw [Nat.zero_add, hrow.cell j]; simpa [ob] using hu⟩) (by omega) HI.out.bd (by omega)
                  rw [hrl] at hp0
                  have Hp := Lib.hid hp0
                  have Hfair := Lib.hid (fair_step HI.out.fair hwl h3 (by rw [hrl, hwl]) hiw)
                  have hbs := bound_step HI.out.bd (by omega) rd v
                  have HF : Hid (bound (stepWN ws rd v) ((k + 1 : Nat) : Int) ∧ (stepWN ws rd v).length = n ∧ Only (fun i => w.heap.size ≤ i) w wr) := ⟨by simpa using hbs, by rw [stepWN_len]; exact hwl, HZ.out.2.2.1.trans' hOr (by rintro i hi rfl; exact HG.out.2.2.2)⟩
                  have hat : (stepWN ws rd v).getD who 0 = if who = v then 0 else ws.getD who 0 + 1 := by
                    rw [stepWN_at (by omega)]
                    by_cases hc : who = v
                    · rw [if_pos (.inl hc), if_pos hc]
                    · rw [if_neg (by rw [hrw]; simp [hc]), if_neg hc]
                  have hwi : waitI (stepWN ws rd v) who = (stepWN ws rd v).getD who 0 := by simp [waitI]
                  have Hat := Lib.hid hat
                  have Hwi := Lib.hid hwi
                  have hsb : ws.getD who 0 + 1 ≤ x1 + n := by have := Hfb.out; omega
                  have hs0 := Hbd.out.1
                  have hs1 := Hbd.out.2
                  clear hp0 hrd hrw hnn hiw hv hsw hwl hrow hOr hbs hat hwi Hfb Hbd
                  generalize ws.getD who 0 = since at *
                  have e2 : decide (x1 + (n : Int) < since + 1) = false := decide_eq_false (by omega)
                  go_wp2_with (fail)
                  refine Hp.out.mono ?_
                  unfold PkPost
                  rw [Hpk.out]
                  rintro e wx ⟨rfl, hSx, hOx⟩
                  have HFx : Hid (FairAt w b g n x1 who (stepWN ws rd v) (k + 1) wx) := ⟨hSx, HF.out.2.1, HF.out.1, Hfair.out, HF.out.2.2.trans' hOx (by rintro i hi rfl; exact HQ.out.2.1)⟩
                  have Hw := Lib.hid (waits_any b g (stepWN ws rd v) x1 who wx hSx)
                  rw [Hwi.out] at Hw
                  clear hSx hOx Hp Hpk HF Hfair d0 d1
                  by_cases hc : who = v
                  · have hz := Hat.out
                    rw [if_pos hc] at hz
                    have Hz := Lib.hid hz
                    rw [hz] at Hw
                    have e3 : ((v : Int) == (who : Int)) = true := by simp [hc]
                    clear hz hc Hat
                    go_wp2_with (fail)
                    refine Hw.out.mono ?_
                    rintro e wy ⟨rfl, hOy⟩
                    have HFy : Hid (FairAt w b g n x1 who (stepWN ws rd v) (k + 1) wy) := ⟨HFx.out.s.only hOy id id, HFx.out.len, HFx.out.bd, HFx.out.fair, HFx.out.only.trans (hOy.toOld _)⟩
                    clear hOy Hw HFx
                    go_wp2
                    go_roundw
                    case rel => exact ⟨k + 1, by omega, by omega, by simp, _, by rw [Hz.out], HFy.out⟩
                    case measure => simp [intOf]; omega
                  · have hz := Hat.out
                    rw [if_neg hc] at hz
                    have Hz := Lib.hid hz
                    rw [hz] at Hw
                    have e3 : ((v : Int) == (who : Int)) = false := beq_false_of_ne (by omega)
                    have e4 : ((since + 1 : Int) != since + 1) = false := by simp
                    clear hz hc Hat
                    go_wp2_with (fail)
                    refine Hw.out.mono ?_
                    rintro e wy ⟨rfl, hOy⟩
                    have HFy : Hid (FairAt w b g n x1 who (stepWN ws rd v) (k + 1) wy) := ⟨HFx.out.s.only hOy id id, HFx.out.len, HFx.out.bd, HFx.out.fair, HFx.out.only.trans (hOy.toOld _)⟩
                    clear hOy Hw HFx
                    go_wp2
                    go_roundw
                    case rel => exact ⟨k + 1, by omega, by omega, by simp, _, by rw [Hz.out], HFy.out⟩
                    case measure => simp [intOf]; omega
            · go_wp2
              go_ret
              exact ⟨rfl, HI.out.only.below (Nat.le_refl _) (fun i hi h => by omega)⟩
          · obtain rfl : k = l.length := by omega
            go_wp2
            go_ret
            exact ⟨rfl, HI.out.only.below (Nat.le_refl _) (fun i hi h => by omega)⟩
  · have HB := Lib.hid hb
    have hbad := (badN_iff _ _).1 hb
    clear hb
    go_wp2_with (fail)
    refine (new_bad x0 x1 _ HB.out).mono ?_
    rintro e w1 ⟨rfl, rfl⟩
    by_cases a1 : x0 < 1
    · go_wp2
      go_ret
      exact ⟨by simp, HO1.out.below (Nat.le_refl _) (fun i hi h => by omega)⟩
    · by_cases a2 : 32 < x0
      · go_wp2
        go_ret
        exact ⟨by simp, HO1.out.below (Nat.le_refl _) (fun i hi h => by omega)⟩
      · by_cases a3 : x1 < 1
        · go_wp2
          go_ret
          exact ⟨by simp, HO1.out.below (Nat.le_refl _) (fun i hi h => by omega)⟩
        · have a4 : 1000 < x1 := by omega
          go_wp2
          go_ret
          exact ⟨by simp, HO1.out.below (Nat.le_refl _) (fun i hi h => by omega)⟩
end Go.Proofs.Ytcbgobgicknhiaa
