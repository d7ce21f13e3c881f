/- Hist: the law HistSerial. -/
import Derived.Test.YtgedinpafnfmmaaJ
import Derived.RegionTactic
import Derived.ChangeAlike
namespace Go.Proofs.Ytgedinpafnfmmaa
open Go.RowKit

def cv (ws : List Int) : Nat → Int
  | 0 => 0
  | i + 1 => if 0 ≤ ws.getD i 0 then ws.getD i 0 else cv ws i
theorem cv_nn (ws : List Int) (i : Nat) : 0 ≤ cv ws i := by
  induction i with
  | zero => simp [cv]
  | succ i ih => simp only [cv]; split <;> assumption
theorem cv_wf {ws : List Int} (h : ∀ z ∈ ws, (Lit.int .i64 z).wf = true) (i : Nat) : (Lit.int .i64 (cv ws i)).wf = true := by
  induction i with
  | zero => simp only [cv]; decide
  | succ i ih =>
    simp only [cv]
    split
    · by_cases hi : i < ws.length
      · rw [show ws.getD i 0 = ws[i] from by simp [List.getD, hi]]; exact h _ (List.getElem_mem hi)
      · rw [show ws.getD i 0 = 0 from by simp only [List.getD]; rw [List.getElem?_eq_none (by omega)]; rfl]; decide
    · exact ih
def ea (es : List Int) (i : Nat) : Int := if i < es.length ∧ 0 ≤ es.getD i 0 ∧ es.getD i 0 ≤ 1000 then es.getD i 0 else 0
theorem ea_nn (es : List Int) (i : Nat) : 0 ≤ ea es i ∧ ea es i ≤ 1000 := by
  unfold ea; split <;> omega
def opAt (ws es : List Int) (i : Nat) : Dd := ⟨if 0 ≤ ws.getD i 0 then 2 else 1, cv ws (i + 1), max 0 (100 * (i : Int) - ea es i), 100 * (i : Int) + 50 + ea es i⟩
theorem may_intro {x : Dd} (hk : x.k = 1 ∨ x.k = 2) (hv : 0 ≤ x.v) (hb : 0 ≤ x.b) (he : x.b < x.e) : x.may = true := by
  simp [Dd.may, hk, hv, hb, he]
theorem opAt_may (ws es : List Int) (i : Nat) : (opAt ws es i).may = true := by
  have h2 := ea_nn es i
  refine may_intro ?_ (cv_nn ws (i + 1)) ?_ ?_
  · simp only [opAt]; split <;> simp
  · simp only [opAt]; omega
  · simp only [opAt]; omega
theorem ser_tail (ws es : List Int) : ∀ (m i : Nat), Ser ((List.range' i m).map (opAt ws es)) (cv ws i)
  | 0, i => .done (by simp)
  | m + 1, i => by
    rw [List.range'_succ, List.map_cons]
    refine .step (opAt ws es i) (List.Perm.refl _) (fun y hy => ?_) ?_ (ser_tail ws es m (i + 1))
    · obtain ⟨j, hj, rfl⟩ := List.mem_map.1 hy
      have hj' := (List.mem_range'_1.1 hj).1
      have h1 := ea_nn es i
      have h2 := ea_nn es j
      have : ¬ (opAt ws es j).e < (opAt ws es i).b := by simp only [opAt]; omega
      simp [Dd.before, this]
    · simp only [opAt, cv]
      by_cases h : 0 ≤ ws.getD i 0
      · simp only [List.getD] at h; simp [h]
      · simp only [List.getD] at h; simp [h]
def sl (ws es : List Int) (i : Nat) : List Dd := (List.range i).map (opAt ws es)
theorem sl_len (ws es : List Int) (i : Nat) : (sl ws es i).length = i := by simp [sl]
theorem sl_succ (ws es : List Int) (i : Nat) : sl ws es (i + 1) = sl ws es i ++ [opAt ws es i] := by simp [sl, List.range_succ]
theorem serial_law (ws es : List Int) (n : Nat) (hn : n ≤ 10) : right (sl ws es n) = true ∧ chk (sl ws es n) = true := by
  have hr : right (sl ws es n) = true := by
    simp only [right, Bool.and_eq_true, decide_eq_true_eq]
    refine ⟨?_, by rw [sl_len]; exact hn⟩
    rw [List.all_eq_true]
    intro x hx
    obtain ⟨i, _, rfl⟩ := List.mem_map.1 hx
    exact opAt_may ws es i
  refine ⟨hr, (chk_iff hr).2 ?_⟩
  have := ser_tail ws es n 0
  rw [← List.range_eq_range'] at this
  exact this

def iv (l : List Int) : List Value := l.map (Value.int .i64)
theorem Rd.ivget {w : World} {g : Nat} {A : Option Addr} {l : List Int} (h : Rd w g A (iv l)) {i : Nat} (hi : i < l.length) : ∃ off, A = some ⟨g, off, none⟩ ∧ w.cell? ⟨g, off + i, none⟩ = some (.int .i64 (l.getD i 0)) := by
  obtain ⟨off, h1, h2, h3⟩ := h.at (by intro e; have : l = [] := (by simpa [iv] using e); subst this; simp at hi)
  refine ⟨off, h1, h3 i _ ?_⟩
  simp [iv, List.getD, hi]
theorem Only.new {S : Nat → Prop} {a w : World} (h : Only S a w) {g : Nat} (hg : a.heap.size ≤ g) (j : Nat) (u : Value) : Only S a (w.setCell ⟨g, j, none⟩ u) :=
  h.setCell (p := ⟨g, j, none⟩) (fun h => by simp at h; omega) u

set_option maxRecDepth 100000 in
set_option maxHeartbeats 8000000 in
theorem histSerial_walk (gw cw ge ce : Nat) (Aw Ae : Option Addr) (ws es : List Int) (w : World) (hrw : Rd w gw Aw (iv ws)) (hre : Rd w ge Ae (iv es)) (hlw : ws.length ≤ 9223372036854775807) (hle : es.length ≤ 9223372036854775807) (hwf : ∀ z ∈ ws, (Lit.int .i64 z).wf = true) :
    Calls Try.prog 4 #[.slice Aw ws.length cw, .slice Ae es.length ce] w fun e w' => e = .returned (.bool true) ∧ Below w.heap.size w w' := by
  obtain ⟨ti, hi⟩ : ∃ i, Try.prog.info? 30 = some i := ⟨_, rfl⟩
  have hz0 : ti.zero = some (.agg #[.int .i64 0, .int .i64 0, .int .i64 0, .int .i64 0]) := by cases hi; rfl
  have hz1 : ti.size = 4 := by cases hi; rfl
  have hz2 : ti.bytes = 32 := by cases hi; rfl
  have HI := Lib.hid (And.intro hi (And.intro hz0 (And.intro hz1 hz2)))
  have HRW := Lib.hid hrw
  have HRE := Lib.hid hre
  have HWF := Lib.hid hwf
  clear hrw hre hwf hi hz0 hz1 hz2
  by_cases h10 : 10 < ws.length
  · have j0 : (10 : Int) < ws.length := by omega
    go_enter Try.func4, Try.ntmps4
    go_wp2_with (fail)
    refine (awake_any _).mono ?_
    rintro e w1 ⟨rfl, hO1⟩
    go_wp2
    go_ret
    exact ⟨rfl, hO1.below (Nat.le_refl _) (fun i hi h => h)⟩
  have j0 : ¬ (10 : Int) < ws.length := by omega
  obtain ⟨n, hn⟩ : ∃ n, ws.length = n := ⟨_, rfl⟩
  have HN := Lib.hid hn
  rw [hn] at j0 h10 hlw ⊢
  clear hn
  go_enter Try.func4, Try.ntmps4
  go_wp2_with (fail)
  refine (awake_any _).mono ?_
  rintro e w1 ⟨rfl, hO1⟩
  have HO1 := Lib.hid hO1
  clear hO1
  go_wp2_with (fail)
  go_loopw [6, 7, 8] (fun v6 v7 v8 wr => ∃ (i : Nat) (A : Option Addr) (c : Nat), i ≤ n ∧ v8 = .int .i64 i ∧ v6 = .int .i64 (cv ws i) ∧ v7 = .slice A i c ∧ wr.ownsRow w.heap.size 30 4 (.slice A i c) i (dv (sl ws es i)) ∧ Only (fun _ => False) w wr) (fun _ _ v8 wr => (n - intOf v8).toNat)
  case atStart => exact ⟨0, none, 0, by omega, rfl, rfl, rfl, World.ownsRow_nil _ _ _ _, HO1.out⟩
  case round =>
    obtain ⟨i, A, c, hi, rfl, rfl, rfl, hown, hO⟩ := hrel
    have HOW := Lib.hid hown
    have HO := Lib.hid hO
    clear hown hO HO1
    by_cases hin : i < n
    · have i0 : (0 : Int) ≤ i := by omega
      have i1 : (i : Int) < n := by omega
      have i2 : (i : Int) ≤ 10 := by omega
      obtain ⟨offw, rfl, hcw⟩ := (HRW.out.only HO.out id).ivget (show i < ws.length by rw [HN.out]; exact hin)
      have HCV : Hid (cv ws (i + 1) = if 0 ≤ ws.getD i 0 then ws.getD i 0 else cv ws i) := Lib.hid rfl
      have HCE : Hid (ea es i = if i < es.length ∧ 0 ≤ es.getD i 0 ∧ es.getD i 0 ≤ 1000 then es.getD i 0 else 0) := Lib.hid rfl
      have HOP : Hid (opAt ws es i = ⟨if 0 ≤ ws.getD i 0 then 2 else 1, cv ws (i + 1), max 0 (100 * (i : Int) - ea es i), 100 * (i : Int) + 50 + ea es i⟩) := Lib.hid rfl
      have HNX : Hid (∀ (W : World) (A' : Option Addr) (c' : Nat), W.ownsRow w.heap.size 30 4 (.slice A' (i + 1) c') (i + 1) (dv (sl ws es i) ++ (opAt ws es i).cells) → W.ownsRow w.heap.size 30 4 (.slice A' (i + 1) c') (i + 1) (dv (sl ws es (i + 1)))) := Lib.hid (fun W A' c' h => by rw [sl_succ, dv_snoc]; exact h)
      have HLN : Hid ((dv (sl ws es i)).length = i * 4) := Lib.hid (by rw [dv_len, sl_len])
      generalize ws.getD i 0 = wi at *
      obtain ⟨cvs, hcvs⟩ : ∃ z, cv ws (i + 1) = z := ⟨_, rfl⟩
      obtain ⟨ys, hys⟩ : ∃ z, dv (sl ws es (i + 1)) = z := ⟨_, rfl⟩
      have HCVS := Lib.hid hcvs
      have HYS := Lib.hid hys
      rw [hcvs] at HCV HOP
      rw [hys] at HNX
      clear hcvs hys
      generalize cv ws i = cvi at *
      generalize opAt ws es i = op at *
      generalize dv (sl ws es i) = xs at *
      have cw1 : (wr.alloc (.cells #[.int .i64 1, .int .i64 cvi, .int .i64 (100 * ↑i), .int .i64 (100 * ↑i + 50)] 30)).cell? ⟨gw, offw + i, none⟩ = some (.int .i64 wi) := (((Only.refl (fun _ => False) wr).alloc _).cell (World.block_lt_of_cell? _ _ hcw) id).trans hcw
      have cw2 : (wr.alloc (.cells #[.int .i64 2, .int .i64 wi, .int .i64 (100 * ↑i), .int .i64 (100 * ↑i + 50)] 30)).cell? ⟨gw, offw + i, none⟩ = some (.int .i64 wi) := (((Only.refl (fun _ => False) wr).alloc _).cell (World.block_lt_of_cell? _ _ hcw) id).trans hcw
      clear hcw
      by_cases hwi : 0 ≤ wi
      · have HCV' : Hid (cvs = wi) := Lib.hid (by rw [HCV.out]; exact if_pos hwi)
        have HOP' : Hid (op = ⟨2, wi, max 0 (100 * (i : Int) - ea es i), 100 * (i : Int) + 50 + ea es i⟩) := Lib.hid (by rw [HOP.out, HCV'.out]; simp [hwi])
        clear HCV HOP
        skip
        by_cases hie : i < es.length
        · have e1 : (i : Int) < es.length := by omega
          obtain ⟨offe, rfl, hce0⟩ := (HRE.out.only HO.out id).ivget hie
          have HE0 := Lib.hid (fun o => (((Only.refl (fun _ => False) wr).alloc o).cell (World.block_lt_of_cell? _ _ hce0) id).trans hce0)
          have hce := HE0.out (.cells #[.int .i64 2, .int .i64 wi, .int .i64 (100 * ↑i), .int .i64 (100 * ↑i + 50)] 30)
          clear hce0
          generalize es.getD i 0 = ei at *
          by_cases e2 : 0 ≤ ei
          · by_cases e3 : ei ≤ 1000
            · have HX : Hid (op = ⟨2, wi, max 0 (100 * (i : Int) - ei), 100 * (i : Int) + 50 + ei⟩) := Lib.hid (by rw [HOP'.out, HCE.out, if_pos ⟨hie, e2, e3⟩])
              clear HOP' HCE hie
              by_cases e4 : ei < 100 * (i : Int)
              · have HX' : Hid (op = ⟨2, wi, 100 * (i : Int) - ei, 100 * (i : Int) + 50 + ei⟩) := Lib.hid (by rw [HX.out]; congr 1; omega)
                have ce2 := HE0.out (.cells #[.int .i64 2, .int .i64 wi, .int .i64 (100 * ↑i - ei), .int .i64 (100 * ↑i + 50)] 30)
                clear HX
                go_wp2_with (fail)
                go_region
                go_wp2_with (fail)
                go_region
                have hnw := At.new' (g := wr.heap.size + 1) (w := wr.alloc (.cells #[.int .i64 2, .int .i64 wi, .int .i64 (100 * ↑i - ei), .int .i64 (100 * ↑i + 50 + ei)] 30)) (by simp) 30 #[.int .i64 2, .int .i64 wi, .int .i64 (100 * ↑i - ei), .int .i64 (100 * ↑i + 50 + ei)]
                have HNW := Lib.hid (Rd.fresh hnw.drew.drew _ rfl)
                have HOWA := Lib.hid ((HOW.out.alloc (.cells #[.int .i64 2, .int .i64 wi, .int .i64 (100 * ↑i - ei), .int .i64 (100 * ↑i + 50 + ei)] 30)).alloc (.cells #[.int .i64 2, .int .i64 wi, .int .i64 (100 * ↑i - ei), .int .i64 (100 * ↑i + 50 + ei)] 30))
                have HOA := Lib.hid ((HO.out.alloc (.cells #[.int .i64 2, .int .i64 wi, .int .i64 (100 * ↑i - ei), .int .i64 (100 * ↑i + 50 + ei)] 30)).alloc (.cells #[.int .i64 2, .int .i64 wi, .int .i64 (100 * ↑i - ei), .int .i64 (100 * ↑i + 50 + ei)] 30))
                have hsz := HO.out.size
                clear hnw
                go_wp2_with (at_builtin; go_loud (refine wpList_append_src _ rfl (.tmp 84) (.tmp 86) 22 rfl w.heap.size 30 ti (.agg #[.int .i64 0, .int .i64 0, .int .i64 0, .int .i64 0]) 4 32 Try.underlying22 HI.out.1 HI.out.2.1 HI.out.2.2.1 HI.out.2.2.2 rfl (by decide) (.slice A i c) i xs rfl HOWA.out.drew.drew (wr.heap.size + 1) (some ⟨wr.heap.size + 1, 0, none⟩) 1 1 [.int .i64 2, .int .i64 wi, .int .i64 (100 * ↑i - ei), .int .i64 (100 * ↑i + 50 + ei)] rfl rfl HNW.out (by simp [Value.oneCell']) (by unfold maxLen; omega) (by omega) (by simp; omega) ?_); intro A2 c2 w2 hc2 hown2 hg2 hat2; have HO2 := Lib.hid (HOA.out.drew.drew.append HOWA.out.drew.drew hg2 (fun i hi hb => by omega)); have HW2 := Lib.hid (HNX.out w2 A2 c2 (by rw [HX'.out]; exact hown2)); clear hown2 hg2 hat2 hc2 HOA HOWA HNW)
                all_goals
                  go_roundw
                  case rel => exact ⟨i + 1, A2, c2, by omega, by simp, by rw [HCVS.out, HCV'.out], rfl, (by rw [HYS.out]; exact HW2.out), HO2.out⟩
                  case measure => simp [intOf]; omega
              · have HX' : Hid (op = ⟨2, wi, 0, 100 * (i : Int) + 50 + ei⟩) := Lib.hid (by rw [HX.out]; congr 1; omega)
                have ce2 := HE0.out (.cells #[.int .i64 2, .int .i64 wi, .int .i64 0, .int .i64 (100 * ↑i + 50)] 30)
                clear HX
                go_wp2_with (fail)
                go_region
                go_wp2_with (fail)
                go_region
                have hnw := At.new' (g := wr.heap.size + 1) (w := wr.alloc (.cells #[.int .i64 2, .int .i64 wi, .int .i64 0, .int .i64 (100 * ↑i + 50 + ei)] 30)) (by simp) 30 #[.int .i64 2, .int .i64 wi, .int .i64 0, .int .i64 (100 * ↑i + 50 + ei)]
                have HNW := Lib.hid (Rd.fresh hnw.drew.drew _ rfl)
                have HOWA := Lib.hid ((HOW.out.alloc (.cells #[.int .i64 2, .int .i64 wi, .int .i64 0, .int .i64 (100 * ↑i + 50 + ei)] 30)).alloc (.cells #[.int .i64 2, .int .i64 wi, .int .i64 0, .int .i64 (100 * ↑i + 50 + ei)] 30))
                have HOA := Lib.hid ((HO.out.alloc (.cells #[.int .i64 2, .int .i64 wi, .int .i64 0, .int .i64 (100 * ↑i + 50 + ei)] 30)).alloc (.cells #[.int .i64 2, .int .i64 wi, .int .i64 0, .int .i64 (100 * ↑i + 50 + ei)] 30))
                have hsz := HO.out.size
                clear hnw
                go_wp2_with (at_builtin; go_loud (refine wpList_append_src _ rfl (.tmp 84) (.tmp 86) 22 rfl w.heap.size 30 ti (.agg #[.int .i64 0, .int .i64 0, .int .i64 0, .int .i64 0]) 4 32 Try.underlying22 HI.out.1 HI.out.2.1 HI.out.2.2.1 HI.out.2.2.2 rfl (by decide) (.slice A i c) i xs rfl HOWA.out.drew.drew (wr.heap.size + 1) (some ⟨wr.heap.size + 1, 0, none⟩) 1 1 [.int .i64 2, .int .i64 wi, .int .i64 0, .int .i64 (100 * ↑i + 50 + ei)] rfl rfl HNW.out (by simp [Value.oneCell']) (by unfold maxLen; omega) (by omega) (by simp; omega) ?_); intro A2 c2 w2 hc2 hown2 hg2 hat2; have HO2 := Lib.hid (HOA.out.drew.drew.append HOWA.out.drew.drew hg2 (fun i hi hb => by omega)); have HW2 := Lib.hid (HNX.out w2 A2 c2 (by rw [HX'.out]; exact hown2)); clear hown2 hg2 hat2 hc2 HOA HOWA HNW)
                all_goals
                  go_roundw
                  case rel => exact ⟨i + 1, A2, c2, by omega, by simp, by rw [HCVS.out, HCV'.out], rfl, (by rw [HYS.out]; exact HW2.out), HO2.out⟩
                  case measure => simp [intOf]; omega
            · have e3' : decide (ei ≤ 1000) = false := by simp; omega
              have HX : Hid (op = ⟨2, wi, 100 * (i : Int), 100 * (i : Int) + 50⟩) := Lib.hid (by rw [HOP'.out, HCE.out, if_neg (fun h => e3 h.2.2)]; congr 1 <;> omega)
              clear HOP' HCE hie
              have hnw := At.new' (g := wr.heap.size + 1) (w := wr.alloc (.cells #[.int .i64 2, .int .i64 wi, .int .i64 (100 * ↑i), .int .i64 (100 * ↑i + 50)] 30)) (by simp) 30 #[.int .i64 2, .int .i64 wi, .int .i64 (100 * ↑i), .int .i64 (100 * ↑i + 50)]
              have HNW := Lib.hid (Rd.fresh hnw _ rfl)
              have HOWA := Lib.hid ((HOW.out.alloc (.cells #[.int .i64 2, .int .i64 wi, .int .i64 (100 * ↑i), .int .i64 (100 * ↑i + 50)] 30)).alloc (.cells #[.int .i64 2, .int .i64 wi, .int .i64 (100 * ↑i), .int .i64 (100 * ↑i + 50)] 30))
              have HOA := Lib.hid ((HO.out.alloc (.cells #[.int .i64 2, .int .i64 wi, .int .i64 (100 * ↑i), .int .i64 (100 * ↑i + 50)] 30)).alloc (.cells #[.int .i64 2, .int .i64 wi, .int .i64 (100 * ↑i), .int .i64 (100 * ↑i + 50)] 30))
              have hsz := HO.out.size
              clear hnw
              go_wp2_with (at_builtin; go_loud (refine wpList_append_src _ rfl (.tmp 84) (.tmp 86) 22 rfl w.heap.size 30 ti (.agg #[.int .i64 0, .int .i64 0, .int .i64 0, .int .i64 0]) 4 32 Try.underlying22 HI.out.1 HI.out.2.1 HI.out.2.2.1 HI.out.2.2.2 rfl (by decide) (.slice A i c) i xs rfl HOWA.out (wr.heap.size + 1) (some ⟨wr.heap.size + 1, 0, none⟩) 1 1 [.int .i64 2, .int .i64 wi, .int .i64 (100 * ↑i), .int .i64 (100 * ↑i + 50)] rfl rfl HNW.out (by simp [Value.oneCell']) (by unfold maxLen; omega) (by omega) (by simp; omega) ?_); intro A2 c2 w2 hc2 hown2 hg2 hat2; have HO2 := Lib.hid (HOA.out.append HOWA.out hg2 (fun i hi hb => by omega)); have HW2 := Lib.hid (HNX.out w2 A2 c2 (by rw [HX.out]; exact hown2)); clear hown2 hg2 hat2 hc2 HOA HOWA HNW)
              all_goals
                go_roundw
                case rel => exact ⟨i + 1, A2, c2, by omega, by simp, by rw [HCVS.out, HCV'.out], rfl, (by rw [HYS.out]; exact HW2.out), HO2.out⟩
                case measure => simp [intOf]; omega
          · have e2' : decide (0 ≤ ei) = false := by simp; omega
            have HX : Hid (op = ⟨2, wi, 100 * (i : Int), 100 * (i : Int) + 50⟩) := Lib.hid (by rw [HOP'.out, HCE.out, if_neg (fun h => e2 h.2.1)]; congr 1 <;> omega)
            clear HOP' HCE hie
            have hnw := At.new' (g := wr.heap.size + 1) (w := wr.alloc (.cells #[.int .i64 2, .int .i64 wi, .int .i64 (100 * ↑i), .int .i64 (100 * ↑i + 50)] 30)) (by simp) 30 #[.int .i64 2, .int .i64 wi, .int .i64 (100 * ↑i), .int .i64 (100 * ↑i + 50)]
            have HNW := Lib.hid (Rd.fresh hnw _ rfl)
            have HOWA := Lib.hid ((HOW.out.alloc (.cells #[.int .i64 2, .int .i64 wi, .int .i64 (100 * ↑i), .int .i64 (100 * ↑i + 50)] 30)).alloc (.cells #[.int .i64 2, .int .i64 wi, .int .i64 (100 * ↑i), .int .i64 (100 * ↑i + 50)] 30))
            have HOA := Lib.hid ((HO.out.alloc (.cells #[.int .i64 2, .int .i64 wi, .int .i64 (100 * ↑i), .int .i64 (100 * ↑i + 50)] 30)).alloc (.cells #[.int .i64 2, .int .i64 wi, .int .i64 (100 * ↑i), .int .i64 (100 * ↑i + 50)] 30))
            have hsz := HO.out.size
            clear hnw
            go_wp2_with (at_builtin; go_loud (refine wpList_append_src _ rfl (.tmp 84) (.tmp 86) 22 rfl w.heap.size 30 ti (.agg #[.int .i64 0, .int .i64 0, .int .i64 0, .int .i64 0]) 4 32 Try.underlying22 HI.out.1 HI.out.2.1 HI.out.2.2.1 HI.out.2.2.2 rfl (by decide) (.slice A i c) i xs rfl HOWA.out (wr.heap.size + 1) (some ⟨wr.heap.size + 1, 0, none⟩) 1 1 [.int .i64 2, .int .i64 wi, .int .i64 (100 * ↑i), .int .i64 (100 * ↑i + 50)] rfl rfl HNW.out (by simp [Value.oneCell']) (by unfold maxLen; omega) (by omega) (by simp; omega) ?_); intro A2 c2 w2 hc2 hown2 hg2 hat2; have HO2 := Lib.hid (HOA.out.append HOWA.out hg2 (fun i hi hb => by omega)); have HW2 := Lib.hid (HNX.out w2 A2 c2 (by rw [HX.out]; exact hown2)); clear hown2 hg2 hat2 hc2 HOA HOWA HNW)
            all_goals
              go_roundw
              case rel => exact ⟨i + 1, A2, c2, by omega, by simp, by rw [HCVS.out, HCV'.out], rfl, (by rw [HYS.out]; exact HW2.out), HO2.out⟩
              case measure => simp [intOf]; omega
        · have e1 : ¬ (i : Int) < es.length := by omega
          have HX : Hid (op = ⟨2, wi, 100 * (i : Int), 100 * (i : Int) + 50⟩) := Lib.hid (by rw [HOP'.out, HCE.out, if_neg (fun h => hie h.1)]; congr 1 <;> omega)
          clear HOP' HCE hie
          have hnw := At.new' (g := wr.heap.size + 1) (w := wr.alloc (.cells #[.int .i64 2, .int .i64 wi, .int .i64 (100 * ↑i), .int .i64 (100 * ↑i + 50)] 30)) (by simp) 30 #[.int .i64 2, .int .i64 wi, .int .i64 (100 * ↑i), .int .i64 (100 * ↑i + 50)]
          have HNW := Lib.hid (Rd.fresh hnw _ rfl)
          have HOWA := Lib.hid ((HOW.out.alloc (.cells #[.int .i64 2, .int .i64 wi, .int .i64 (100 * ↑i), .int .i64 (100 * ↑i + 50)] 30)).alloc (.cells #[.int .i64 2, .int .i64 wi, .int .i64 (100 * ↑i), .int .i64 (100 * ↑i + 50)] 30))
          have HOA := Lib.hid ((HO.out.alloc (.cells #[.int .i64 2, .int .i64 wi, .int .i64 (100 * ↑i), .int .i64 (100 * ↑i + 50)] 30)).alloc (.cells #[.int .i64 2, .int .i64 wi, .int .i64 (100 * ↑i), .int .i64 (100 * ↑i + 50)] 30))
          have hsz := HO.out.size
          clear hnw
          go_wp2_with (at_builtin; go_loud (refine wpList_append_src _ rfl (.tmp 84) (.tmp 86) 22 rfl w.heap.size 30 ti (.agg #[.int .i64 0, .int .i64 0, .int .i64 0, .int .i64 0]) 4 32 Try.underlying22 HI.out.1 HI.out.2.1 HI.out.2.2.1 HI.out.2.2.2 rfl (by decide) (.slice A i c) i xs rfl HOWA.out (wr.heap.size + 1) (some ⟨wr.heap.size + 1, 0, none⟩) 1 1 [.int .i64 2, .int .i64 wi, .int .i64 (100 * ↑i), .int .i64 (100 * ↑i + 50)] rfl rfl HNW.out (by simp [Value.oneCell']) (by unfold maxLen; omega) (by omega) (by simp; omega) ?_); intro A2 c2 w2 hc2 hown2 hg2 hat2; have HO2 := Lib.hid (HOA.out.append HOWA.out hg2 (fun i hi hb => by omega)); have HW2 := Lib.hid (HNX.out w2 A2 c2 (by rw [HX.out]; exact hown2)); clear hown2 hg2 hat2 hc2 HOA HOWA HNW)
          all_goals
            go_roundw
            case rel => exact ⟨i + 1, A2, c2, by omega, by simp, by rw [HCVS.out, HCV'.out], rfl, (by rw [HYS.out]; exact HW2.out), HO2.out⟩
            case measure => simp [intOf]; omega
      · have HCV' : Hid (cvs = cvi) := Lib.hid (by rw [HCV.out]; exact if_neg hwi)
        have HOP' : Hid (op = ⟨1, cvi, max 0 (100 * (i : Int) - ea es i), 100 * (i : Int) + 50 + ea es i⟩) := Lib.hid (by rw [HOP.out, HCV'.out]; simp [hwi])
        clear HCV HOP
        by_cases hie : i < es.length
        · have e1 : (i : Int) < es.length := by omega
          obtain ⟨offe, rfl, hce0⟩ := (HRE.out.only HO.out id).ivget hie
          have HE0 := Lib.hid (fun o => (((Only.refl (fun _ => False) wr).alloc o).cell (World.block_lt_of_cell? _ _ hce0) id).trans hce0)
          have hce := HE0.out (.cells #[.int .i64 1, .int .i64 cvi, .int .i64 (100 * ↑i), .int .i64 (100 * ↑i + 50)] 30)
          clear hce0
          generalize es.getD i 0 = ei at *
          by_cases e2 : 0 ≤ ei
          · by_cases e3 : ei ≤ 1000
            · have HX : Hid (op = ⟨1, cvi, max 0 (100 * (i : Int) - ei), 100 * (i : Int) + 50 + ei⟩) := Lib.hid (by rw [HOP'.out, HCE.out, if_pos ⟨hie, e2, e3⟩])
              clear HOP' HCE hie
              by_cases e4 : ei < 100 * (i : Int)
              · have HX' : Hid (op = ⟨1, cvi, 100 * (i : Int) - ei, 100 * (i : Int) + 50 + ei⟩) := Lib.hid (by rw [HX.out]; congr 1; omega)
                have ce2 := HE0.out (.cells #[.int .i64 1, .int .i64 cvi, .int .i64 (100 * ↑i - ei), .int .i64 (100 * ↑i + 50)] 30)
                clear HX
                go_wp2_with (fail)
                go_region
                go_wp2_with (fail)
                go_region
                have hnw := At.new' (g := wr.heap.size + 1) (w := wr.alloc (.cells #[.int .i64 1, .int .i64 cvi, .int .i64 (100 * ↑i - ei), .int .i64 (100 * ↑i + 50 + ei)] 30)) (by simp) 30 #[.int .i64 1, .int .i64 cvi, .int .i64 (100 * ↑i - ei), .int .i64 (100 * ↑i + 50 + ei)]
                have HNW := Lib.hid (Rd.fresh hnw.drew.drew _ rfl)
                have HOWA := Lib.hid ((HOW.out.alloc (.cells #[.int .i64 1, .int .i64 cvi, .int .i64 (100 * ↑i - ei), .int .i64 (100 * ↑i + 50 + ei)] 30)).alloc (.cells #[.int .i64 1, .int .i64 cvi, .int .i64 (100 * ↑i - ei), .int .i64 (100 * ↑i + 50 + ei)] 30))
                have HOA := Lib.hid ((HO.out.alloc (.cells #[.int .i64 1, .int .i64 cvi, .int .i64 (100 * ↑i - ei), .int .i64 (100 * ↑i + 50 + ei)] 30)).alloc (.cells #[.int .i64 1, .int .i64 cvi, .int .i64 (100 * ↑i - ei), .int .i64 (100 * ↑i + 50 + ei)] 30))
                have hsz := HO.out.size
                clear hnw
                go_wp2_with (at_builtin; go_loud (refine wpList_append_src _ rfl (.tmp 84) (.tmp 86) 22 rfl w.heap.size 30 ti (.agg #[.int .i64 0, .int .i64 0, .int .i64 0, .int .i64 0]) 4 32 Try.underlying22 HI.out.1 HI.out.2.1 HI.out.2.2.1 HI.out.2.2.2 rfl (by decide) (.slice A i c) i xs rfl HOWA.out.drew.drew (wr.heap.size + 1) (some ⟨wr.heap.size + 1, 0, none⟩) 1 1 [.int .i64 1, .int .i64 cvi, .int .i64 (100 * ↑i - ei), .int .i64 (100 * ↑i + 50 + ei)] rfl rfl HNW.out (by simp [Value.oneCell']) (by unfold maxLen; omega) (by omega) (by simp; omega) ?_); intro A2 c2 w2 hc2 hown2 hg2 hat2; have HO2 := Lib.hid (HOA.out.drew.drew.append HOWA.out.drew.drew hg2 (fun i hi hb => by omega)); have HW2 := Lib.hid (HNX.out w2 A2 c2 (by rw [HX'.out]; exact hown2)); clear hown2 hg2 hat2 hc2 HOA HOWA HNW)
                all_goals
                  go_roundw
                  case rel => exact ⟨i + 1, A2, c2, by omega, by simp, by rw [HCVS.out, HCV'.out], rfl, (by rw [HYS.out]; exact HW2.out), HO2.out⟩
                  case measure => simp [intOf]; omega
              · have HX' : Hid (op = ⟨1, cvi, 0, 100 * (i : Int) + 50 + ei⟩) := Lib.hid (by rw [HX.out]; congr 1; omega)
                have ce2 := HE0.out (.cells #[.int .i64 1, .int .i64 cvi, .int .i64 0, .int .i64 (100 * ↑i + 50)] 30)
                clear HX
                go_wp2_with (fail)
                go_region
                go_wp2_with (fail)
                go_region
                have hnw := At.new' (g := wr.heap.size + 1) (w := wr.alloc (.cells #[.int .i64 1, .int .i64 cvi, .int .i64 0, .int .i64 (100 * ↑i + 50 + ei)] 30)) (by simp) 30 #[.int .i64 1, .int .i64 cvi, .int .i64 0, .int .i64 (100 * ↑i + 50 + ei)]
                have HNW := Lib.hid (Rd.fresh hnw.drew.drew _ rfl)
                have HOWA := Lib.hid ((HOW.out.alloc (.cells #[.int .i64 1, .int .i64 cvi, .int .i64 0, .int .i64 (100 * ↑i + 50 + ei)] 30)).alloc (.cells #[.int .i64 1, .int .i64 cvi, .int .i64 0, .int .i64 (100 * ↑i + 50 + ei)] 30))
                have HOA := Lib.hid ((HO.out.alloc (.cells #[.int .i64 1, .int .i64 cvi, .int .i64 0, .int .i64 (100 * ↑i + 50 + ei)] 30)).alloc (.cells #[.int .i64 1, .int .i64 cvi, .int .i64 0, .int .i64 (100 * ↑i + 50 + ei)] 30))
                have hsz := HO.out.size
                clear hnw
                go_wp2_with (at_builtin; go_loud (refine wpList_append_src _ rfl (.tmp 84) (.tmp 86) 22 rfl w.heap.size 30 ti (.agg #[.int .i64 0, .int .i64 0, .int .i64 0, .int .i64 0]) 4 32 Try.underlying22 HI.out.1 HI.out.2.1 HI.out.2.2.1 HI.out.2.2.2 rfl (by decide) (.slice A i c) i xs rfl HOWA.out.drew.drew (wr.heap.size + 1) (some ⟨wr.heap.size + 1, 0, none⟩) 1 1 [.int .i64 1, .int .i64 cvi, .int .i64 0, .int .i64 (100 * ↑i + 50 + ei)] rfl rfl HNW.out (by simp [Value.oneCell']) (by unfold maxLen; omega) (by omega) (by simp; omega) ?_); intro A2 c2 w2 hc2 hown2 hg2 hat2; have HO2 := Lib.hid (HOA.out.drew.drew.append HOWA.out.drew.drew hg2 (fun i hi hb => by omega)); have HW2 := Lib.hid (HNX.out w2 A2 c2 (by rw [HX'.out]; exact hown2)); clear hown2 hg2 hat2 hc2 HOA HOWA HNW)
                all_goals
                  go_roundw
                  case rel => exact ⟨i + 1, A2, c2, by omega, by simp, by rw [HCVS.out, HCV'.out], rfl, (by rw [HYS.out]; exact HW2.out), HO2.out⟩
                  case measure => simp [intOf]; omega
            · have e3' : decide (ei ≤ 1000) = false := by simp; omega
              have HX : Hid (op = ⟨1, cvi, 100 * (i : Int), 100 * (i : Int) + 50⟩) := Lib.hid (by rw [HOP'.out, HCE.out, if_neg (fun h => e3 h.2.2)]; congr 1 <;> omega)
              clear HOP' HCE hie
              have hnw := At.new' (g := wr.heap.size + 1) (w := wr.alloc (.cells #[.int .i64 1, .int .i64 cvi, .int .i64 (100 * ↑i), .int .i64 (100 * ↑i + 50)] 30)) (by simp) 30 #[.int .i64 1, .int .i64 cvi, .int .i64 (100 * ↑i), .int .i64 (100 * ↑i + 50)]
              have HNW := Lib.hid (Rd.fresh hnw _ rfl)
              have HOWA := Lib.hid ((HOW.out.alloc (.cells #[.int .i64 1, .int .i64 cvi, .int .i64 (100 * ↑i), .int .i64 (100 * ↑i + 50)] 30)).alloc (.cells #[.int .i64 1, .int .i64 cvi, .int .i64 (100 * ↑i), .int .i64 (100 * ↑i + 50)] 30))
              have HOA := Lib.hid ((HO.out.alloc (.cells #[.int .i64 1, .int .i64 cvi, .int .i64 (100 * ↑i), .int .i64 (100 * ↑i + 50)] 30)).alloc (.cells #[.int .i64 1, .int .i64 cvi, .int .i64 (100 * ↑i), .int .i64 (100 * ↑i + 50)] 30))
              have hsz := HO.out.size
              clear hnw
              go_wp2_with (at_builtin; go_loud (refine wpList_append_src _ rfl (.tmp 84) (.tmp 86) 22 rfl w.heap.size 30 ti (.agg #[.int .i64 0, .int .i64 0, .int .i64 0, .int .i64 0]) 4 32 Try.underlying22 HI.out.1 HI.out.2.1 HI.out.2.2.1 HI.out.2.2.2 rfl (by decide) (.slice A i c) i xs rfl HOWA.out (wr.heap.size + 1) (some ⟨wr.heap.size + 1, 0, none⟩) 1 1 [.int .i64 1, .int .i64 cvi, .int .i64 (100 * ↑i), .int .i64 (100 * ↑i + 50)] rfl rfl HNW.out (by simp [Value.oneCell']) (by unfold maxLen; omega) (by omega) (by simp; omega) ?_); intro A2 c2 w2 hc2 hown2 hg2 hat2; have HO2 := Lib.hid (HOA.out.append HOWA.out hg2 (fun i hi hb => by omega)); have HW2 := Lib.hid (HNX.out w2 A2 c2 (by rw [HX.out]; exact hown2)); clear hown2 hg2 hat2 hc2 HOA HOWA HNW)
              all_goals
                go_roundw
                case rel => exact ⟨i + 1, A2, c2, by omega, by simp, by rw [HCVS.out, HCV'.out], rfl, (by rw [HYS.out]; exact HW2.out), HO2.out⟩
                case measure => simp [intOf]; omega
          · have e2' : decide (0 ≤ ei) = false := by simp; omega
            have HX : Hid (op = ⟨1, cvi, 100 * (i : Int), 100 * (i : Int) + 50⟩) := Lib.hid (by rw [HOP'.out, HCE.out, if_neg (fun h => e2 h.2.1)]; congr 1 <;> omega)
            clear HOP' HCE hie
            have hnw := At.new' (g := wr.heap.size + 1) (w := wr.alloc (.cells #[.int .i64 1, .int .i64 cvi, .int .i64 (100 * ↑i), .int .i64 (100 * ↑i + 50)] 30)) (by simp) 30 #[.int .i64 1, .int .i64 cvi, .int .i64 (100 * ↑i), .int .i64 (100 * ↑i + 50)]
            have HNW := Lib.hid (Rd.fresh hnw _ rfl)
            have HOWA := Lib.hid ((HOW.out.alloc (.cells #[.int .i64 1, .int .i64 cvi, .int .i64 (100 * ↑i), .int .i64 (100 * ↑i + 50)] 30)).alloc (.cells #[.int .i64 1, .int .i64 cvi, .int .i64 (100 * ↑i), .int .i64 (100 * ↑i + 50)] 30))
            have HOA := Lib.hid ((HO.out.alloc (.cells #[.int .i64 1, .int .i64 cvi, .int .i64 (100 * ↑i), .int .i64 (100 * ↑i + 50)] 30)).alloc (.cells #[.int .i64 1, .int .i64 cvi, .int .i64 (100 * ↑i), .int .i64 (100 * ↑i + 50)] 30))
            have hsz := HO.out.size
            clear hnw
            go_wp2_with (at_builtin; go_loud (refine wpList_append_src _ rfl (.tmp 84) (.tmp 86) 22 rfl w.heap.size 30 ti (.agg #[.int .i64 0, .int .i64 0, .int .i64 0, .int .i64 0]) 4 32 Try.underlying22 HI.out.1 HI.out.2.1 HI.out.2.2.1 HI.out.2.2.2 rfl (by decide) (.slice A i c) i xs rfl HOWA.out (wr.heap.size + 1) (some ⟨wr.heap.size + 1, 0, none⟩) 1 1 [.int .i64 1, .int .i64 cvi, .int .i64 (100 * ↑i), .int .i64 (100 * ↑i + 50)] rfl rfl HNW.out (by simp [Value.oneCell']) (by unfold maxLen; omega) (by omega) (by simp; omega) ?_); intro A2 c2 w2 hc2 hown2 hg2 hat2; have HO2 := Lib.hid (HOA.out.append HOWA.out hg2 (fun i hi hb => by omega)); have HW2 := Lib.hid (HNX.out w2 A2 c2 (by rw [HX.out]; exact hown2)); clear hown2 hg2 hat2 hc2 HOA HOWA HNW)
            all_goals
              go_roundw
              case rel => exact ⟨i + 1, A2, c2, by omega, by simp, by rw [HCVS.out, HCV'.out], rfl, (by rw [HYS.out]; exact HW2.out), HO2.out⟩
              case measure => simp [intOf]; omega
        · have e1 : ¬ (i : Int) < es.length := by omega
          have HX : Hid (op = ⟨1, cvi, 100 * (i : Int), 100 * (i : Int) + 50⟩) := Lib.hid (by rw [HOP'.out, HCE.out, if_neg (fun h => hie h.1)]; congr 1 <;> omega)
          clear HOP' HCE hie
          have hnw := At.new' (g := wr.heap.size + 1) (w := wr.alloc (.cells #[.int .i64 1, .int .i64 cvi, .int .i64 (100 * ↑i), .int .i64 (100 * ↑i + 50)] 30)) (by simp) 30 #[.int .i64 1, .int .i64 cvi, .int .i64 (100 * ↑i), .int .i64 (100 * ↑i + 50)]
          have HNW := Lib.hid (Rd.fresh hnw _ rfl)
          have HOWA := Lib.hid ((HOW.out.alloc (.cells #[.int .i64 1, .int .i64 cvi, .int .i64 (100 * ↑i), .int .i64 (100 * ↑i + 50)] 30)).alloc (.cells #[.int .i64 1, .int .i64 cvi, .int .i64 (100 * ↑i), .int .i64 (100 * ↑i + 50)] 30))
          have HOA := Lib.hid ((HO.out.alloc (.cells #[.int .i64 1, .int .i64 cvi, .int .i64 (100 * ↑i), .int .i64 (100 * ↑i + 50)] 30)).alloc (.cells #[.int .i64 1, .int .i64 cvi, .int .i64 (100 * ↑i), .int .i64 (100 * ↑i + 50)] 30))
          have hsz := HO.out.size
          clear hnw
          go_wp2_with (at_builtin; go_loud (refine wpList_append_src _ rfl (.tmp 84) (.tmp 86) 22 rfl w.heap.size 30 ti (.agg #[.int .i64 0, .int .i64 0, .int .i64 0, .int .i64 0]) 4 32 Try.underlying22 HI.out.1 HI.out.2.1 HI.out.2.2.1 HI.out.2.2.2 rfl (by decide) (.slice A i c) i xs rfl HOWA.out (wr.heap.size + 1) (some ⟨wr.heap.size + 1, 0, none⟩) 1 1 [.int .i64 1, .int .i64 cvi, .int .i64 (100 * ↑i), .int .i64 (100 * ↑i + 50)] rfl rfl HNW.out (by simp [Value.oneCell']) (by unfold maxLen; omega) (by omega) (by simp; omega) ?_); intro A2 c2 w2 hc2 hown2 hg2 hat2; have HO2 := Lib.hid (HOA.out.append HOWA.out hg2 (fun i hi hb => by omega)); have HW2 := Lib.hid (HNX.out w2 A2 c2 (by rw [HX.out]; exact hown2)); clear hown2 hg2 hat2 hc2 HOA HOWA HNW)
          all_goals
            go_roundw
            case rel => exact ⟨i + 1, A2, c2, by omega, by simp, by rw [HCVS.out, HCV'.out], rfl, (by rw [HYS.out]; exact HW2.out), HO2.out⟩
            case measure => simp [intOf]; omega
    · obtain rfl : i = n := by omega
      have i1 : ¬ (i : Int) < i := by omega
      obtain ⟨hr, hk⟩ := serial_law ws es i (by omega)
      obtain ⟨gF, hgF⟩ : ∃ gF, Rd wr gF A (dv (sl ws es i)) := by
        by_cases h0 : dv (sl ws es i) = []
        · exact ⟨0, .inl h0⟩
        · obtain ⟨g, _, h⟩ := own_row HOW.out h0
          exact ⟨g, h⟩
      have H1 := Lib.hid (check_any gF c A (sl ws es i) wr hgF (by rw [sl_len]; omega) (wfL_of (fun x hx => by
        obtain ⟨j, hj, rfl⟩ := List.mem_map.1 hx
        exact cv_wf HWF.out (j + 1))))
      rw [sl_len, hk, right_eno hr] at H1
      clear hr hk hgF
      go_wp2_with (fail)
      refine H1.out.mono ?_
      rintro e w2 ⟨rfl, hO2⟩
      have HO2 := Lib.hid ((HO.out.trans hO2).below (Nat.le_refl _) (fun i hi h => h))
      clear hO2 H1
      go_wp2
      go_ret
      exact ⟨rfl, HO2.out⟩
end Go.Proofs.Ytgedinpafnfmmaa
