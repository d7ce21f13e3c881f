/- Top: a page of one sector. -/
import Derived.Test.YtjobaplioidogaaGreatAR
import Derived.Laws.EntriesVeiled
namespace Go.Proofs.YtjobaplioidogaaGreat
open Go.RowKit

def slotV (A : Option Addr) (c : Nat) : Array Value := #[.int .i64 1, .int .i64 1, .int .i64 5, .slice A 16 c, .int .i64 0]
set_option maxRecDepth 100000 in
set_option maxHeartbeats 8000000 in
theorem pageSector_one (Ad : Option Addr) (cd gd : Nat) (w : World) (hr : Rd w gd Ad (bv datL)) :
    Calls Tryz.prog 40 #[.agg (slotV Ad cd)] w fun e w' => ∃ A c g, e = .returned (.slice A 16 c) ∧ w.heap.size ≤ g ∧ Rd w' g A (bv datL) ∧ Only (fun _ => False) w w' := by
  obtain ⟨i0, hi0⟩ : ∃ i, Tryz.prog.info? 5 = some i := ⟨_, rfl⟩
  have HI := Lib.hid (And.intro hi0 (And.intro (show i0.zero = some (.int .u8 0) by cases hi0; rfl) (And.intro (show i0.size = 1 by cases hi0; rfl) (show i0.bytes = 1 by cases hi0; rfl))))
  have hX := At.new w 60 (slotV Ad cd)
  have hO := (Only.refl (fun _ => False) w).alloc (.cells (slotV Ad cd) 60)
  unfold slotV at *
  have x0 := hX.cell 0
  have hX2 := hX.alloc (.cells #[] 5)
  have x3 := hX2.cell 3
  simp only [List.getElem?_toArray, List.getElem?_cons_zero, List.getElem?_cons_succ] at x0 x3
  have HOWN := Lib.hid (ownsRow_fresh (w.alloc (.cells #[.int .i64 1, .int .i64 1, .int .i64 5, .slice Ad 16 cd, .int .i64 0] 60)) 5 1)
  have HO := Lib.hid (hO.alloc (.cells #[] 5))
  have HR := Lib.hid ((hr.only hO id).only ((Only.refl (fun _ => False) _).alloc (.cells #[] 5)) id)
  have HL := Lib.hid (show (bv datL).length = 16 from rfl)
  have HB := Lib.hid (bv_one datL)
  generalize bv datL = ld at *
  clear hi0 hX hO hr hX2
  go_enter Tryz.func40, Tryz.ntmps40
  go_wp2_with (at_builtin; go_loud (refine wpList_append_src _ rfl (.tmp 7) (.tmp 9) 27 rfl (w.heap.size + 1) 5 i0 (.int .u8 0) 1 1 Tryz.underlying27 HI.out.1 HI.out.2.1 HI.out.2.2.1 HI.out.2.2.2 rfl (by decide) (.slice (some ⟨w.heap.size + 1, 0, none⟩) 0 0) 0 [] rfl (by simpa using HOWN.out) gd Ad 16 cd ld rfl (by rw [HL.out]) HR.out HB.out (by unfold maxLen; omega) (by omega) (by simp) ?_); intro A1 c1 w2 hc1 hown1 hg1 hat; rw [List.nil_append] at hown1; have HOW := Lib.hid hown1; have HG := Lib.hid hg1; clear hown1 hg1 hat hc1)
  have HO2 := Lib.hid (HO.out.grown HG.out (fun i hi e => by simp [Value.ownBlock] at e; omega))
  obtain ⟨g2, hg, hrd⟩ := own_row HOW.out (by intro e; have := congrArg List.length e; simp [HL.out] at this)
  have HRR := Lib.hid hrd
  have HGG := Lib.hid (show w.heap.size ≤ g2 by omega)
  clear hg hrd
  go_ret
  exact ⟨A1, c1, g2, rfl, HGG.out, HRR.out, HO2.out⟩

set_option maxRecDepth 100000 in
set_option maxHeartbeats 8000000 in
theorem pads_any (w : World) : Calls Tryz.prog 42 #[] w fun e w' => e = .returned (.agg #[.func (.func 96) #[] #[]]) ∧ Only (fun _ => False) w w' := by
  go_enter Tryz.func42, Tryz.ntmps42
  go_wp2
  refine bodyPost_ret (v := .agg #[.func (.func 96) #[] #[]]) (results_cell_row (ty := 108) rfl _ _ w.heap.size 108 #[.func (.func 96) #[] #[]] (0, 0) _ rfl (At.new w 108 _) Tryz.underlying108 rfl (by kernel_rfl)) rfl ?_
  exact ⟨rfl, (Only.refl _ _).alloc _⟩

set_option maxRecDepth 100000 in
set_option maxHeartbeats 8000000 in
theorem fill_one (f : Value) (A B : Option Addr) (c c' : Nat) (w : World) : Calls Tryz.prog 43 #[.agg #[f], .int .i64 1, .slice A 1 c, .slice B 1 c'] w fun e w' => e = .returned (.tuple #[.slice A 1 c, .slice B 1 c', .int .i64 0]) ∧ Only (fun _ => False) w w' := by
  have HO := Lib.hid ((Only.refl (fun _ => False) w).alloc (.cells #[f] 108))
  go_enter Tryz.func43, Tryz.ntmps43
  go_wp2_with (fail)
  go_loopw [2, 3, 11, 12] (fun v2 v3 v11 v12 wr => v2 = .slice A 1 c ∧ v3 = .slice B 1 c' ∧ Only (fun _ => False) w wr) (fun _ _ _ _ _ => 0)
  case atStart => exact ⟨rfl, rfl, HO.out⟩
  case round =>
    obtain ⟨rfl, rfl, hO⟩ := hrel
    have HO2 := Lib.hid hO
    clear hO
    go_wp2
    refine bodyPost_ret (results_tmp3 rfl _ _ _) rfl ?_
    exact ⟨rfl, HO2.out⟩

set_option maxRecDepth 100000 in
set_option maxHeartbeats 16000000 in
theorem build_one (S0 S : Int) (h0 : crcL 0 oobL = S0) (h1 : crcL S0 datL = S) (Ad : Option Addr) (cd gd sb : Nat) (w : World) (hr : Rd w gd Ad (bv datL)) (hs : At w sb 60 (slotV Ad cd)) :
    Calls Tryz.prog 18 #[.int .i64 1, .slice (some ⟨sb, 0, none⟩) 1 1] w fun e w' => ∃ A1 c1 g1 A2 c2 g2 A3 c3 g3 A4 c4 g4, e = .returned (.tuple #[.slice A1 1 c1, .slice A2 1 c2, .int .i64 0]) ∧
      (w.heap.size ≤ g1 ∧ w.heap.size ≤ g2 ∧ w.heap.size ≤ g3 ∧ w.heap.size ≤ g4) ∧ Rd w' g1 A1 [.slice A3 16 c3] ∧ Rd w' g2 A2 [.slice A4 17 c4] ∧ Rd w' g3 A3 (bv datL) ∧ Rd w' g4 A4 (bv (oobL ++ fixL S)) ∧ Only (fun _ => False) w w' := by
  have HSE := Lib.hid (fun A c g W h => pageSector_one A c g W h)
  have HPA := Lib.hid (fun A c g W h => pack_one S0 S h0 h1 A c g W h)
  have HPD := Lib.hid (fun W => pads_any W)
  have HFI := Lib.hid (fun A B c c' W => fill_one (.func (.func 96) #[] #[]) A B c c' W)
  have HRD := Lib.hid hr
  obtain ⟨i0, hi0⟩ : ∃ i, Tryz.prog.info? 27 = some i := ⟨_, rfl⟩
  have HI := Lib.hid (And.intro hi0 (And.intro (show i0.zero = some (.slice none 0 0) by cases hi0; rfl) (And.intro (show i0.size = 1 by cases hi0; rfl) (show i0.bytes = 24 by cases hi0; rfl))))
  generalize bv datL = ld at *
  generalize bv (oobL ++ fixL S) = lo at *
  have HSL := Lib.hid hs
  unfold slotV oobV at *
  have x0 := hs.cell 0
  have x1 := hs.cell 1
  have x2 := hs.cell 2
  have x3 := hs.cell 3
  have x4 := hs.cell 4
  simp only [List.getElem?_toArray, List.getElem?_cons_zero, List.getElem?_cons_succ] at x0 x1 x2 x3 x4
  clear hi0 hr hs h0 h1
  go_enter Tryz.func18, Tryz.ntmps18
  go_wp2_with (fail)
  go_loopw [7, 8, 10, 11, 12, 13, 33] (fun v7 v8 v10 v11 v12 v13 v33 wr => (v33 = .int .i64 0 ∧ v7 = .slice none 0 0 ∧ v8 = .slice none 0 0 ∧ w = wr) ∨ (v33 = .int .i64 1 ∧ ∃ A1 c1 g1 A2 c2 g2 A3 c3 g3 A4 c4 g4, v7 = .slice A1 1 c1 ∧ v8 = .slice A2 1 c2 ∧ (w.heap.size ≤ g1 ∧ w.heap.size ≤ g2 ∧ w.heap.size ≤ g3 ∧ w.heap.size ≤ g4) ∧ Rd wr g1 A1 [.slice A3 16 c3] ∧ Rd wr g2 A2 [.slice A4 17 c4] ∧ Rd wr g3 A3 ld ∧ Rd wr g4 A4 lo ∧ Only (fun _ => False) w wr)) (fun _ _ _ _ _ _ v33 _ => (1 - intOf v33).toNat)
  case atStart => exact .inl ⟨rfl, rfl, rfl, rfl⟩
  case round =>
    rcases hrel with ⟨rfl, rfl, rfl, rfl⟩ | ⟨rfl, A1, c1, g1, A2, c2, g2, A3, c3, g3, A4, c4, g4, rfl, rfl, hge, hr1, hr2, hr3, hr4, hO⟩
    · have hB := At.new w 60 #[.int .i64 1, .int .i64 1, .int .i64 5, .slice Ad 16 cd, .int .i64 0]
      have y0 := hB.cell 0
      have y1 := hB.cell 1
      have y2 := hB.cell 2
      have y3 := hB.cell 3
      have y4 := hB.cell 4
      simp only [List.getElem?_toArray, List.getElem?_cons_zero, List.getElem?_cons_succ] at y0 y1 y2 y3 y4
      have HB := Lib.hid hB
      have HOB := Lib.hid ((Only.refl (fun _ => False) w).alloc (.cells #[.int .i64 1, .int .i64 1, .int .i64 5, .slice Ad 16 cd, .int .i64 0] 60))
      clear hB
      go_wp2_with (fail)
      refine (HSE.out Ad cd gd _ (HRD.out.only HOB.out id)).mono ?_
      rintro e w2 ⟨A3, c3, g3, rfl, hge3, hr3, hO⟩
      have HR3 := Lib.hid hr3
      have HG3 := Lib.hid (Nat.le_trans HOB.out.size hge3)
      have HO2 := Lib.hid (HOB.out.trans hO)
      have hB := HB.out.only hO id
      have HB2 := Lib.hid hB
      clear hr3 hge3 hO y0 y1 y2 y3 y4 x0 x1 x2 x3 x4
      have y0 := hB.cell 0
      have y1 := hB.cell 1
      have y2 := hB.cell 2
      simp only [List.getElem?_toArray, List.getElem?_cons_zero, List.getElem?_cons_succ] at y0 y1 y2
      clear hB
      go_wp2_with (fail)
      refine (HPA.out A3 c3 g3 _ HR3.out).mono ?_
      rintro e w3 ⟨A4, c4, g4, rfl, hge4, hr4, hO⟩
      have HG4 := Lib.hid (Nat.le_trans HO2.out.size hge4)
      have hB := HB2.out.only hO id
      have z0 := hB.cell 0
      simp only [List.getElem?_toArray, List.getElem?_cons_zero, List.getElem?_cons_succ] at z0
      have oa := hO.alloc (.cells #[.slice A3 16 c3] 27)
      have HO3 := Lib.hid (HO2.out.trans oa)
      have HR3a := Lib.hid (HR3.out.only oa id)
      have HR4a := Lib.hid (hr4.only ((Only.refl (fun _ => False) w3).alloc (.cells #[.slice A3 16 c3] 27)) id)
      have HN3 := Lib.hid (At.rdL (xs := [.slice A3 16 c3]) (At.new w3 27 #[.slice A3 16 c3]))
      have HS3 := Lib.hid HO3.out.size
      clear hr4 hge4 hO hB y0 y1 y2 oa
      go_wp2_with (first | (at_builtin; (refine wpList_append_src _ rfl (.tmp 63) (.tmp 65) 56 rfl w.heap.size 27 i0 (.slice none 0 0) 1 24 Tryz.underlying56 HI.out.1 HI.out.2.1 HI.out.2.2.1 HI.out.2.2.2 rfl (by decide) (.slice none 0 0) 0 [] rfl (World.ownsRow_nil _ w.heap.size 27 1) w3.heap.size (some ⟨w3.heap.size, 0, none⟩) 1 1 [.slice A3 16 c3] rfl rfl HN3.out (by intro u hu; rw [List.mem_singleton.1 hu]; rfl) (by unfold maxLen; omega) (by omega) HS3.out ?_); intro A1 c1 w5 hc1 hown1 hg1 hat; rw [List.nil_append] at hown1; have HOW := Lib.hid hown1; have HG := Lib.hid hg1; have o5 := (HO3.out.grown hg1 (fun i hi e => by simp [Value.ownBlock] at e)); have oq := Only.of_grown hg1; have oa := (Only.refl (fun _ => False) w5).alloc (.cells #[.slice A4 17 c4] 27); have HO5 := Lib.hid (o5.trans oa); have HR3b := Lib.hid ((HR3a.out.only oq (fun e => by simp [Value.ownBlock] at e)).only oa id); have HR4b := Lib.hid ((HR4a.out.only oq (fun e => by simp [Value.ownBlock] at e)).only oa id); have HOW5 := Lib.hid (ownsRow_kept' hown1 oa (fun _ _ => id)); have HN5 := Lib.hid (At.rdL (xs := [.slice A4 17 c4]) (At.new w5 27 #[.slice A4 17 c4])); have HS5 := Lib.hid HO5.out.size; clear hown1 hg1 hat hc1 o5 oq oa z0) | (at_builtin; (refine wpList_append_src _ rfl (.tmp 67) (.tmp 69) 56 rfl w.heap.size 27 i0 (.slice none 0 0) 1 24 Tryz.underlying56 HI.out.1 HI.out.2.1 HI.out.2.2.1 HI.out.2.2.2 rfl (by decide) (.slice none 0 0) 0 [] rfl (World.ownsRow_nil _ w.heap.size 27 1) w5.heap.size (some ⟨w5.heap.size, 0, none⟩) 1 1 [.slice A4 17 c4] rfl rfl HN5.out (by intro u hu; rw [List.mem_singleton.1 hu]; rfl) (by unfold maxLen; omega) (by omega) HS5.out ?_); intro A2 c2 w6 hc2 hown2 hg2 hat2; rw [List.nil_append] at hown2; have HOWN2 := Lib.hid hown2; have oq := Only.of_grown hg2; have HO6 := Lib.hid (HO5.out.grown hg2 (fun i hi e => by simp [Value.ownBlock] at e)); have HR3c := Lib.hid (HR3b.out.only oq (fun e => by simp [Value.ownBlock] at e)); have HR4c := Lib.hid (HR4b.out.only oq (fun e => by simp [Value.ownBlock] at e)); have HOW6 := Lib.hid (ownsRow_kept' HOW5.out oq (fun _ _ e => by simp [Value.ownBlock] at e)); clear hown2 hg2 hat2 hc2 oq))
      obtain ⟨g1, hg1, hrd1⟩ := own_row HOW6.out (by simp)
      obtain ⟨g2, hg2, hrd2⟩ := own_row HOWN2.out (by simp)
      have HRR := Lib.hid (And.intro hrd1 hrd2)
      have HGG := Lib.hid (And.intro hg1 (And.intro hg2 (And.intro HG3.out HG4.out)))
      clear hg1 hg2 hrd1 hrd2
      go_roundw
      case rel => exact .inr ⟨by simp, A1, c1, g1, A2, c2, g2, A3, c3, g3, A4, c4, g4, rfl, rfl, HGG.out, HRR.out.1, HRR.out.2, HR3c.out, HR4c.out, HO6.out⟩
      case measure => simp [intOf]
    · have HGE := Lib.hid hge
      have HR := Lib.hid (And.intro hr1 (And.intro hr2 (And.intro hr3 hr4)))
      have HO := Lib.hid hO
      clear hge hr1 hr2 hr3 hr4 hO x0 x1 x2 x3 x4
      go_wp2_with (fail)
      refine (HPD.out _).mono ?_
      rintro e w2 ⟨rfl, hO1⟩
      have HO1 := Lib.hid hO1
      clear hO1
      go_wp2_with (fail)
      refine (HFI.out A1 A2 c1 c2 _).mono ?_
      rintro e w3 ⟨rfl, hO2⟩
      have HO2 := Lib.hid (HO1.out.trans hO2)
      clear hO2
      go_wp2
      refine bodyPost_ret (results_tmp3 rfl _ _ _) rfl ?_
      exact ⟨A1, c1, g1, A2, c2, g2, A3, c3, g3, A4, c4, g4, rfl, HGE.out, HR.out.1.only HO2.out id, HR.out.2.1.only HO2.out id, HR.out.2.2.1.only HO2.out id, HR.out.2.2.2.only HO2.out id, HO.out.trans HO2.out⟩
end Go.Proofs.YtjobaplioidogaaGreat
