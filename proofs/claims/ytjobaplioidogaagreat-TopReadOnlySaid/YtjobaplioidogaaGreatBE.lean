/- Top: a sector is set in the map; what was found is laid. -/
import Derived.Test.YtjobaplioidogaaGreatBD
namespace Go.Proofs.YtjobaplioidogaaGreat
open Go.RowKit

set_option maxRecDepth 100000 in
set_option maxHeartbeats 4000000 in
theorem addr_one (mb kt kw vb lo : Nat) (st sw : Nat → Sh) (w : World) (k : MAt w mb kt kw vb gq 2 st sw (fun _ => ⟨-1, 0, 0⟩) (fun _ => 0) [0, 0] lo) :
    Calls Tryz.prog 154 #[.pointer (some ⟨mb, 0, none⟩), .int .i64 0] w fun e w' => e = .returned (.bool true) ∧ Only (fun _ => False) w w' := by
  have HA : Hid (∀ W, Calls Tryz.prog 101 #[.agg #[.int .i64 1, .int .i64 1, .int .i64 2, .int .i64 2, .int .i64 1]] W fun e w' => e = .returned (.int .i64 4) ∧ Only (fun _ => False) W w') := Lib.hid (fun W => all_any gq gq_is W)
  have hh : At w mb 142 #[.int .i64 1, .int .i64 1, .int .i64 2, .int .i64 2, .int .i64 1, .int .i64 2, .pointer (some ⟨kt, 0, none⟩), .pointer (some ⟨kw, 0, none⟩), .slice (some ⟨vb, 0, none⟩) 2 2] := k.hd
  have c0 := hh.cell 0
  have c1 := hh.cell 1
  have c2 := hh.cell 2
  have c3 := hh.cell 3
  have c4 := hh.cell 4
  simp only [List.getElem?_toArray, List.getElem?_cons_zero, List.getElem?_cons_succ] at c0 c1 c2 c3 c4
  clear k hh
  go_enter Tryz.func154, Tryz.ntmps154
  go_wp2_with (fail)
  refine (HA.out _).mono ?_
  rintro e w1 ⟨rfl, hO⟩
  have HO := Lib.hid hO
  clear hO
  go_wp2
  go_ret
  exact ⟨rfl, HO.out⟩

set_option maxRecDepth 100000 in
set_option maxHeartbeats 4000000 in
theorem others_one (mb kt kw vb lo : Nat) (st sw : Nat → Sh) (w : World) (k : MAt w mb kt kw vb gq 2 st sw (fun _ => ⟨-1, 0, 0⟩) (fun _ => 0) [0, 0] lo) :
    Calls Tryz.prog 186 #[.pointer (some ⟨mb, 0, none⟩), .int .i64 1, .int .i64 0] w fun e w' => e = .returned (.bool false) ∧ w' = w := by
  have HI := Lib.hid (atI_sh kw 4 0 lo sw _ w k.who k.nw (by omega) (by omega))
  have hh : At w mb 142 #[.int .i64 1, .int .i64 1, .int .i64 2, .int .i64 2, .int .i64 1, .int .i64 2, .pointer (some ⟨kt, 0, none⟩), .pointer (some ⟨kw, 0, none⟩), .slice (some ⟨vb, 0, none⟩) 2 2] := k.hd
  have c7 := hh.cell 7
  simp only [List.getElem?_toArray, List.getElem?_cons_zero, List.getElem?_cons_succ] at c7
  clear k hh
  go_enter Tryz.func186, Tryz.ntmps186
  go_wp2_with (fail)
  refine HI.out.mono ?_
  rintro e w1 ⟨s, o, hs, hA, rfl, hc, rfl⟩
  have y0 := hc 0 _ rfl
  rw [Nat.add_zero] at y0
  clear hc hA hs HI
  go_wp2
  go_ret
  exact ⟨rfl, rfl⟩

def SetP (mb kt kw vb lo : Nat) (w w' : World) : Prop := At w' mb 142 #[.int .i64 1, .int .i64 1, .int .i64 2, .int .i64 2, .int .i64 1, .int .i64 2, .pointer (some ⟨kt, 0, none⟩), .pointer (some ⟨kw, 0, none⟩), .slice (some ⟨vb, 0, none⟩) 2 2] ∧ At w' vb 3 #[.int .i64 1, .int .i64 0] ∧ Only (fun i => lo ≤ i) w w'

set_option maxRecDepth 100000 in
set_option maxHeartbeats 8000000 in
theorem set_one (mb kt kw vb lo : Nat) (st sw : Nat → Sh) (w : World) (k : MAt w mb kt kw vb gq 2 st sw (fun _ => ⟨-1, 0, 0⟩) (fun _ => 0) [0, 0] lo) (hsep : ∀ s, s < 4 → (sw s).A ≠ none → (sw s).g ≠ vb) :
    Calls Tryz.prog 145 #[.pointer (some ⟨mb, 0, none⟩), .int .i64 1, .agg #[.int .i64 0, .int .i64 5, .int .i64 1]] w fun e w' => e = .returned (.tuple #[.bool true, .int .i64 0]) ∧ SetP mb kt kw vb lo w w' := by
  have ob := (Only.refl (fun _ => False) w).alloc (.cells #[.int .i64 0, .int .i64 5, .int .i64 1] 163)
  have HGE : Hid (∀ W, Only (fun _ => False) w W → Calls Tryz.prog 85 #[.pointer (some ⟨mb, 0, none⟩), .int .i64 1] W fun e w' => e = .returned (.tuple #[.agg #[.int .i64 (-1), .int .i64 0, .int .i64 0], .int .i64 0]) ∧ Only (fun _ => False) W w') := Lib.hid (fun W o => mapGet_any mb kt kw vb 2 1 lo gq st sw _ _ _ W (k.quiet o) (by omega) (by omega))
  have HAD := Lib.hid (fun W (o : Only (fun _ => False) w W) => addr_one mb kt kw vb lo st sw W (k.quiet o))
  have HOT := Lib.hid (fun W (o : Only (fun _ => False) w W) => others_one mb kt kw vb lo st sw W (k.quiet o))
  have HPU := Lib.hid (fun W (o : Only (fun _ => False) w W) => put_one mb kt kw vb lo st sw W (k.quiet o) hsep)
  have HBX := Lib.hid (At.new w 163 #[.int .i64 0, .int .i64 5, .int .i64 1])
  have HO := Lib.hid ob
  unfold SetP
  clear k ob hsep
  go_enter Tryz.func145, Tryz.ntmps145
  go_wp2_with (fail)
  refine (HGE.out _ HO.out).mono ?_
  rintro e w1 ⟨rfl, hO⟩
  have oa := hO.alloc (.cells #[.int .i64 (-1), .int .i64 0, .int .i64 0] 163)
  have HO1 := Lib.hid (HO.out.trans oa)
  have hB := HBX.out.only oa id
  have HB1 := Lib.hid hB
  have HD1 := Lib.hid (At.new w1 163 #[.int .i64 (-1), .int .i64 0, .int .i64 0])
  have b0 := hB.cell 0
  simp only [List.getElem?_toArray, List.getElem?_cons_zero, List.getElem?_cons_succ] at b0
  clear hB oa hO
  go_wp2_with (fail)
  refine (HAD.out _ HO1.out).mono ?_
  rintro e w2 ⟨rfl, hO⟩
  have hB := HB1.out.only hO id
  have hD := HD1.out.only hO id
  have HO2 := Lib.hid (HO1.out.trans hO)
  clear hO b0
  have b0 := hB.cell 0
  have b1 := hB.cell 1
  have b2 := hB.cell 2
  have d1 := hD.cell 1
  simp only [List.getElem?_toArray, List.getElem?_cons_zero, List.getElem?_cons_succ] at b0 b1 b2 d1
  clear hB hD
  go_wp2_with (fail)
  refine (HOT.out _ HO2.out).mono ?_
  rintro e w3 ⟨rfl, rfl⟩
  go_wp2_with (fail)
  refine (HPU.out _ HO2.out).mono ?_
  rintro e w4 ⟨rfl, hh, hv, hO⟩
  have HH := Lib.hid hh
  have HV := Lib.hid hv
  have HO4 := Lib.hid ((HO2.out.mono (T := fun i => lo ≤ i) (fun _ _ h => h.elim)).trans hO)
  clear hh hv hO b0 b1 b2 d1
  go_wp2
  go_ret2
  exact ⟨rfl, HH.out, HV.out, HO4.out⟩

set_option maxRecDepth 100000 in
set_option maxHeartbeats 8000000 in
theorem lay_one (mb kt kw vb lo g : Nat) (st sw : Nat → Sh) (w : World) (k : MAt w mb kt kw vb gq 2 st sw (fun _ => ⟨-1, 0, 0⟩) (fun _ => 0) [0, 0] lo) (hsep : ∀ s, s < 4 → (sw s).A ≠ none → (sw s).g ≠ vb) (h : At w g 163 #[.int .i64 (-1), .int .i64 0, .int .i64 0, .int .i64 0, .int .i64 5, .int .i64 1]) :
    Calls Tryz.prog 54 #[.iface 62 (.pointer (some ⟨mb, 0, none⟩)), .slice (some ⟨g, 0, none⟩) 2 2] w fun e w' => e = .returned (.tuple #[]) ∧ SetP mb kt kw vb lo w w' := by
  have HSE := Lib.hid (fun W (o : Only (fun _ => False) w W) => set_one mb kt kw vb lo st sw W (k.quiet o) hsep)
  have HX := Lib.hid h
  unfold SetP at *
  clear k h hsep
  go_enter Tryz.func54, Tryz.ntmps54
  go_wp2_with (fail)
  go_loopw [4, 5, 8] (fun v4 v5 v8 wr => (v8 = .int .i64 0 ∧ Only (fun _ => False) w wr) ∨ (v8 = .int .i64 1 ∧ Only (fun _ => False) w wr) ∨ (v8 = .int .i64 2 ∧ At wr mb 142 #[.int .i64 1, .int .i64 1, .int .i64 2, .int .i64 2, .int .i64 1, .int .i64 2, .pointer (some ⟨kt, 0, none⟩), .pointer (some ⟨kw, 0, none⟩), .slice (some ⟨vb, 0, none⟩) 2 2] ∧ At wr vb 3 #[.int .i64 1, .int .i64 0] ∧ Only (fun i => lo ≤ i) w wr)) (fun _ _ v8 _ => (2 - intOf v8).toNat)
  case atStart => exact .inl ⟨rfl, Only.refl _ _⟩
  case round =>
    rcases hrel with ⟨rfl, hO⟩ | ⟨rfl, hO⟩ | ⟨rfl, hh, hv, hO⟩
    · have hx := HX.out.only hO id
      have c0 := hx.cell 0
      have c1 := hx.cell 1
      have c2 := hx.cell 2
      simp only [List.getElem?_toArray, List.getElem?_cons_zero, List.getElem?_cons_succ] at c0 c1 c2
      have HOa := Lib.hid (hO.alloc (.cells #[.int .i64 (-1), .int .i64 0, .int .i64 0] 163))
      clear hO hx
      go_wp2
      go_roundw
      case rel => exact .inr (.inl ⟨by simp, HOa.out⟩)
      case measure => simp [intOf]
    · have hx := HX.out.only hO id
      have c0 := hx.cell 3
      have c1 := hx.cell 4
      have c2 := hx.cell 5
      simp only [List.getElem?_toArray, List.getElem?_cons_zero, List.getElem?_cons_succ] at c0 c1 c2
      have HOa := Lib.hid (hO.alloc (.cells #[.int .i64 0, .int .i64 5, .int .i64 1] 163))
      have hN := At.new wr 163 #[.int .i64 0, .int .i64 5, .int .i64 1]
      have n0 := hN.cell 0
      have n1 := hN.cell 1
      have n2 := hN.cell 2
      simp only [List.getElem?_toArray, List.getElem?_cons_zero, List.getElem?_cons_succ] at n0 n1 n2
      clear hO hx hN
      go_wp2_with (fail)
      refine (HSE.out _ HOa.out).mono ?_
      rintro e w1 ⟨rfl, hh, hv, hO⟩
      have HH := Lib.hid hh
      have HV := Lib.hid hv
      have HO1 := Lib.hid ((HOa.out.mono (T := fun i => lo ≤ i) (fun _ _ h => h.elim)).trans hO)
      clear hh hv hO n0 n1 n2 c0 c1 c2
      go_wp2
      go_roundw
      case rel => exact .inr (.inr ⟨by simp, HH.out, HV.out, HO1.out⟩)
      case measure => simp [intOf]
    · have HF := Lib.hid (And.intro hh (And.intro hv hO))
      clear hh hv hO
      go_wp2
      refine bodyPost_end (results_none rfl _ _ _) rfl ?_
      exact ⟨rfl, HF.out⟩
end Go.Proofs.YtjobaplioidogaaGreat
