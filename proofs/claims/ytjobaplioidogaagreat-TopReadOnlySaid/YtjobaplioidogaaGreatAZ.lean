/- Top: all that stands on a device of one sector. -/
import Derived.Test.YtjobaplioidogaaGreatAY
namespace Go.Proofs.YtjobaplioidogaaGreat
open Go.RowKit

/-- One that was found. -/
def fnd (p q : Nat) : List Value := [.int .i64 0, .int .i64 1, .int .i64 1, .int .i64 5, .slice (some ⟨p, 0, none⟩) 16 q]
def FoundP (w w' : World) (A : Option Addr) (c : Nat) : Prop := ∃ g p q, Rd w' g A (fnd p q) ∧ 16 ≤ q ∧ 1 ≤ c ∧ Rd w' p (some ⟨p, 0, none⟩) (bv datL) ∧ (w.heap.size ≤ g ∧ w.heap.size ≤ p)
theorem FoundP.quiet {w w1 w2 : World} {A : Option Addr} {c : Nat} (h : FoundP w w1 A c) (o : Only (fun _ => False) w1 w2) : FoundP w w2 A c := by
  obtain ⟨g, p, q, h1, h2, h3, h4, h5⟩ := h
  exact ⟨g, p, q, h1.only o id, h2, h3, h4.only o id, h5⟩

set_option maxRecDepth 100000 in
set_option maxHeartbeats 16000000 in
theorem all_one (S0 S : Int) (h0 : crcL 0 oobL = S0) (h1 : crcL S0 datL = S) (hS : takeL (S % 256) (S / 256 % 256) (S / 65536 % 256) (S / 16777216 % 256) = S) (d gb mp pp : Nat) (l : List Bk) (A B : Option Addr) (c c' g3 g4 : Nat) (w : World) (k : NAt w d gb mp pp gq l (oneE A B c c') 1) (hr3 : Rd w g3 A (bv datL)) (hr4 : Rd w g4 B (lob S)) :
    Calls Tryz.prog 105 #[.pointer (some ⟨d, 0, none⟩)] w fun e w' => ∃ A1 c1, e = .returned (.slice A1 1 c1) ∧ FoundP w w' A1 c1 ∧ Only (fun _ => False) w w' := by
  have HRD := Lib.hid (ready_any d gb mp pp gq l _ 1 w k)
  have HGE : Hid (Calls Tryz.prog 51 #[.pointer (some ⟨d, 0, none⟩)] w fun e w' => e = .returned (.agg #[.int .i64 1, .int .i64 1, .int .i64 2, .int .i64 2, .int .i64 1]) ∧ Only (fun _ => False) w w') := Lib.hid (geometry_any d gb mp pp gq l _ 1 w k)
  have HAL : Hid (∀ W, Calls Tryz.prog 101 #[.agg #[.int .i64 1, .int .i64 1, .int .i64 2, .int .i64 2, .int .i64 1]] W fun e w' => e = .returned (.int .i64 4) ∧ Only (fun _ => False) W w') := Lib.hid (fun W => all_any gq gq_is W)
  have HR0 := Lib.hid (fun W (o : Only (fun _ => False) w W) => read_one (lob S) (lob_len S) (bv_one _) d gb mp pp l A B c c' g3 g4 W (k.quiet o) (hr3.only o id) (hr4.only o id))
  have HRG := Lib.hid (fun W (o : Only (fun _ => False) w W) (i : Int) (hi : i = 1 ∨ i = 2 ∨ i = 3) => read_gone d gb mp pp l A B c c' i hi W (k.quiet o))
  have HUN := Lib.hid (fun pb qb pd qd hq W h h' => unpack_one S0 S h0 h1 hS pb qb pd qd hq W h h')
  obtain ⟨i0, hi0⟩ : ∃ i, Tryz.prog.info? 192 = some i := ⟨_, rfl⟩
  have HI := Lib.hid (And.intro hi0 (And.intro (show i0.zero = some (.agg #[.int .i64 0, .int .i64 0, .int .i64 0, .int .i64 0, .slice none 0 0]) by cases hi0; rfl) (And.intro (show i0.size = 5 by cases hi0; rfl) (show i0.bytes = 56 by cases hi0; rfl))))
  unfold FoundP
  generalize bv datL = ld at *
  generalize lob S = ls at *
  clear k hi0 h0 h1 hS hr3 hr4
  go_enter Tryz.func105, Tryz.ntmps105
  go_wp2_with (fail)
  refine HRD.out.mono ?_
  rintro e w1 ⟨rfl, rfl⟩
  go_wp2_with (fail)
  refine HGE.out.mono ?_
  rintro e w2 ⟨rfl, hO⟩
  have HO2 := Lib.hid hO
  clear hO
  go_wp2_with (fail)
  refine (HAL.out _).mono ?_
  rintro e w3 ⟨rfl, hO⟩
  have HO3 := Lib.hid (HO2.out.trans hO)
  clear hO
  obtain ⟨w0, hw0⟩ : ∃ w0, w0 = w1 := ⟨_, rfl⟩
  subst hw0
  go_wp2_with (fail)
  go_loopw [3, 4, 5, 6, 7, 8, 14] (fun v3 v4 v5 v6 v7 v8 v14 wr => Only (fun _ => False) w0 wr ∧ ((v14 = .int .i64 0 ∧ v3 = .slice none 0 0) ∨ (∃ i : Nat, (1 ≤ i ∧ i ≤ 4) ∧ v14 = .int .i64 i ∧ ∃ A1 c1, v3 = .slice A1 1 c1 ∧ ∃ g p q, Rd wr g A1 (fnd p q) ∧ 16 ≤ q ∧ 1 ≤ c1 ∧ Rd wr p (some ⟨p, 0, none⟩) ld ∧ (w0.heap.size ≤ g ∧ w0.heap.size ≤ p)))) (fun _ _ _ _ _ _ v14 _ => (4 - intOf v14).toNat)
  case atStart => exact ⟨HO3.out, .inl ⟨rfl, rfl⟩⟩
  case round =>
    obtain ⟨hO, ⟨rfl, rfl⟩ | ⟨i, hi, rfl, A1, c1, rfl, g, p, q, hr, hq, hc, hrd, hge⟩⟩ := hrel
    · have HOr := Lib.hid hO
      clear hO
      go_wp2_with (fail)
      refine (HR0.out _ HOr.out).mono ?_
      rintro e w4 ⟨p3, p4, q3, q4, rfl, hq3, hq4, hr3, hr4, hge, hO⟩
      have HR3 := Lib.hid hr3
      have HR4 := Lib.hid hr4
      have HO4 := Lib.hid (HOr.out.trans hO)
      have HP3 := Lib.hid (Nat.le_trans HOr.out.size hge.1)
      have HQ3 := Lib.hid hq3
      clear hr3 hr4 hge hO hq3
      go_wp2_with (fail)
      refine (HUN.out p4 q4 p3 q3 hq4 _ HR4.out HR3.out).mono ?_
      rintro e w5 ⟨rfl, hO⟩
      have hX := At.new w5 105 #[.int .i64 1, .int .i64 1, .int .i64 5]
      have x0 := hX.cell 0
      have x1 := hX.cell 1
      have x2 := hX.cell 2
      simp only [List.getElem?_toArray, List.getElem?_cons_zero, List.getElem?_cons_succ] at x0 x1 x2
      have oa := (hO.alloc (.cells #[.int .i64 1, .int .i64 1, .int .i64 5] 105)).alloc (.cells #[.int .i64 0, .int .i64 1, .int .i64 1, .int .i64 5, .slice (some ⟨p3, 0, none⟩) 16 q3] 192)
      have HO5 := Lib.hid (HO4.out.trans oa)
      have HR5 := Lib.hid (HR3.out.only oa id)
      have HN5 : Hid (Rd ((w5.alloc (.cells #[.int .i64 1, .int .i64 1, .int .i64 5] 105)).alloc (.cells #[.int .i64 0, .int .i64 1, .int .i64 1, .int .i64 5, .slice (some ⟨p3, 0, none⟩) 16 q3] 192)) (w5.heap.size + 1) (some ⟨w5.heap.size + 1, 0, none⟩) (fnd p3 q3)) := Lib.hid (At.rdL (xs := fnd p3 q3) (At.new' (by simp) 192 _))
      have HS5 := Lib.hid HO5.out.size
      clear hX hO oa
      go_wp2_with (at_builtin; go_loud (refine wpList_append_src _ rfl (.tmp 39) (.tmp 44) 127 rfl w0.heap.size 192 i0 (.agg #[.int .i64 0, .int .i64 0, .int .i64 0, .int .i64 0, .slice none 0 0]) 5 56 Tryz.underlying127 HI.out.1 HI.out.2.1 HI.out.2.2.1 HI.out.2.2.2 rfl (by decide) (.slice none 0 0) 0 [] rfl (World.ownsRow_nil _ w0.heap.size 192 5) (w5.heap.size + 1) (some ⟨w5.heap.size + 1, 0, none⟩) 1 1 (fnd p3 q3) rfl rfl HN5.out (by intro u hu; simp only [fnd, List.mem_cons, List.not_mem_nil, or_false] at hu; rcases hu with rfl | rfl | rfl | rfl | rfl <;> rfl) (by unfold maxLen; omega) (by omega) HS5.out ?_); intro A1 c1 w6 hc1 hown1 hg1 hat; rw [List.nil_append] at hown1; have HC1 := Lib.hid hc1; have HOW := Lib.hid hown1; have HO6 := Lib.hid (HO5.out.grown hg1 (fun i hi e => by simp [Value.ownBlock] at e)); have HR6 := Lib.hid (HR5.out.only (Only.of_grown hg1) (fun e => by simp [Value.ownBlock] at e)); clear hown1 hg1 hat hc1 x0 x1 x2)
      obtain ⟨g, hg, hrd⟩ := own_row HOW.out (by simp [fnd])
      have HRR := Lib.hid hrd
      have HGG := Lib.hid hg
      clear hg hrd
      go_roundw
      case rel => exact ⟨HO6.out, .inr ⟨1, ⟨by omega, by omega⟩, by simp, A1, c1, by simp, g, p3, q3, HRR.out, HQ3.out, by have := HC1.out; omega, HR6.out, HGG.out, HP3.out⟩⟩
      case measure => simp [intOf]
    · have HOr := Lib.hid hO
      have HF := Lib.hid (And.intro hr (And.intro hq (And.intro hc (And.intro hrd hge))))
      clear hO hr hq hc hrd hge
      by_cases h4 : i < 4
      · have i1 : decide ((i : Int) < 4) = true := decide_eq_true (by omega)
        have i1' : decide (i < 4) = true := decide_eq_true (by omega)
        go_wp2_with (fail)
        refine (HRG.out _ HOr.out i (by omega)).mono ?_
        rintro e w4 ⟨rfl, hO⟩
        have HO4 := Lib.hid (HOr.out.trans hO)
        have HF4 := Lib.hid (And.intro (HF.out.1.only hO id) (HF.out.2.2.2.1.only hO id))
        clear hO
        go_wp2
        go_roundw
        case rel => exact ⟨HO4.out, .inr ⟨i + 1, ⟨by omega, by omega⟩, by simp, A1, c1, rfl, g, p, q, HF4.out.1, HF.out.2.1, HF.out.2.2.1, HF4.out.2, HF.out.2.2.2.2⟩⟩
        case measure => simp [intOf]; omega
      · obtain rfl : i = 4 := by omega
        go_wp2
        go_ret
        exact ⟨A1, c1, rfl, ⟨g, p, q, HF.out⟩, HOr.out⟩
end Go.Proofs.YtjobaplioidogaaGreat
