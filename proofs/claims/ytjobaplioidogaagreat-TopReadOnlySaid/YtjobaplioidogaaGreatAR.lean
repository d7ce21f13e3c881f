/- Top: append inside a region; what stands beside a sector, packed. -/
import Derived.Test.YtjobaplioidogaaGreatM
import Derived.Test.YtjobaplioidogaaGreatAQ
import Derived.Test.YtjobaplioidogaaGreatAO
namespace Go.Proofs.YtjobaplioidogaaGreat
open Go.RowKit

theorem step_append_src {P : Program} {ops : Array Oper} {o : Oper} {a : Act} {w : World} {K : Act → World → Prop} {Q : Exit → Act → World → Prop} {E : Prop} (hgd : o.guard = none) (s x : Operand) (t : TypeId)
    (ho : o.op = Op.call { callee := Callee.builtin Builtin.append, args := #[s, x], argTypes := #[t, t] })
    (base : Nat) (e : TypeId) (i : TypeInfo) (z : Value) (size bytes : Nat) (ht : P.underlying t = some (.slice e)) (hi : P.info? e = some i) (hz : i.zero = some z)
    (hsize : i.size = size) (hby : i.bytes = bytes) (hzs : z.cells.size = size) (hsz : 0 < size)
    (v : Value) (n : Nat) (xs : List Value) (hs : a.eval s = v) (hown : w.ownsRow base e size v n xs)
    (g : Nat) (A : Option Addr) (m c : Nat) (news : List Value) (hx : a.eval x = .slice A m c) (hl : news.length = m * size) (hr : Rd w g A news) (h1 : ∀ u ∈ news, u.oneCell' = true)
    (h63 : n + m ≤ maxLen) (hbytes : (n + m) * bytes ≤ 140737488355328) (hbase : base ≤ w.heap.size)
    (h : ∀ A' c' w', n + m ≤ c' → w'.ownsRow base e size (.slice A' (n + m) c') (n + m) (xs ++ news) → w.grownBy w' v.ownBlock → K (a.put o.dst (.slice A' (n + m) c')) w') :
    if Region.wanted o (yielded ops a.tmps) = true then Oper.wp P o a w K Q else E := by
  have hw : Region.wanted o (yielded ops a.tmps) = true := by simp [Region.wanted, hgd]
  rw [if_pos hw]
  obtain ⟨v', w', hrun, h2, h3, _⟩ := run_append_src (P := P) w base t o.type e i z size bytes ht hi hz hsize hby hzs hsz v n xs hown g A m c news hl hr h1 h63 hbytes hbase
  unfold Oper.wp execOp
  simp only [ho, resolve, invoke, builtin, Sem.run_bind, Sem.run_pure, Result.andThen_ok, List.map_toArray, List.map_cons, List.map_nil, hs, hx, hrun]
  obtain ⟨A', c', rfl, hc⟩ := ownsRow_form h2
  exact h A' c' w' hc h2 h3

/-- An empty row in a block of its own. -/
theorem own_fresh {w : World} {g base : Nat} {e : TypeId} (h : At w g e #[]) (hb : base ≤ g) (size : Nat) : w.ownsRow base e size (.slice (some ⟨g, 0, none⟩) 0 0) 0 [] :=
  ⟨by simp, .inr ⟨g, 0, #[], rfl, hb, h, Nat.le_refl _, by simp [maxLen], by simp, by simp⟩⟩
theorem ownsRow_kept' {w w' : World} {base : Nat} {e : TypeId} {size n : Nat} {v : Value} {xs : List Value} {S : Nat → Prop} (h : w.ownsRow base e size v n xs) (k : Only S w w') (hS : ∀ i, v.ownBlock = some i → ¬ S i) : w'.ownsRow base e size v n xs := by
  refine ⟨h.1, ?_⟩
  rcases h.2 with h1 | ⟨g, cap, cur, h1, h2, h3, h4⟩
  · exact .inl h1
  · exact .inr ⟨g, cap, cur, h1, h2, (k.block g (Array.getElem?_eq_some_iff.1 h3).1 (hS g (by rw [h1]; rfl))).trans h3, h4⟩
/-- An append onto a row of one's own changes nothing that lay there before base. -/
theorem Only.append {S : Nat → Prop} {a w w' : World} {base : Nat} {e : TypeId} {size n : Nat} {v : Value} {xs : List Value} (h : Only S a w) (hown : w.ownsRow base e size v n xs) (k : w.grownBy w' v.ownBlock) (hb : ∀ i, i < a.heap.size → base ≤ i → S i) : Only S a w' :=
  h.grown k fun i hi e => hb i hi (hown.lt i e).1
theorem Rd.grown {w w' : World} {g : Nat} {A : Option Addr} {xs : List Value} {row : Option Nat} (h : Rd w g A xs) (k : w.grownBy w' row) (hne : A ≠ none → row ≠ some g) : Rd w' g A xs := by
  rcases h with h | ⟨off, rfl, h2, h3⟩
  · exact .inl h
  · exact Rd.only (.inr ⟨off, rfl, h2, h3⟩) (Only.of_grown k) (fun e => hne (by simp) e.symm)
theorem At.grown {w w' : World} {g : Nat} {t : TypeId} {cs : Array Value} {row : Option Nat} (h : At w g t cs) (k : w.grownBy w' row) (hne : row ≠ some g) : At w' g t cs :=
  h.only (Only.of_grown k) (fun e => hne e.symm)
theorem own_ne {w : World} {base : Nat} {e : TypeId} {size n : Nat} {v : Value} {xs : List Value} (h : w.ownsRow base e size v n xs) {g : Nat} (hg : g < base) : v.ownBlock ≠ some g := fun e => by
  have := (h.lt g e).1; omega
theorem own_row {w : World} {base : Nat} {e : TypeId} {size n c : Nat} {A : Option Addr} {xs : List Value} (h : w.ownsRow base e size (.slice A n c) n xs) (hne : xs ≠ []) : ∃ g, base ≤ g ∧ Rd w g A xs := by
  rcases h.2 with ⟨he, rfl⟩ | ⟨g, cap, cur, he, hb, hg, _, _, hs, hx⟩
  · exact absurd (List.eq_nil_of_length_eq_zero (by simpa using h.1)) hne
  · injection he with hA _ _
    subst hA
    refine ⟨g, hb, .inr ⟨0, rfl, (Array.getElem?_eq_some_iff.1 hg).1, fun j u hu => ?_⟩⟩
    rw [Nat.zero_add, cell_of_row w g j cur e (0, 0) hg]
    rw [← hx, List.getElem?_take] at hu
    split at hu
    · simpa using hu
    · cases hu
end Go.Proofs.YtjobaplioidogaaGreat

namespace Go.Proofs.YtjobaplioidogaaGreat
open Go.RowKit

theorem At.rdE {w : World} {g : Nat} {t : TypeId} {cs : Array Value} {xs : List Value} (h : At w g t cs) (e : cs = xs.toArray) : Rd w g (some ⟨g, 0, none⟩) xs := by
  subst e
  exact At.rdL h

set_option maxRecDepth 100000 in
set_option maxHeartbeats 8000000 in
theorem pack_one (S0 S : Int) (h0 : crcL 0 oobL = S0) (h1 : crcL S0 datL = S) (Ad : Option Addr) (cd gd : Nat) (w : World) (hr : Rd w gd Ad (bv datL)) :
    Calls Tryz.prog 41 #[oobV, .slice Ad 16 cd] w fun e w' => ∃ A c g, e = .returned (.tuple #[.slice A 17 c, .int .i64 0]) ∧ w.heap.size ≤ g ∧ Rd w' g A (bv (oobL ++ fixL S)) ∧ Only (fun _ => False) w w' := by
  have HX := Lib.hid (At.new w 105 #[.int .i64 1, .int .i64 1, .int .i64 5])
  have HO := Lib.hid ((Only.refl (fun _ => False) w).alloc (.cells #[.int .i64 1, .int .i64 1, .int .i64 5] 105))
  have HRT := Lib.hid (fun W => oobRight_one W)
  have HLA : Hid (∀ W, Calls Tryz.prog 92 #[oobV] W fun e w' => e = .returned (.agg #[.int .u8 1, .int .u8 1, .int .u8 0, .int .u8 0, .int .u8 0, .int .u8 5, .int .u8 0, .int .u8 0, .int .u8 0, .int .u8 0, .int .u8 0, .int .u8 0, .int .u8 0]) ∧ Only (fun _ => False) W w') := Lib.hid (fun W => laid_one W)
  have HS1 := Lib.hid (fun A c g W h => crcSum_any oobL 13 rfl (by omega) A c g W h)
  have HS2 := Lib.hid (fun A c g W h => crc_any S0 datL 16 rfl (by omega) A c g W h)
  have HFX := Lib.hid (fun W => fixed_any S W)
  rw [h0] at HS1
  rw [h1] at HS2
  have HRD := Lib.hid hr
  obtain ⟨i0, hi0⟩ : ∃ i, Tryz.prog.info? 5 = some i := ⟨_, rfl⟩
  have HI := Lib.hid (And.intro hi0 (And.intro (show i0.zero = some (.int .u8 0) by cases hi0; rfl) (And.intro (show i0.size = 1 by cases hi0; rfl) (show i0.bytes = 1 by cases hi0; rfl))))
  have HB1 := Lib.hid (bv_one oobL)
  have HB2 := Lib.hid (bv_one (fixL S))
  have HL1 := Lib.hid (show (bv oobL).length = 13 from rfl)
  have HL2 := Lib.hid (show (bv (fixL S)).length = 4 from rfl)
  have HAP := Lib.hid (show bv (oobL ++ fixL S) = bv oobL ++ bv (fixL S) by simp [bv])
  rw [HAP.out]
  have HLL : Hid (#[.int .u8 1, .int .u8 1, .int .u8 0, .int .u8 0, .int .u8 0, .int .u8 5, .int .u8 0, .int .u8 0, .int .u8 0, .int .u8 0, .int .u8 0, .int .u8 0, .int .u8 0] = (bv oobL).toArray) := Lib.hid rfl
  generalize bv oobL = l1 at *
  generalize bv (fixL S) = l2 at *
  generalize bv datL = ld at *
  clear hr hi0 h0 h1
  have x0 := HX.out.cell 0
  have x1 := HX.out.cell 1
  have x2 := HX.out.cell 2
  simp only [List.getElem?_toArray, List.getElem?_cons_zero, List.getElem?_cons_succ] at x0 x1 x2
  unfold oobV at *
  go_enter Tryz.func41, Tryz.ntmps41
  go_wp2_with (fail)
  refine (HRT.out _).mono ?_
  rintro e w1 ⟨rfl, hO⟩
  have hx := HX.out.only hO id
  have HO1 := Lib.hid (HO.out.trans hO)
  have y0 := hx.cell 0
  have y1 := hx.cell 1
  have y2 := hx.cell 2
  simp only [List.getElem?_toArray, List.getElem?_cons_zero, List.getElem?_cons_succ] at y0 y1 y2
  clear hx hO x0 x1 x2
  go_wp2_with (fail)
  refine (HLA.out _).mono ?_
  rintro e w2 ⟨rfl, hO⟩
  have oa := hO.alloc (.cells #[.int .u8 1, .int .u8 1, .int .u8 0, .int .u8 0, .int .u8 0, .int .u8 5, .int .u8 0, .int .u8 0, .int .u8 0, .int .u8 0, .int .u8 0, .int .u8 0, .int .u8 0] 175)
  have HO2 := Lib.hid (HO1.out.trans oa)
  have HA := Lib.hid (At.new w2 175 #[.int .u8 1, .int .u8 1, .int .u8 0, .int .u8 0, .int .u8 0, .int .u8 5, .int .u8 0, .int .u8 0, .int .u8 0, .int .u8 0, .int .u8 0, .int .u8 0, .int .u8 0])
  clear hO oa y0 y1 y2
  go_wp2_with (fail)
  refine (HS1.out (some ⟨w2.heap.size, 0, none⟩) 13 w2.heap.size _ (At.rdE HA.out HLL.out)).mono ?_
  rintro e w3 ⟨rfl, rfl⟩
  go_wp2_with (fail)
  refine (HS2.out Ad cd gd _ (HRD.out.only HO2.out id)).mono ?_
  rintro e w4 ⟨rfl, rfl⟩
  obtain ⟨W4, hW4⟩ : ∃ W', W' = w2.alloc (.cells #[.int .u8 1, .int .u8 1, .int .u8 0, .int .u8 0, .int .u8 0, .int .u8 5, .int .u8 0, .int .u8 0, .int .u8 0, .int .u8 0, .int .u8 0, .int .u8 0, .int .u8 0] 175) := ⟨_, rfl⟩
  rw [← hW4] at HO2 HA ⊢
  clear hW4
  have HRA : Hid (Rd (W4.alloc (.cells #[] 5)) w2.heap.size (some ⟨w2.heap.size, 0, none⟩) l1) := Lib.hid ((At.rdE HA.out HLL.out).only ((Only.refl (fun _ => False) _).alloc _) id)
  have HO4 := Lib.hid (HO2.out.alloc (.cells #[] 5))
  have HOWN := Lib.hid (ownsRow_fresh W4 5 1)
  go_wp2_with (at_builtin; go_loud (refine wpList_append_src _ rfl (.tmp 22) (.tmp 23) 27 rfl W4.heap.size 5 i0 (.int .u8 0) 1 1 Tryz.underlying27 HI.out.1 HI.out.2.1 HI.out.2.2.1 HI.out.2.2.2 rfl (by decide) (.slice (some ⟨W4.heap.size, 0, none⟩) 0 0) 0 [] rfl HOWN.out w2.heap.size (some ⟨w2.heap.size, 0, none⟩) 13 13 l1 rfl (by rw [HL1.out]) HRA.out HB1.out (by unfold maxLen; omega) (by omega) (by simp) ?_); intro A1 c1 w5 hc1 hown1 hg1 hat; rw [List.nil_append] at hown1; have HOW := Lib.hid hown1; have HG := Lib.hid hg1; clear hown1 hg1 hat hc1)
  refine (HFX.out _).mono ?_
  rintro e w6 ⟨rfl, hA, hO⟩
  have HO5 := Lib.hid (HO4.out.append HOWN.out HG.out (fun i hi hb => by have := HO2.out.size; omega))
  have HO6 := Lib.hid (HO5.out.trans hO)
  have HOW6 := Lib.hid (ownsRow_kept' HOW.out hO (fun _ _ => id))
  have HR6 := Lib.hid (At.rdL hA)
  have HSZ := Lib.hid (Nat.le_trans (show W4.heap.size ≤ w5.heap.size from by have := HG.out.size; simp at this; omega) hO.size)
  clear hA hO
  go_wp2_with (at_builtin; go_loud (refine wpList_append_src _ rfl (.tmp 24) (.tmp 26) 27 rfl W4.heap.size 5 i0 (.int .u8 0) 1 1 Tryz.underlying27 HI.out.1 HI.out.2.1 HI.out.2.2.1 HI.out.2.2.2 rfl (by decide) (.slice A1 (0 + 13) c1) (0 + 13) l1 rfl HOW6.out w5.heap.size (some ⟨w5.heap.size, 0, none⟩) 4 4 l2 rfl (by rw [HL2.out]) HR6.out HB2.out (by unfold maxLen; omega) (by omega) HSZ.out ?_); intro A2 c2 w7 hc2 hown2 hg2 hat2; have HOWN2 := Lib.hid hown2; have HG2 := Lib.hid hg2; clear hown2 hg2 hat2 hc2)
  have HO7 := Lib.hid (HO6.out.append HOW6.out HG2.out (fun i hi hb => by have := HO2.out.size; omega))
  obtain ⟨g2, hg, hrd⟩ := own_row HOWN2.out (by intro e; have := congrArg List.length e; simp [HL1.out] at this)
  have HRR := Lib.hid hrd
  have HGG := Lib.hid (Nat.le_trans HO2.out.size hg)
  clear hg hrd
  go_ret2
  exact ⟨A2, c2, g2, rfl, HGG.out, HRR.out, HO7.out⟩
end Go.Proofs.YtjobaplioidogaaGreat
