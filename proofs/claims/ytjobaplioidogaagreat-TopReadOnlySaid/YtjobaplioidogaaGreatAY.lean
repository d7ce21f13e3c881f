/- Top: what stands beside a sector, unpacked. -/
import Derived.Test.YtjobaplioidogaaGreatAX
namespace Go.Proofs.YtjobaplioidogaaGreat
open Go.RowKit

theorem Rd.drop' {w : World} {g : Nat} {xs : List Value} (h : Rd w g (some ⟨g, 0, none⟩) xs) (k : Nat) (hk : k < xs.length) : Rd w g (some ⟨g, k, none⟩) (xs.drop k) := by
  obtain ⟨o, e, hl, hc⟩ := h.at (by intro e; rw [e] at hk; simp at hk)
  injection e with e
  injection e with _ e2 _
  subst e2
  refine .inr ⟨k, rfl, hl, fun j u hu => ?_⟩
  have := hc (k + j) u (by rw [List.getElem?_drop] at hu; exact hu)
  rw [Nat.zero_add] at this
  exact this
theorem Rd.pre {w : World} {g : Nat} {xs ys : List Value} (h : Rd w g (some ⟨g, 0, none⟩) (xs ++ ys)) (hx : xs ≠ []) : Rd w g (some ⟨g, 0, none⟩) xs := by
  obtain ⟨o, e, hl, hc⟩ := h.at (by simp [hx])
  injection e with e
  injection e with _ e2 _
  subst e2
  refine .inr ⟨0, rfl, hl, fun j u hu => hc j u ?_⟩
  rw [List.getElem?_append_left (by
    by_cases hj : j < xs.length
    · exact hj
    · rw [List.getElem?_eq_none (by omega)] at hu; cases hu)]
  exact hu
theorem copy_bytes {W : World} {b n g m q : Nat} {T : TypeId} {cs : Array Value} {xs : List Value} (hA : At W b T cs) (hx : xs.length = n) (hF : Rd W g (some ⟨g, 0, none⟩) xs) (hs : n = cs.size) (hn : n ≤ m) (hne : xs ≠ []) (h1 : ∀ u ∈ xs, u.oneCell' = true) :
    (Builtin.copy_ #[27, 27] 3 #[.slice (some ⟨b, 0, none⟩) n n, .slice (some ⟨g, 0, none⟩) m q]).run Tryz.prog W = .ok (goInt n) (W.setCells b 0 xs) ∧ At (W.setCells b 0 xs) b T xs.toArray ∧ Only (fun i => i = b) W (W.setCells b 0 xs) := by
  refine ⟨?_, ?_, only_setCells xs 0 W W (Only.refl _ _) rfl⟩
  · have h := run_copy_cells (P := Tryz.prog) W 27 27 3 5 b 0 n n ⟨g, 0, none⟩ m q xs Tryz.underlying27 size5 (by rw [hx]; exact (Nat.min_eq_right hn).symm) (fun j v hj => by
      obtain ⟨o, e, _, hc⟩ := hF.at hne
      injection e with e
      injection e with _ e2 _
      subst e2
      have := hc j v hj
      by_cases hj0 : j = 0
      · subst hj0; simpa [Addr.add] using this
      · simpa [Addr.add, hj0] using this) (fun j hj => by
      rw [hA.cell, Array.getElem?_eq_getElem (by omega)]; rfl) (fun j _ => hA.frozen _) h1
    rw [h, hx]
  · obtain ⟨cs', h1, h2, h3, _⟩ := at_setCells xs 0 W cs hA (by omega)
    have e : cs' = xs.toArray := by
      apply Array.ext_getElem?
      intro i
      by_cases hi : i < xs.length
      · have := h3 i xs[i] (by simp [hi])
        rw [Nat.zero_add] at this
        rw [this]; simp [hi]
      · rw [Array.getElem?_eq_none (by omega), Array.getElem?_eq_none (by simp; omega)]
    rwa [e] at h1

def lob (S : Int) : List Value := bv (oobL ++ fixL S)
theorem lob_len (S : Int) : (lob S).length = 17 := rfl
theorem lob_app (S : Int) : lob S = bv oobL ++ bv (fixL S) := by simp [lob, bv]

set_option maxRecDepth 100000 in
theorem eq_thirteen (W : World) : (Op.equalIn 10000 175 (.agg #[.int .u8 1, .int .u8 1, .int .u8 0, .int .u8 0, .int .u8 0, .int .u8 5, .int .u8 0, .int .u8 0, .int .u8 0, .int .u8 0, .int .u8 0, .int .u8 0, .int .u8 0]) (.agg #[.int .u8 1, .int .u8 1, .int .u8 0, .int .u8 0, .int .u8 0, .int .u8 5, .int .u8 0, .int .u8 0, .int .u8 0, .int .u8 0, .int .u8 0, .int .u8 0, .int .u8 0])).run Tryz.prog W = .ok true W := by kernel_rfl

set_option maxRecDepth 100000 in
set_option maxHeartbeats 16000000 in
theorem unpack_one (S0 S : Int) (h0 : crcL 0 oobL = S0) (h1 : crcL S0 datL = S) (hS : takeL (S % 256) (S / 256 % 256) (S / 65536 % 256) (S / 16777216 % 256) = S) (pb qb pd qd : Nat) (hq : 17 ≤ qb) (w : World) (hb : Rd w pb (some ⟨pb, 0, none⟩) (lob S)) (hd : Rd w pd (some ⟨pd, 0, none⟩) (bv datL)) :
    Calls Tryz.prog 160 #[.slice (some ⟨pb, 0, none⟩) 17 qb, .slice (some ⟨pd, 0, none⟩) 16 qd] w fun e w' => e = .returned (.tuple #[.agg #[.int .i64 1, .int .i64 1, .int .i64 5], .int .i64 0]) ∧ Only (fun _ => False) w w' := by
  have HT1 : Hid (∀ W c, Rd W pb (some ⟨pb, 0, none⟩) (lob S) → Calls Tryz.prog 193 #[.slice (some ⟨pb, 1, none⟩) 16 c] W fun e w' => e = .returned (.tuple #[.int .u32 1, .int .i64 0]) ∧ Only (fun _ => False) W w') := Lib.hid (fun W c h => takeFixed_any 1 0 0 0 16 (by omega) _ c pb _ W (h.drop' 1 (by rw [lob_len]; omega)))
  have HT2 : Hid (∀ W c, Rd W pb (some ⟨pb, 0, none⟩) (lob S) → Calls Tryz.prog 193 #[.slice (some ⟨pb, 5, none⟩) 12 c] W fun e w' => e = .returned (.tuple #[.int .u32 5, .int .i64 0]) ∧ Only (fun _ => False) W w') := Lib.hid (fun W c h => takeFixed_any 5 0 0 0 12 (by omega) _ c pb _ W (h.drop' 5 (by rw [lob_len]; omega)))
  have HT3 : Hid (∀ W c, Rd W pb (some ⟨pb, 0, none⟩) (lob S) → Calls Tryz.prog 193 #[.slice (some ⟨pb, 9, none⟩) 8 c] W fun e w' => e = .returned (.tuple #[.int .u32 0, .int .i64 0]) ∧ Only (fun _ => False) W w') := Lib.hid (fun W c h => takeFixed_any 0 0 0 0 8 (by omega) _ c pb _ W (h.drop' 9 (by rw [lob_len]; omega)))
  have HT4 : Hid (∀ W c, Rd W pb (some ⟨pb, 0, none⟩) (lob S) → Calls Tryz.prog 193 #[.slice (some ⟨pb, 13, none⟩) 4 c] W fun e w' => e = .returned (.tuple #[.int .u32 S, .int .i64 0]) ∧ Only (fun _ => False) W w') := Lib.hid (fun W c h => by
    have := takeFixed_any (S % 256) (S / 256 % 256) (S / 65536 % 256) (S / 16777216 % 256) 4 (by omega) _ c pb _ W (h.drop' 13 (by rw [lob_len]; omega))
    rwa [hS] at this)
  have HRT := Lib.hid (fun W => oobRight_one W)
  have HLA : Hid (∀ W, Calls Tryz.prog 92 #[oobV] W fun e w' => e = .returned (.agg #[.int .u8 1, .int .u8 1, .int .u8 0, .int .u8 0, .int .u8 0, .int .u8 5, .int .u8 0, .int .u8 0, .int .u8 0, .int .u8 0, .int .u8 0, .int .u8 0, .int .u8 0]) ∧ Only (fun _ => False) W w') := Lib.hid (fun W => laid_one W)
  have HS1 := Lib.hid (fun A c g W h => crcSum_any oobL 13 rfl (by omega) A c g W h)
  have HS2 := Lib.hid (fun A c g W h => crc_any S0 datL 16 rfl (by omega) A c g W h)
  rw [h0] at HS1
  rw [h1] at HS2
  have HAPP := Lib.hid (lob_app S)
  have HLEN := Lib.hid (show (bv oobL).length = 13 from rfl)
  have HONE := Lib.hid (bv_one oobL)
  have HARR := Lib.hid (show (bv oobL).toArray = #[.int .u8 1, .int .u8 1, .int .u8 0, .int .u8 0, .int .u8 0, .int .u8 5, .int .u8 0, .int .u8 0, .int .u8 0, .int .u8 0, .int .u8 0, .int .u8 0, .int .u8 0] from rfl)
  have HNE := Lib.hid (show bv oobL ≠ [] by simp [bv, oobL])
  have HHD := Lib.hid (show ∀ W, Rd W pb (some ⟨pb, 0, none⟩) (lob S) → W.cell? ⟨pb, 0, none⟩ = some (.int .u8 1) from fun W h => Rd.c0 (xs := (lob S).drop 1) h)
  have HB := Lib.hid hb
  have HD := Lib.hid hd
  have hbits : bits .or .i64 0 5 = 5 := by decide
  unfold oobV at *
  generalize lob S = ls at *
  generalize bv oobL = lo at *
  generalize bv datL = ld at *
  clear h0 h1 hS hb hd
  have i1 : (17 : Int) ≤ qb := by omega
  have i2 : (1 : Int) ≤ qb := by omega
  go_enter Tryz.func160, Tryz.ntmps160
  go_wp2_with (fail)
  have HO1 := Lib.hid ((Only.refl (fun _ => False) w).alloc (.cells #[.int .i64 0, .int .i64 0, .int .i64 0] 105))
  have HR1 := Lib.hid (At.new w 105 #[.int .i64 0, .int .i64 0, .int .i64 0])
  refine (HT1.out _ _ (HB.out.only HO1.out id)).mono ?_
  rintro e w1 ⟨rfl, hO⟩
  have HO2 := Lib.hid (HO1.out.trans hO)
  have HR2 := Lib.hid (HR1.out.only hO id)
  clear hO
  go_wp2_with (fail)
  refine (HT2.out _ _ (HB.out.only HO2.out id)).mono ?_
  rintro e w2 ⟨rfl, hO⟩
  have HO3 := Lib.hid (HO2.out.trans hO)
  have HR3 := Lib.hid (HR2.out.only hO id)
  clear hO
  go_wp2_with (fail)
  refine (HT3.out _ _ (HB.out.only HO3.out id)).mono ?_
  rintro e w3 ⟨rfl, hO⟩
  have HO4 := Lib.hid (HO3.out.trans hO)
  have HR4 := Lib.hid (HR3.out.only hO id)
  have y0 := HHD.out _ (HB.out.only HO4.out id)
  clear hO
  have ho5 := (HO4.out.alloc (.cells #[.int .i64 1, .int .i64 1, .int .i64 5] 105)).alloc (.cells #[.int .u8 0, .int .u8 0, .int .u8 0, .int .u8 0, .int .u8 0, .int .u8 0, .int .u8 0, .int .u8 0, .int .u8 0, .int .u8 0, .int .u8 0, .int .u8 0, .int .u8 0] 175)
  have HO5 := Lib.hid ho5
  have HX5 := Lib.hid ((At.new w3 105 #[.int .i64 1, .int .i64 1, .int .i64 5]).alloc (.cells #[.int .u8 0, .int .u8 0, .int .u8 0, .int .u8 0, .int .u8 0, .int .u8 0, .int .u8 0, .int .u8 0, .int .u8 0, .int .u8 0, .int .u8 0, .int .u8 0, .int .u8 0] 175))
  have HR5 := Lib.hid ((HR4.out.alloc (.cells #[.int .i64 1, .int .i64 1, .int .i64 5] 105)).alloc (.cells #[.int .u8 0, .int .u8 0, .int .u8 0, .int .u8 0, .int .u8 0, .int .u8 0, .int .u8 0, .int .u8 0, .int .u8 0, .int .u8 0, .int .u8 0, .int .u8 0, .int .u8 0] 175))
  have hA : At ((w3.alloc (.cells #[.int .i64 1, .int .i64 1, .int .i64 5] 105)).alloc (.cells #[.int .u8 0, .int .u8 0, .int .u8 0, .int .u8 0, .int .u8 0, .int .u8 0, .int .u8 0, .int .u8 0, .int .u8 0, .int .u8 0, .int .u8 0, .int .u8 0, .int .u8 0] 175)) (w3.heap.size + 1) 175 #[.int .u8 0, .int .u8 0, .int .u8 0, .int .u8 0, .int .u8 0, .int .u8 0, .int .u8 0, .int .u8 0, .int .u8 0, .int .u8 0, .int .u8 0, .int .u8 0, .int .u8 0] := At.new' (by simp) 175 _
  obtain ⟨hcp, hA6, hO6⟩ := copy_bytes (m := 17) (q := qb) hA HLEN.out (by have h := HB.out.only HO5.out id; rw [HAPP.out] at h; exact h.pre HNE.out) rfl (by omega) HNE.out HONE.out
  rw [HARR.out] at hA6
  have HA6 := Lib.hid hA6
  have HO6 := Lib.hid hO6
  obtain ⟨W6, hW6⟩ : ∃ W6, W6 = ((w3.alloc (.cells #[.int .i64 1, .int .i64 1, .int .i64 5] 105)).alloc (.cells #[.int .u8 0, .int .u8 0, .int .u8 0, .int .u8 0, .int .u8 0, .int .u8 0, .int .u8 0, .int .u8 0, .int .u8 0, .int .u8 0, .int .u8 0, .int .u8 0, .int .u8 0] 175)).setCells (w3.heap.size + 1) 0 lo := ⟨_, rfl⟩
  rw [← hW6] at hcp HA6 HO6
  clear hW6 hA hA6 hO6 ho5
  have HX6 := Lib.hid (HX5.out.only HO6.out (by omega))
  have HR6 := Lib.hid (HR5.out.only HO6.out (by have := HR4.out.lt; omega))
  have HO7 := Lib.hid (HO5.out.trans' HO6.out (S := fun _ => False) (fun i hi e => by have := HO4.out.size; omega))
  go_upto_region 11 with (fail)
  have hEQ := fun W => eq_thirteen W
  clear hcp y0
  have HXs := Lib.hid HX6.out.drew
  have HAs := Lib.hid HA6.out.drew
  have HRs := Lib.hid HR6.out.drew
  have HOs := Lib.hid HO7.out.drew
  refine wp_region_held_drew (S := (fun W' => (W'.cell? ⟨w3.heap.size, 0, none⟩ = some (.int .i64 1) ∧ W'.cell? ⟨w3.heap.size, 1, none⟩ = some (.int .i64 1) ∧ W'.cell? ⟨w3.heap.size, 2, none⟩ = some (.int .i64 5)) ∧ W'.cell? ⟨w3.heap.size + 1, 0, none⟩ = some (.int .u8 1) ∧ W'.cell? ⟨w3.heap.size + 1, 1, none⟩ = some (.int .u8 1) ∧ W'.cell? ⟨w3.heap.size + 1, 2, none⟩ = some (.int .u8 0) ∧ W'.cell? ⟨w3.heap.size + 1, 3, none⟩ = some (.int .u8 0) ∧ W'.cell? ⟨w3.heap.size + 1, 4, none⟩ = some (.int .u8 0) ∧ W'.cell? ⟨w3.heap.size + 1, 5, none⟩ = some (.int .u8 5) ∧ W'.cell? ⟨w3.heap.size + 1, 6, none⟩ = some (.int .u8 0) ∧ W'.cell? ⟨w3.heap.size + 1, 7, none⟩ = some (.int .u8 0) ∧ W'.cell? ⟨w3.heap.size + 1, 8, none⟩ = some (.int .u8 0) ∧ W'.cell? ⟨w3.heap.size + 1, 9, none⟩ = some (.int .u8 0) ∧ W'.cell? ⟨w3.heap.size + 1, 10, none⟩ = some (.int .u8 0) ∧ W'.cell? ⟨w3.heap.size + 1, 11, none⟩ = some (.int .u8 0) ∧ W'.cell? ⟨w3.heap.size + 1, 12, none⟩ = some (.int .u8 0))) (by kernel_rfl) ?_ (fun hHeld => ?_)
  · exact ⟨⟨HXs.out.cell 0, HXs.out.cell 1, HXs.out.cell 2⟩, HAs.out.cell 0, HAs.out.cell 1, HAs.out.cell 2, HAs.out.cell 3, HAs.out.cell 4, HAs.out.cell 5, HAs.out.cell 6, HAs.out.cell 7, HAs.out.cell 8, HAs.out.cell 9, HAs.out.cell 10, HAs.out.cell 11, HAs.out.cell 12⟩
  refine wpAnyH_take (i := 0) (oi := { dst := some 62, op := Op.load 105 (Operand.tmp 12), type := 105, pos := "oob.go:51", after := #[], guard := none }) (v := ?_) rfl (by kernel_rfl) (by kernel_rfl) (by kernel_rfl) (fun _ _ _ h => h) (Or.inl ⟨by rfl, ?_⟩) (by assumption) ?_
  rotate_left
  · (intro w hSw; (try dsimp only at hSw); (try obtain ⟨hSa, hSb⟩ := hSw); go_simp; try with_reducible rfl)
  try simp only [Act.put, List.setIfInBounds_toArray, List.set_cons_zero, List.set_cons_succ]
  refine wpAnyH_ready (rs := [1]) (by kernel_rfl) (by simp) ?_
  refine AllReadyH.cons (o := { dst := some 63, op := Op.call { callee := Callee.value (Operand.func 91), args := #[Operand.tmp 62], argTypes := #[105] }, type := 4, pos := "oob.go:51", after := #[{ on := 0, ground := Ground.data }], guard := none }) rfl (fun K hK => ?_) AllReadyH.nil
  go_simp
  refine (HRT.out _).mono ?_
  rintro e ww_1 ⟨rfl, hO⟩
  have HX_1 := Lib.hid (HXs.out.only hO id)
  have HA_1 := Lib.hid (HAs.out.only hO id)
  have HR_1 := Lib.hid (HRs.out.only hO id)
  have HO_1 := Lib.hid (HOs.out.trans hO)
  try clear hO
  try simp only []
  refine hK.out _ _ ?_ (fun hHeld => ?_)
  · exact ⟨⟨HX_1.out.cell 0, HX_1.out.cell 1, HX_1.out.cell 2⟩, HA_1.out.cell 0, HA_1.out.cell 1, HA_1.out.cell 2, HA_1.out.cell 3, HA_1.out.cell 4, HA_1.out.cell 5, HA_1.out.cell 6, HA_1.out.cell 7, HA_1.out.cell 8, HA_1.out.cell 9, HA_1.out.cell 10, HA_1.out.cell 11, HA_1.out.cell 12⟩
  clear hK K
  try simp only [Act.put, List.setIfInBounds_toArray, List.set_cons_zero, List.set_cons_succ]
  refine wpAnyH_take (i := 2) (oi := { dst := some 64, op := Op.unOp UnOp.not 4 (Operand.tmp 63), type := 4, pos := "oob.go:51", after := #[{ on := 1, ground := Ground.data }], guard := none }) (v := ?_) rfl (by kernel_rfl) (by kernel_rfl) (by kernel_rfl) (fun _ _ _ h => h) (Or.inl ⟨by rfl, ?_⟩) (by assumption) ?_
  rotate_left
  · (intro w hSw; (try dsimp only at hSw); (try obtain ⟨hSa, hSb⟩ := hSw); go_simp; try with_reducible rfl)
  try simp only [Act.put, List.setIfInBounds_toArray, List.set_cons_zero, List.set_cons_succ]
  refine wpAnyH_take (i := 3) (oi := { dst := some 65, op := Op.move (Operand.tmp 64), type := 4, pos := "oob.go:51", after := #[{ on := 2, ground := Ground.data }, { on := 1, ground := Ground.chain }], guard := none }) (v := ?_) rfl (by kernel_rfl) (by kernel_rfl) (by kernel_rfl) (fun _ _ _ h => h) (Or.inl ⟨by rfl, ?_⟩) (by assumption) ?_
  rotate_left
  · (intro w hSw; (try dsimp only at hSw); (try obtain ⟨hSa, hSb⟩ := hSw); go_simp; try with_reducible rfl)
  try simp only [Act.put, List.setIfInBounds_toArray, List.set_cons_zero, List.set_cons_succ]
  refine wpAnyH_take (i := 4) (oi := { dst := some 66, op := Op.load 175 (Operand.tmp 13), type := 175, pos := "oob.go:51", after := #[{ on := 3, ground := Ground.guard }], guard := some (3, false) }) (v := ?_) rfl (by kernel_rfl) (by kernel_rfl) (by kernel_rfl) (fun _ _ _ h => h) (Or.inl ⟨by rfl, ?_⟩) (by assumption) ?_
  rotate_left
  · (intro w hSw; (try dsimp only at hSw); (try obtain ⟨hSa, hSb⟩ := hSw); go_simp; try with_reducible rfl)
  try simp only [Act.put, List.setIfInBounds_toArray, List.set_cons_zero, List.set_cons_succ]
  refine wpAnyH_take (i := 5) (oi := { dst := some 67, op := Op.load 105 (Operand.tmp 12), type := 105, pos := "oob.go:51", after := #[{ on := 3, ground := Ground.guard }], guard := some (3, false) }) (v := ?_) rfl (by kernel_rfl) (by kernel_rfl) (by kernel_rfl) (fun _ _ _ h => h) (Or.inl ⟨by rfl, ?_⟩) (by assumption) ?_
  rotate_left
  · (intro w hSw; (try dsimp only at hSw); (try obtain ⟨hSa, hSb⟩ := hSw); go_simp; try with_reducible rfl)
  try simp only [Act.put, List.setIfInBounds_toArray, List.set_cons_zero, List.set_cons_succ]
  refine wpAnyH_ready (rs := [6]) (by kernel_rfl) (by simp) ?_
  refine AllReadyH.cons (o := { dst := some 68, op := Op.call { callee := Callee.value (Operand.func 92), args := #[Operand.tmp 67], argTypes := #[105] }, type := 175, pos := "oob.go:51", after := #[{ on := 5, ground := Ground.data }, { on := 3, ground := Ground.chain }, { on := 3, ground := Ground.guard }], guard := some (3, false) }) rfl (fun K hK => ?_) AllReadyH.nil
  go_simp
  refine (HLA.out _).mono ?_
  rintro e ww_2 ⟨rfl, hO⟩
  have HX_2 := Lib.hid (HX_1.out.only hO id)
  have HA_2 := Lib.hid (HA_1.out.only hO id)
  have HR_2 := Lib.hid (HR_1.out.only hO id)
  have HO_2 := Lib.hid (HO_1.out.trans hO)
  try clear hO
  try simp only []
  refine hK.out _ _ ?_ (fun hHeld => ?_)
  · exact ⟨⟨HX_2.out.cell 0, HX_2.out.cell 1, HX_2.out.cell 2⟩, HA_2.out.cell 0, HA_2.out.cell 1, HA_2.out.cell 2, HA_2.out.cell 3, HA_2.out.cell 4, HA_2.out.cell 5, HA_2.out.cell 6, HA_2.out.cell 7, HA_2.out.cell 8, HA_2.out.cell 9, HA_2.out.cell 10, HA_2.out.cell 11, HA_2.out.cell 12⟩
  clear hK K
  try simp only [Act.put, List.setIfInBounds_toArray, List.set_cons_zero, List.set_cons_succ]
  refine wpAnyH_take (i := 7) (oi := { dst := some 69, op := Op.binOp BinOp.neq 175 (Operand.tmp 66) (Operand.tmp 68) 175, type := 4, pos := "oob.go:51", after := #[{ on := 4, ground := Ground.data }, { on := 6, ground := Ground.data }, { on := 3, ground := Ground.guard }], guard := some (3, false) }) (v := ?_) rfl (by kernel_rfl) (by kernel_rfl) (by kernel_rfl) (fun _ _ _ h => h) (Or.inl ⟨by rfl, ?_⟩) (by assumption) ?_
  rotate_left
  · (intro w hSw; (try dsimp only at hSw); (try obtain ⟨hSa, hSb⟩ := hSw); go_simp; try with_reducible rfl)
  try simp only [Act.put, List.setIfInBounds_toArray, List.set_cons_zero, List.set_cons_succ]
  refine wpAnyH_take (i := 8) (oi := { dst := some 70, op := Op.pick (Operand.tmp 65) (Operand.const (Value.bool true)) (Operand.tmp 69), type := 4, pos := "oob.go:51", after := #[{ on := 3, ground := Ground.data }, { on := 7, ground := Ground.data }], guard := none }) (v := ?_) rfl (by kernel_rfl) (by kernel_rfl) (by kernel_rfl) (fun _ _ _ h => h) (Or.inl ⟨by rfl, ?_⟩) (by assumption) ?_
  rotate_left
  · (intro w hSw; (try dsimp only at hSw); (try obtain ⟨hSa, hSb⟩ := hSw); go_simp; try with_reducible rfl)
  try simp only [Act.put, List.setIfInBounds_toArray, List.set_cons_zero, List.set_cons_succ]
  refine wpAnyH_done (by kernel_rfl) ?_ _
  go_wp2_with (fail)
  refine (HT4.out _ _ (HB.out.only HO_2.out id)).mono ?_
  rintro e w8 ⟨rfl, hO⟩
  have HO8 := Lib.hid (HO_2.out.trans hO)
  have HX8 := Lib.hid (HX_2.out.only hO id)
  have HR8 := Lib.hid (HR_2.out.only hO id)
  clear hO
  have i3 : (13 : Int) ≤ qb := by omega
  go_wp2_with (fail)
  refine (HS1.out _ _ pb _ (by have h := HB.out.only HO8.out id; rw [HAPP.out] at h; exact h.pre HNE.out)).mono ?_
  rintro e w9 ⟨rfl, rfl⟩
  go_wp2_with (fail)
  refine (HS2.out _ _ pd _ (HD.out.only HO8.out id)).mono ?_
  rintro e w10 ⟨rfl, rfl⟩
  have z0 := HX8.out.cell 0
  have z1 := HX8.out.cell 1
  have z2 := HX8.out.cell 2
  have r0 := HR8.out.cell 0
  have r1 := HR8.out.cell 1
  have r2 := HR8.out.cell 2
  have f0 := HR8.out.frozen 0
  have f1 := HR8.out.frozen 1
  have f2 := HR8.out.frozen 2
  simp only [List.getElem?_toArray, List.getElem?_cons_zero, List.getElem?_cons_succ] at z0 z1 z2 r0 r1 r2
  have hR := ((HR8.out.set 0 (.int .i64 1)).set 1 (.int .i64 1)).set 2 (.int .i64 5)
  simp only [List.setIfInBounds_toArray, List.set_cons_zero, List.set_cons_succ] at hR
  have HR9 := Lib.hid hR
  have HO9 := Lib.hid (((HO8.out.setCell (p := ⟨w.heap.size, 0, none⟩) (fun e => absurd e (Nat.lt_irrefl _)) (.int .i64 1)).setCell (p := ⟨w.heap.size, 1, none⟩) (fun e => absurd e (Nat.lt_irrefl _)) (.int .i64 1)).setCell (p := ⟨w.heap.size, 2, none⟩) (fun e => absurd e (Nat.lt_irrefl _)) (.int .i64 5))
  clear hR
  go_wp2
  refine bodyPost_ret (v := .tuple #[.agg #[.int .i64 1, .int .i64 1, .int .i64 5], .int .i64 0]) (results_row_tmp (p := 4) (u := 5) (ty := 105) rfl _ _ w.heap.size 105 #[.int .i64 1, .int .i64 1, .int .i64 5] (0, 0) _ rfl HR9.out Tryz.underlying105 rfl (by kernel_rfl)) rfl ?_
  exact ⟨rfl, HO9.out⟩
end Go.Proofs.YtjobaplioidogaaGreat
