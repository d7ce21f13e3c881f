/- Ring: Take, Waiting. -/
import Derived.Test.YtookghkfghdadaaF
namespace Go.Proofs.Ytookghkfghdadaa
open Go.RowKit

def WPost (n : Nat) (w : World) (e : Ending) (w' : World) : Prop := ∃ A c, e = .returned (.slice A n c) ∧ Only (fun _ => False) w w'

set_option maxRecDepth 100000 in
set_option maxHeartbeats 4000000 in
theorem pickW (b g t h x : Nat) (l : List RC) (w : World) (k : RgAt w b g t h l) (hx : At w x 23 #[.pointer (some ⟨b, 0, none⟩)]) :
    Calls Try.prog 31 #[.int .i64 t, .int .i64 h, .int .i64 l.length, .func (.func 32) #[] #[.pointer (some ⟨x, 0, none⟩)], .func (.func 34) #[] #[]] w (WPost (waitN l t h) w) := by
  obtain ⟨i0, hi⟩ : ∃ i, Try.prog.info? 3 = some i := ⟨_, rfl⟩
  have hz0 : i0.zero = some (.int .i64 0) := by cases hi; rfl
  have hz1 : i0.size = 1 := by cases hi; rfl
  have hz2 : i0.bytes = 8 := by cases hi; rfl
  have HI := Lib.hid (And.intro hi (And.intro hz0 (And.intro hz1 hz2)))
  clear hi hz0 hz1 hz2
  have hpos := k.pos
  have HK0 := Lib.hid k
  have HX0 := Lib.hid hx
  clear k hx
  go_enter Try.func31, Try.ntmps31
  go_wp2_with (fail)
  go_loopw [11, 12] (fun v11 v12 wr => ∃ (p : Nat) (out : List Int) (A : Option Addr) (c gO : Nat), t ≤ p ∧ p ≤ h ∧ v12 = .int .i64 p ∧ v11 = .slice A out.length c ∧ out.length ≤ p - t ∧
      waitN l t h = out.length + waitN l p h ∧ RowAt wr A out.length c gO 3 1 (iv out) ∧ (A ≠ none → w.heap.size ≤ gO) ∧ Only (fun _ => False) w wr) (fun v11 v12 wr => (h - intOf v12).toNat)
  case atStart => exact ⟨t, [], none, 0, 0, by omega, by omega, rfl, rfl, by simp, by simp, .inl ⟨rfl, rfl, rfl, rfl⟩, fun h => absurd rfl h, Only.refl _ _⟩
  case round =>
    obtain ⟨p, out, A, c, gO, hp1, hp2, rfl, rfl, hol, ht1, hrow, hgO, hO⟩ := hrel
    have HT1 := Lib.hid ht1
    have HROW := Lib.hid hrow
    have HGO := Lib.hid hgO
    have HO := Lib.hid hO
    have HK := Lib.hid (HK0.out.quiet hO)
    have HX := Lib.hid (HX0.out.only hO id)
    clear ht1 hrow hgO hO
    by_cases hph : p < h
    · have i1 : (p : Int) < h := by omega
      have hon : (out.length : Int) < l.length := by omega
      have HW := Lib.hid (waits_any b g t h x l p wr HK.out HX.out (by omega))
      have HWN := Lib.hid (waitN_go l p h hph)
      by_cases hst : stOf l p = 0
      · have e0 : (stOf l p == 0) = true := by simp [hst]
        rw [e0] at HW
        have HST := Lib.hid hst
        clear e0 hst
        go_wp2_with (fail)
        refine HW.out.mono ?_
        rintro e w1 ⟨rfl, hO1⟩
        have HAs := Lib.hid (id_any p w1)
        have HO1 := Lib.hid hO1
        have HROW1 := Lib.hid (HROW.out.only hO1 (fun _ => id))
        clear hO1 HW
        go_wp2_with (fail)
        refine HAs.out.mono ?_
        rintro e w2 ⟨rfl, rfl⟩
        have HROW2 := Lib.hid (HROW1.out.only ((Only.refl (fun _ => False) w2).alloc (.cells #[.int .i64 p] 3)) (fun _ => id))
        have HN2 := Lib.hid (At.new w2 3 #[.int .i64 (p : Int)])
        have HO2 := Lib.hid ((HO.out.trans HO1.out).alloc (.cells #[.int .i64 p] 3))
        have hgO2 := HO2.out.size
        clear HAs
        go_wp2_with (at_builtin; go_loud (refine wpList_append_row _ rfl (.tmp 28) (.tmp 32) 32 rfl 3 i0 (.int .i64 0) 1 8 Try.underlying32 HI.out.1 HI.out.2.1 HI.out.2.2.1 HI.out.2.2.2 rfl (by decide) A out.length c gO (iv out) rfl HROW2.out ⟨w2.heap.size, 0, none⟩ [.int .i64 p] 1 rfl rfl (fun j u hj => HN2.out.reads j u hj) (by simp [Value.oneCell']) (by unfold maxLen; omega) (by omega) ?_); intro A3 c3 g3 w3 hrow3 hO3 hA3; have HROW3 := Lib.hid hrow3; have HO3 := Lib.hid hO3; have HA3 := Lib.hid hA3; clear hrow3 hO3 hA3)
        go_roundw
        case rel =>
          have hz : A ≠ none → w.heap.size ≤ gO := HGO.out
          refine ⟨p + 1, out ++ [(p : Int)], A3, c3, g3, by omega, by omega, by simp, by simp, by simp; omega, ?_, ?_, ?_, ?_⟩
          · rw [HT1.out, HWN.out, if_pos HST.out]; simp; omega
          · have := HROW3.out
            simpa [iv] using this
          · intro _
            rcases HA3.out.2 with ⟨q1, q2⟩ | q2
            · rw [q2]; exact hz q1
            · exact Nat.le_trans hgO2 q2
          · exact HO2.out.trans' HO3.out (fun i hi e => by have := hz e.1; omega)
        case measure => simp [intOf]; omega
      · have e0 : (stOf l p == 0) = false := beq_false_of_ne hst
        rw [e0] at HW
        have HST := Lib.hid hst
        clear e0 hst
        go_wp2_with (fail)
        refine HW.out.mono ?_
        rintro e w1 ⟨rfl, hO1⟩
        have HO1 := Lib.hid hO1
        clear hO1 HW
        go_wp2
        go_roundw
        case rel => exact ⟨p + 1, out, A, c, gO, by omega, by omega, by simp, rfl, by omega, by rw [HT1.out, HWN.out, if_neg HST.out]; omega, HROW.out.only HO1.out (fun _ => id), HGO.out, HO.out.trans HO1.out⟩
        case measure => simp [intOf]; omega
    · have d1 : decide ((p : Int) < h) = false := by simp; omega
      have HE := Lib.hid (waitN_end l p h hph)
      go_wp2
      go_ret
      have e1 := HT1.out
      rw [HE.out, Nat.add_zero] at e1
      rw [e1]
      exact ⟨A, c, rfl, HO.out⟩

theorem tk_len (l : List RC) (p h m : Nat) : (tk l p h m).1.length = l.length := by
  induction hd : h - p generalizing l p m with
  | zero => rw [tk_end l p h m (by omega)]
  | succ d ih =>
    by_cases hm : p < h ∧ 0 < m
    · by_cases hs : stOf l p = 0
      · rw [tk_take l p h m hm.1 hm.2 hs]
        simp only
        rw [ih (setSt l p 1) (p + 1) (m - 1) (by omega), setSt_len]
      · rw [tk_skip l p h m hm.1 hm.2 hs, ih l (p + 1) m (by omega)]
    · rw [tk_end l p h m hm]

set_option maxRecDepth 100000 in
set_option maxHeartbeats 4000000 in
theorem take_any (b g t h : Nat) (l : List RC) (n : Int) (w : World) (k : RgAt w b g t h l) :
    Calls Try.prog 18 #[.pointer (some ⟨b, 0, none⟩), .int .i64 n] w (PickPost b g t h (tk l t h n.toNat).1 (tk l t h n.toNat).2 w) := by
  have hOB := (Only.refl (fun _ => False) w).alloc (.cells #[.pointer (some ⟨b, 0, none⟩)] 23)
  have hX := At.new w 23 #[.pointer (some ⟨b, 0, none⟩)]
  have HLT := Lib.hid k.lts
  have k1 := k.quiet hOB
  have x0 : (w.alloc (.cells #[.pointer (some ⟨b, 0, none⟩)] 23)).cell? ⟨w.heap.size, 0, none⟩ = some (.pointer (some ⟨b, 0, none⟩)) := hX.cell 0
  have c0 : (w.alloc (.cells #[.pointer (some ⟨b, 0, none⟩)] 23)).cell? ⟨b, 0, none⟩ = some (.slice (some ⟨g, 0, none⟩) l.length l.length) := k1.st.cell 0
  have c1 : (w.alloc (.cells #[.pointer (some ⟨b, 0, none⟩)] 23)).cell? ⟨b, 1, none⟩ = some (.int .i64 t) := k1.st.cell 1
  have c2 : (w.alloc (.cells #[.pointer (some ⟨b, 0, none⟩)] 23)).cell? ⟨b, 2, none⟩ = some (.int .i64 h) := k1.st.cell 2
  have HX := Lib.hid hX
  have HK := Lib.hid k1
  have HOB := Lib.hid hOB
  have HP := Lib.hid (pickT b g t h w.heap.size l n (w.alloc (.cells #[.pointer (some ⟨b, 0, none⟩)] 23)).drew (k1.quiet (Only.refl _ _).drew) hX.drew)
  clear k k1 hOB hX
  go_enter Try.func18, Try.ntmps18
  go_wp2_with (fail)
  refine wp_region_held_drew (S := (fun W => (W.cell? ⟨w.heap.size, 0, none⟩ = some (.pointer (some ⟨b, 0, none⟩)) ∧ W.cell? ⟨b, 0, none⟩ = some (.slice (some ⟨g, 0, none⟩) l.length l.length)) ∧ (W.cell? ⟨b, 1, none⟩ = some (.int .i64 t) ∧ W.cell? ⟨b, 2, none⟩ = some (.int .i64 h)))) (by kernel_rfl) ?_ (fun hHeld => ?_)
  · exact ⟨⟨x0, c0⟩, c1, c2⟩
  refine wpAnyH_take (i := 0) (oi := { dst := some 5, op := Op.load 23 (Operand.tmp 2), type := 23, pos := "ring.go:67", after := #[], guard := none }) (v := ?_) rfl (by kernel_rfl) (by kernel_rfl) (by kernel_rfl) (fun _ _ _ h => h) (Or.inl ⟨by rfl, ?_⟩) (by assumption) ?_
  rotate_left
  · (intro w hSw; (try dsimp only at hSw); (try obtain ⟨hSa, hSb⟩ := hSw); go_simp; try with_reducible rfl)
  try simp only [Act.put, List.setIfInBounds_toArray, List.set_cons_zero, List.set_cons_succ]
  refine wpAnyH_take (i := 1) (oi := { dst := some 6, op := Op.nilCheck (Operand.tmp 5), type := 0, pos := "ring.go:67", after := #[{ on := 0, ground := Ground.data }], guard := none }) (v := ?_) rfl (by kernel_rfl) (by kernel_rfl) (by kernel_rfl) (fun _ _ _ h => h) (Or.inl ⟨by rfl, ?_⟩) (by assumption) ?_
  rotate_left
  · (intro w hSw; (try dsimp only at hSw); (try obtain ⟨hSa, hSb⟩ := hSw); go_simp; try with_reducible rfl)
  try simp only [Act.put, List.setIfInBounds_toArray, List.set_cons_zero, List.set_cons_succ]
  refine wpAnyH_take (i := 2) (oi := { dst := some 7, op := Op.fieldAddr 58 (Operand.tmp 6) 1, type := 0, pos := "ring.go:67", after := #[{ on := 1, ground := Ground.data }], guard := none }) (v := ?_) rfl (by kernel_rfl) (by kernel_rfl) (by kernel_rfl) (fun _ _ _ h => h) (Or.inl ⟨by rfl, ?_⟩) (by assumption) ?_
  rotate_left
  · (intro w hSw; (try dsimp only at hSw); (try obtain ⟨hSa, hSb⟩ := hSw); go_simp; try with_reducible rfl)
  try simp only [Act.put, List.setIfInBounds_toArray, List.set_cons_zero, List.set_cons_succ]
  refine wpAnyH_take (i := 3) (oi := { dst := some 8, op := Op.load 3 (Operand.tmp 7), type := 3, pos := "ring.go:67", after := #[{ on := 2, ground := Ground.data }], guard := none }) (v := ?_) rfl (by kernel_rfl) (by kernel_rfl) (by kernel_rfl) (fun _ _ _ h => h) (Or.inl ⟨by rfl, ?_⟩) (by assumption) ?_
  rotate_left
  · (intro w hSw; (try dsimp only at hSw); (try obtain ⟨hSa, hSb⟩ := hSw); go_simp; try with_reducible rfl)
  try simp only [Act.put, List.setIfInBounds_toArray, List.set_cons_zero, List.set_cons_succ]
  refine wpAnyH_take (i := 4) (oi := { dst := some 9, op := Op.load 23 (Operand.tmp 2), type := 23, pos := "ring.go:67", after := #[], guard := none }) (v := ?_) rfl (by kernel_rfl) (by kernel_rfl) (by kernel_rfl) (fun _ _ _ h => h) (Or.inl ⟨by rfl, ?_⟩) (by assumption) ?_
  rotate_left
  · (intro w hSw; (try dsimp only at hSw); (try obtain ⟨hSa, hSb⟩ := hSw); go_simp; try with_reducible rfl)
  try simp only [Act.put, List.setIfInBounds_toArray, List.set_cons_zero, List.set_cons_succ]
  refine wpAnyH_take (i := 5) (oi := { dst := some 10, op := Op.nilCheck (Operand.tmp 9), type := 0, pos := "ring.go:67", after := #[{ on := 4, ground := Ground.data }], guard := none }) (v := ?_) rfl (by kernel_rfl) (by kernel_rfl) (by kernel_rfl) (fun _ _ _ h => h) (Or.inl ⟨by rfl, ?_⟩) (by assumption) ?_
  rotate_left
  · (intro w hSw; (try dsimp only at hSw); (try obtain ⟨hSa, hSb⟩ := hSw); go_simp; try with_reducible rfl)
  try simp only [Act.put, List.setIfInBounds_toArray, List.set_cons_zero, List.set_cons_succ]
  refine wpAnyH_take (i := 6) (oi := { dst := some 11, op := Op.fieldAddr 58 (Operand.tmp 10) 2, type := 0, pos := "ring.go:67", after := #[{ on := 5, ground := Ground.data }], guard := none }) (v := ?_) rfl (by kernel_rfl) (by kernel_rfl) (by kernel_rfl) (fun _ _ _ h => h) (Or.inl ⟨by rfl, ?_⟩) (by assumption) ?_
  rotate_left
  · (intro w hSw; (try dsimp only at hSw); (try obtain ⟨hSa, hSb⟩ := hSw); go_simp; try with_reducible rfl)
  try simp only [Act.put, List.setIfInBounds_toArray, List.set_cons_zero, List.set_cons_succ]
  refine wpAnyH_take (i := 7) (oi := { dst := some 12, op := Op.load 3 (Operand.tmp 11), type := 3, pos := "ring.go:67", after := #[{ on := 6, ground := Ground.data }], guard := none }) (v := ?_) rfl (by kernel_rfl) (by kernel_rfl) (by kernel_rfl) (fun _ _ _ h => h) (Or.inl ⟨by rfl, ?_⟩) (by assumption) ?_
  rotate_left
  · (intro w hSw; (try dsimp only at hSw); (try obtain ⟨hSa, hSb⟩ := hSw); go_simp; try with_reducible rfl)
  try simp only [Act.put, List.setIfInBounds_toArray, List.set_cons_zero, List.set_cons_succ]
  refine wpAnyH_take (i := 8) (oi := { dst := some 13, op := Op.move (Operand.tmp 1), type := 3, pos := "ring.go:67", after := #[], guard := none }) (v := ?_) rfl (by kernel_rfl) (by kernel_rfl) (by kernel_rfl) (fun _ _ _ h => h) (Or.inl ⟨by rfl, ?_⟩) (by assumption) ?_
  rotate_left
  · (intro w hSw; (try dsimp only at hSw); (try obtain ⟨hSa, hSb⟩ := hSw); go_simp; try with_reducible rfl)
  try simp only [Act.put, List.setIfInBounds_toArray, List.set_cons_zero, List.set_cons_succ]
  refine wpAnyH_take (i := 9) (oi := { dst := some 14, op := Op.makeFunc (Fn.func 36) #[] #[Operand.tmp 2], type := 31, pos := "ring.go:67", after := #[], guard := none }) (v := ?_) rfl (by kernel_rfl) (by kernel_rfl) (by kernel_rfl) (fun _ _ _ h => h) (Or.inl ⟨by rfl, ?_⟩) (by assumption) ?_
  rotate_left
  · (intro w hSw; (try dsimp only at hSw); (try obtain ⟨hSa, hSb⟩ := hSw); go_simp; try with_reducible rfl)
  try simp only [Act.put, List.setIfInBounds_toArray, List.set_cons_zero, List.set_cons_succ]
  refine wpAnyH_take (i := 10) (oi := { dst := some 15, op := Op.makeFunc (Fn.func 37) #[] #[Operand.tmp 2], type := 66, pos := "ring.go:67", after := #[], guard := none }) (v := ?_) rfl (by kernel_rfl) (by kernel_rfl) (by kernel_rfl) (fun _ _ _ h => h) (Or.inl ⟨by rfl, ?_⟩) (by assumption) ?_
  rotate_left
  · (intro w hSw; (try dsimp only at hSw); (try obtain ⟨hSa, hSb⟩ := hSw); go_simp; try with_reducible rfl)
  try simp only [Act.put, List.setIfInBounds_toArray, List.set_cons_zero, List.set_cons_succ]
  refine wpAnyH_ready (rs := [11]) (by kernel_rfl) (by simp) ?_
  refine AllReadyH.cons (o := { dst := some 16, op := Op.call { callee := Callee.value (Operand.func 31), args := #[Operand.tmp 8, Operand.tmp 12, Operand.tmp 13, Operand.tmp 14, Operand.tmp 15], argTypes := #[3, 3, 3, 31, 66] }, type := 32, pos := "ring.go:67", after := #[{ on := 3, ground := Ground.data }, { on := 7, ground := Ground.data }, { on := 8, ground := Ground.data }, { on := 9, ground := Ground.data }, { on := 10, ground := Ground.data }], guard := none }) rfl (fun K hK => ?_) AllReadyH.nil
  go_simp
  (refine HP.out.mono ?_; rintro e wx ⟨A, c, gO, rfl, hr2, hg2, hk2, hO2⟩; have hX2 := HX.out.only (((Only.refl (fun _ => False) _).drew.mono (fun _ _ e => e.elim)).trans hO2) (fun e => by have := HLT.out.2.1; omega); have HX2 := Lib.hid hX2; have HK2 := Lib.hid hk2; have HR2 := Lib.hid hr2; have HO2 := Lib.hid hO2; clear hX2 hk2 hr2 hO2; try simp only [])
  refine hK.out _ _ ?_ (fun hHeld => ?_)
  · exact ⟨⟨HX2.out.cell 0, by have e := HK2.out.st.cell 0; rw [tk_len] at e; exact e⟩, HK2.out.st.cell 1, HK2.out.st.cell 2⟩
  clear hK K
  try simp only [Act.put, List.setIfInBounds_toArray, List.set_cons_zero, List.set_cons_succ]
  refine wpAnyH_take (i := 12) (oi := { dst := some 4, op := Op.assign (Operand.tmp 16), type := 32, pos := "ring.go:67", after := #[{ on := 11, ground := Ground.data }, { on := 11, ground := Ground.chain }, { on := 0, ground := Ground.phase }, { on := 1, ground := Ground.phase }, { on := 2, ground := Ground.phase }, { on := 3, ground := Ground.phase }, { on := 4, ground := Ground.phase }, { on := 5, ground := Ground.phase }, { on := 6, ground := Ground.phase }, { on := 7, ground := Ground.phase }, { on := 8, ground := Ground.phase }, { on := 9, ground := Ground.phase }, { on := 10, ground := Ground.phase }, { on := 11, ground := Ground.phase }], guard := none }) (v := ?_) rfl (by kernel_rfl) (by kernel_rfl) (by kernel_rfl) (fun _ _ _ h => h) (Or.inl ⟨by rfl, ?_⟩) (by assumption) ?_
  rotate_left
  · (intro w hSw; (try dsimp only at hSw); (try obtain ⟨hSa, hSb⟩ := hSw); go_simp; try with_reducible rfl)
  try simp only [Act.put, List.setIfInBounds_toArray, List.set_cons_zero, List.set_cons_succ]
  refine wpAnyH_done (by kernel_rfl) ?_ _
  go_wp2
  go_ret
  have hsz : w.heap.size ≤ (w.alloc (.cells #[.pointer (some ⟨b, 0, none⟩)] 23)).drew.heap.size := by show _ ≤ (w.alloc (.cells #[.pointer (some ⟨b, 0, none⟩)] 23)).heap.size; simp
  exact ⟨A, c, gO, rfl, HR2.out, fun hA => Nat.le_trans hsz (hg2 hA), HK2.out, (HOB.out.drew.mono (fun _ _ e => e.elim)).trans HO2.out⟩

set_option maxRecDepth 100000 in
set_option maxHeartbeats 4000000 in
theorem waiting_any (b g t h : Nat) (l : List RC) (w : World) (k : RgAt w b g t h l) :
    Calls Try.prog 15 #[.pointer (some ⟨b, 0, none⟩)] w fun e w' => e = .returned (.int .i64 (waitN l t h)) ∧ Only (fun _ => False) w w' := by
  have hOB := (Only.refl (fun _ => False) w).alloc (.cells #[.pointer (some ⟨b, 0, none⟩)] 23)
  have hX := At.new w 23 #[.pointer (some ⟨b, 0, none⟩)]
  have HLT := Lib.hid k.lts
  have k1 := k.quiet hOB
  have x0 : (w.alloc (.cells #[.pointer (some ⟨b, 0, none⟩)] 23)).cell? ⟨w.heap.size, 0, none⟩ = some (.pointer (some ⟨b, 0, none⟩)) := hX.cell 0
  have c0 : (w.alloc (.cells #[.pointer (some ⟨b, 0, none⟩)] 23)).cell? ⟨b, 0, none⟩ = some (.slice (some ⟨g, 0, none⟩) l.length l.length) := k1.st.cell 0
  have c1 : (w.alloc (.cells #[.pointer (some ⟨b, 0, none⟩)] 23)).cell? ⟨b, 1, none⟩ = some (.int .i64 t) := k1.st.cell 1
  have c2 : (w.alloc (.cells #[.pointer (some ⟨b, 0, none⟩)] 23)).cell? ⟨b, 2, none⟩ = some (.int .i64 h) := k1.st.cell 2
  have HX := Lib.hid hX
  have HK := Lib.hid k1
  have HOB := Lib.hid hOB
  have HP := Lib.hid (pickW b g t h w.heap.size l (w.alloc (.cells #[.pointer (some ⟨b, 0, none⟩)] 23)).drew (k1.quiet (Only.refl _ _).drew) hX.drew)
  clear k k1 hOB hX
  go_enter Try.func15, Try.ntmps15
  go_wp2_with (fail)
  refine wp_region_held_drew (S := (fun W => (W.cell? ⟨w.heap.size, 0, none⟩ = some (.pointer (some ⟨b, 0, none⟩)) ∧ W.cell? ⟨b, 0, none⟩ = some (.slice (some ⟨g, 0, none⟩) l.length l.length)) ∧ (W.cell? ⟨b, 1, none⟩ = some (.int .i64 t) ∧ W.cell? ⟨b, 2, none⟩ = some (.int .i64 h)))) (by kernel_rfl) ?_ (fun hHeld => ?_)
  · exact ⟨⟨x0, c0⟩, c1, c2⟩
  refine wpAnyH_take (i := 0) (oi := { dst := some 3, op := Op.load 23 (Operand.tmp 1), type := 23, pos := "ring.go:134", after := #[], guard := none }) (v := ?_) rfl (by kernel_rfl) (by kernel_rfl) (by kernel_rfl) (fun _ _ _ h => h) (Or.inl ⟨by rfl, ?_⟩) (by assumption) ?_
  rotate_left
  · (intro w hSw; (try dsimp only at hSw); (try obtain ⟨hSa, hSb⟩ := hSw); go_simp; try with_reducible rfl)
  try simp only [Act.put, List.setIfInBounds_toArray, List.set_cons_zero, List.set_cons_succ]
  refine wpAnyH_take (i := 1) (oi := { dst := some 4, op := Op.nilCheck (Operand.tmp 3), type := 0, pos := "ring.go:134", after := #[{ on := 0, ground := Ground.data }], guard := none }) (v := ?_) rfl (by kernel_rfl) (by kernel_rfl) (by kernel_rfl) (fun _ _ _ h => h) (Or.inl ⟨by rfl, ?_⟩) (by assumption) ?_
  rotate_left
  · (intro w hSw; (try dsimp only at hSw); (try obtain ⟨hSa, hSb⟩ := hSw); go_simp; try with_reducible rfl)
  try simp only [Act.put, List.setIfInBounds_toArray, List.set_cons_zero, List.set_cons_succ]
  refine wpAnyH_take (i := 2) (oi := { dst := some 5, op := Op.fieldAddr 58 (Operand.tmp 4) 1, type := 0, pos := "ring.go:134", after := #[{ on := 1, ground := Ground.data }], guard := none }) (v := ?_) rfl (by kernel_rfl) (by kernel_rfl) (by kernel_rfl) (fun _ _ _ h => h) (Or.inl ⟨by rfl, ?_⟩) (by assumption) ?_
  rotate_left
  · (intro w hSw; (try dsimp only at hSw); (try obtain ⟨hSa, hSb⟩ := hSw); go_simp; try with_reducible rfl)
  try simp only [Act.put, List.setIfInBounds_toArray, List.set_cons_zero, List.set_cons_succ]
  refine wpAnyH_take (i := 3) (oi := { dst := some 6, op := Op.load 3 (Operand.tmp 5), type := 3, pos := "ring.go:134", after := #[{ on := 2, ground := Ground.data }], guard := none }) (v := ?_) rfl (by kernel_rfl) (by kernel_rfl) (by kernel_rfl) (fun _ _ _ h => h) (Or.inl ⟨by rfl, ?_⟩) (by assumption) ?_
  rotate_left
  · (intro w hSw; (try dsimp only at hSw); (try obtain ⟨hSa, hSb⟩ := hSw); go_simp; try with_reducible rfl)
  try simp only [Act.put, List.setIfInBounds_toArray, List.set_cons_zero, List.set_cons_succ]
  refine wpAnyH_take (i := 4) (oi := { dst := some 7, op := Op.load 23 (Operand.tmp 1), type := 23, pos := "ring.go:134", after := #[], guard := none }) (v := ?_) rfl (by kernel_rfl) (by kernel_rfl) (by kernel_rfl) (fun _ _ _ h => h) (Or.inl ⟨by rfl, ?_⟩) (by assumption) ?_
  rotate_left
  · (intro w hSw; (try dsimp only at hSw); (try obtain ⟨hSa, hSb⟩ := hSw); go_simp; try with_reducible rfl)
  try simp only [Act.put, List.setIfInBounds_toArray, List.set_cons_zero, List.set_cons_succ]
  refine wpAnyH_take (i := 5) (oi := { dst := some 8, op := Op.nilCheck (Operand.tmp 7), type := 0, pos := "ring.go:134", after := #[{ on := 4, ground := Ground.data }], guard := none }) (v := ?_) rfl (by kernel_rfl) (by kernel_rfl) (by kernel_rfl) (fun _ _ _ h => h) (Or.inl ⟨by rfl, ?_⟩) (by assumption) ?_
  rotate_left
  · (intro w hSw; (try dsimp only at hSw); (try obtain ⟨hSa, hSb⟩ := hSw); go_simp; try with_reducible rfl)
  try simp only [Act.put, List.setIfInBounds_toArray, List.set_cons_zero, List.set_cons_succ]
  refine wpAnyH_take (i := 6) (oi := { dst := some 9, op := Op.fieldAddr 58 (Operand.tmp 8) 2, type := 0, pos := "ring.go:134", after := #[{ on := 5, ground := Ground.data }], guard := none }) (v := ?_) rfl (by kernel_rfl) (by kernel_rfl) (by kernel_rfl) (fun _ _ _ h => h) (Or.inl ⟨by rfl, ?_⟩) (by assumption) ?_
  rotate_left
  · (intro w hSw; (try dsimp only at hSw); (try obtain ⟨hSa, hSb⟩ := hSw); go_simp; try with_reducible rfl)
  try simp only [Act.put, List.setIfInBounds_toArray, List.set_cons_zero, List.set_cons_succ]
  refine wpAnyH_take (i := 7) (oi := { dst := some 10, op := Op.load 3 (Operand.tmp 9), type := 3, pos := "ring.go:134", after := #[{ on := 6, ground := Ground.data }], guard := none }) (v := ?_) rfl (by kernel_rfl) (by kernel_rfl) (by kernel_rfl) (fun _ _ _ h => h) (Or.inl ⟨by rfl, ?_⟩) (by assumption) ?_
  rotate_left
  · (intro w hSw; (try dsimp only at hSw); (try obtain ⟨hSa, hSb⟩ := hSw); go_simp; try with_reducible rfl)
  try simp only [Act.put, List.setIfInBounds_toArray, List.set_cons_zero, List.set_cons_succ]
  refine wpAnyH_take (i := 8) (oi := { dst := some 11, op := Op.load 23 (Operand.tmp 1), type := 23, pos := "ring.go:134", after := #[], guard := none }) (v := ?_) rfl (by kernel_rfl) (by kernel_rfl) (by kernel_rfl) (fun _ _ _ h => h) (Or.inl ⟨by rfl, ?_⟩) (by assumption) ?_
  rotate_left
  · (intro w hSw; (try dsimp only at hSw); (try obtain ⟨hSa, hSb⟩ := hSw); go_simp; try with_reducible rfl)
  try simp only [Act.put, List.setIfInBounds_toArray, List.set_cons_zero, List.set_cons_succ]
  refine wpAnyH_take (i := 9) (oi := { dst := some 12, op := Op.nilCheck (Operand.tmp 11), type := 0, pos := "ring.go:134", after := #[{ on := 8, ground := Ground.data }], guard := none }) (v := ?_) rfl (by kernel_rfl) (by kernel_rfl) (by kernel_rfl) (fun _ _ _ h => h) (Or.inl ⟨by rfl, ?_⟩) (by assumption) ?_
  rotate_left
  · (intro w hSw; (try dsimp only at hSw); (try obtain ⟨hSa, hSb⟩ := hSw); go_simp; try with_reducible rfl)
  try simp only [Act.put, List.setIfInBounds_toArray, List.set_cons_zero, List.set_cons_succ]
  refine wpAnyH_take (i := 10) (oi := { dst := some 13, op := Op.fieldAddr 58 (Operand.tmp 12) 0, type := 0, pos := "ring.go:134", after := #[{ on := 9, ground := Ground.data }], guard := none }) (v := ?_) rfl (by kernel_rfl) (by kernel_rfl) (by kernel_rfl) (fun _ _ _ h => h) (Or.inl ⟨by rfl, ?_⟩) (by assumption) ?_
  rotate_left
  · (intro w hSw; (try dsimp only at hSw); (try obtain ⟨hSa, hSb⟩ := hSw); go_simp; try with_reducible rfl)
  try simp only [Act.put, List.setIfInBounds_toArray, List.set_cons_zero, List.set_cons_succ]
  refine wpAnyH_take (i := 11) (oi := { dst := some 14, op := Op.load 56 (Operand.tmp 13), type := 56, pos := "ring.go:134", after := #[{ on := 10, ground := Ground.data }], guard := none }) (v := ?_) rfl (by kernel_rfl) (by kernel_rfl) (by kernel_rfl) (fun _ _ _ h => h) (Or.inl ⟨by rfl, ?_⟩) (by assumption) ?_
  rotate_left
  · (intro w hSw; (try dsimp only at hSw); (try obtain ⟨hSa, hSb⟩ := hSw); go_simp; try with_reducible rfl)
  try simp only [Act.put, List.setIfInBounds_toArray, List.set_cons_zero, List.set_cons_succ]
  refine wpAnyH_take (i := 12) (oi := { dst := some 15, op := Op.call { callee := Callee.builtin Builtin.len, args := #[Operand.tmp 14], argTypes := #[56] }, type := 3, pos := "ring.go:134", after := #[{ on := 11, ground := Ground.data }], guard := none }) (v := ?_) rfl (by kernel_rfl) (by kernel_rfl) (by kernel_rfl) (fun _ _ _ h => h) (Or.inl ⟨by rfl, ?_⟩) (by assumption) ?_
  rotate_left
  · (intro w hSw; (try dsimp only at hSw); (try obtain ⟨hSa, hSb⟩ := hSw); go_simp; try with_reducible rfl)
  try simp only [Act.put, List.setIfInBounds_toArray, List.set_cons_zero, List.set_cons_succ]
  refine wpAnyH_take (i := 13) (oi := { dst := some 16, op := Op.makeFunc (Fn.func 32) #[] #[Operand.tmp 1], type := 31, pos := "ring.go:134", after := #[], guard := none }) (v := ?_) rfl (by kernel_rfl) (by kernel_rfl) (by kernel_rfl) (fun _ _ _ h => h) (Or.inl ⟨by rfl, ?_⟩) (by assumption) ?_
  rotate_left
  · (intro w hSw; (try dsimp only at hSw); (try obtain ⟨hSa, hSb⟩ := hSw); go_simp; try with_reducible rfl)
  try simp only [Act.put, List.setIfInBounds_toArray, List.set_cons_zero, List.set_cons_succ]
  refine wpAnyH_ready (rs := [14]) (by kernel_rfl) (by simp) ?_
  refine AllReadyH.cons (o := { dst := some 17, op := Op.call { callee := Callee.value (Operand.func 31), args := #[Operand.tmp 6, Operand.tmp 10, Operand.tmp 15, Operand.tmp 16, Operand.func 34], argTypes := #[3, 3, 3, 31, 66] }, type := 32, pos := "ring.go:134", after := #[{ on := 3, ground := Ground.data }, { on := 7, ground := Ground.data }, { on := 12, ground := Ground.data }, { on := 13, ground := Ground.data }], guard := none }) rfl (fun K hK => ?_) AllReadyH.nil
  go_simp
  (refine HP.out.mono ?_; rintro e wx ⟨A, c, rfl, hO2⟩; have HX2 := Lib.hid ((HX.out.only (S := fun _ => False) (Only.refl _ _).drew id).only hO2 id); have HK2 := Lib.hid ((HK.out.quiet (Only.refl _ _).drew).quiet hO2); have HO2 := Lib.hid hO2; clear hO2; try simp only [])
  refine hK.out _ _ ?_ (fun hHeld => ?_)
  · exact ⟨⟨HX2.out.cell 0, HK2.out.st.cell 0⟩, HK2.out.st.cell 1, HK2.out.st.cell 2⟩
  clear hK K
  try simp only [Act.put, List.setIfInBounds_toArray, List.set_cons_zero, List.set_cons_succ]
  refine wpAnyH_take (i := 15) (oi := { dst := some 18, op := Op.call { callee := Callee.builtin Builtin.len, args := #[Operand.tmp 17], argTypes := #[32] }, type := 3, pos := "ring.go:134", after := #[{ on := 14, ground := Ground.data }], guard := none }) (v := ?_) rfl (by kernel_rfl) (by kernel_rfl) (by kernel_rfl) (fun _ _ _ h => h) (Or.inl ⟨by rfl, ?_⟩) (by assumption) ?_
  rotate_left
  · (intro w hSw; (try dsimp only at hSw); (try obtain ⟨hSa, hSb⟩ := hSw); go_simp; try with_reducible rfl)
  try simp only [Act.put, List.setIfInBounds_toArray, List.set_cons_zero, List.set_cons_succ]
  refine wpAnyH_take (i := 16) (oi := { dst := some 2, op := Op.assign (Operand.tmp 18), type := 3, pos := "ring.go:134", after := #[{ on := 15, ground := Ground.data }, { on := 14, ground := Ground.chain }, { on := 0, ground := Ground.phase }, { on := 1, ground := Ground.phase }, { on := 2, ground := Ground.phase }, { on := 3, ground := Ground.phase }, { on := 4, ground := Ground.phase }, { on := 5, ground := Ground.phase }, { on := 6, ground := Ground.phase }, { on := 7, ground := Ground.phase }, { on := 8, ground := Ground.phase }, { on := 9, ground := Ground.phase }, { on := 10, ground := Ground.phase }, { on := 11, ground := Ground.phase }, { on := 12, ground := Ground.phase }, { on := 13, ground := Ground.phase }, { on := 14, ground := Ground.phase }, { on := 15, ground := Ground.phase }], guard := none }) (v := ?_) rfl (by kernel_rfl) (by kernel_rfl) (by kernel_rfl) (fun _ _ _ h => h) (Or.inl ⟨by rfl, ?_⟩) (by assumption) ?_
  rotate_left
  · (intro w hSw; (try dsimp only at hSw); (try obtain ⟨hSa, hSb⟩ := hSw); go_simp; try with_reducible rfl)
  try simp only [Act.put, List.setIfInBounds_toArray, List.set_cons_zero, List.set_cons_succ]
  refine wpAnyH_done (by kernel_rfl) ?_ _
  go_wp2
  go_ret
  exact ⟨rfl, HOB.out.drew.trans HO2.out⟩

end Go.Proofs.Ytookghkfghdadaa
