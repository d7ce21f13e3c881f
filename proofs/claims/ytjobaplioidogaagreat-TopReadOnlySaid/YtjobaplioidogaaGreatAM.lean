/- Top: are there too few good blocks, by the setup; may the bad blocks be. -/
import Derived.Test.YtjobaplioidogaaGreatAL
namespace Go.Proofs.YtjobaplioidogaaGreat
open Go.RowKit

/-- The rooms of so many lines, together. -/
def rmsTo (G : Ge) (gs : List Int) : Nat → Int
  | 0 => 0
  | k + 1 => rmsTo G gs k + rm G (gs.getD k 0)
def gsOk (gs : List Int) : Prop := ∀ z ∈ gs, 0 ≤ z ∧ z ≤ 8
theorem rm_bd0 {G : Ge} (h : G.Is) {z : Int} (hz : 0 ≤ z ∧ z ≤ 8) : 0 ≤ rm G z ∧ rm G z ≤ 1024 := by
  have h1 : gOk [⟨0, 0, z⟩] := by
    intro x hx
    rw [List.mem_singleton.1 hx]; exact hz
  have := capTo_bd h h1 1 (by simp)
  simpa [capTo] using this
theorem gsOk.at {gs : List Int} (hg : gsOk gs) (k : Nat) : 0 ≤ gs.getD k 0 ∧ gs.getD k 0 ≤ 8 := by
  by_cases h : k < gs.length
  · have := hg (gs[k]) (List.getElem_mem h)
    rw [List.getD_eq_getElem?_getD, List.getElem?_eq_getElem h]
    exact this
  · rw [List.getD_eq_getElem?_getD, List.getElem?_eq_none (by omega)]
    simp
theorem rmsTo_bd {G : Ge} (h : G.Is) {gs : List Int} (hg : gsOk gs) : ∀ k, 0 ≤ rmsTo G gs k ∧ rmsTo G gs k ≤ k * 1024
  | 0 => by simp [rmsTo]
  | k + 1 => by
    have h1 := rmsTo_bd h hg k
    have h2 := rm_bd0 h (hg.at k)
    simp only [rmsTo]
    push_cast
    omega

set_option maxRecDepth 100000 in
set_option maxHeartbeats 8000000 in
theorem refRO_any (G : Ge) (hI : G.Is) (s : Sg) (hn : 1 ≤ s.n ∧ s.n ≤ 4096) (gs : List Int) (hg : gsOk gs) (m : Nat) (hm : gs.length = m) (hl : m ≤ 64) (A : Option Addr) (c g : Nat) (w : World) (hr : RowAt w A m c g 3 1 (iv gs)) :
    Calls Tryz.prog 9 #[G.val, s.val, .slice A m c] w fun e w' => e = .returned (.bool (decide (rmsTo G gs m < 2 * s.n + 5 * G.fl))) ∧ Only (fun _ => False) w w' := by
  have HRM := Lib.hid (fun W (z : Int) (h : 0 ≤ z ∧ z ≤ 8) => refRoom_any G hI z h.1 h.2 W)
  have HFU := Lib.hid (fun W => refFull_any G hI W)
  have HBD := Lib.hid (fun k => rmsTo_bd hI hg k)
  have HGS := Lib.hid hg
  have HMM := Lib.hid hm
  have hfl := hI.fl
  have HRD := Lib.hid hr.rd
  have HIS := Lib.hid (fun (z : Int) (h : 0 ≤ z ∧ z ≤ 8) => rm_bd0 hI h)
  have HSU := Lib.hid (fun k => show rmsTo G gs (k + 1) = rmsTo G gs k + rm G (gs.getD k 0) from rfl)
  have HR0 := Lib.hid (show rmsTo G gs 0 = 0 from rfl)
  obtain ⟨rms, hrms⟩ : ∃ f, f = rmsTo G gs := ⟨_, rfl⟩
  rw [← hrms] at HBD HSU HR0 ⊢
  obtain ⟨rmf, hrmf⟩ : ∃ f, f = rm G := ⟨_, rfl⟩
  rw [← hrmf] at HRM HIS HSU
  generalize G.fl = fl at *
  clear hr hg hI hm hrms hrmf
  obtain ⟨gc, gl, gb, gp, gss⟩ := G
  obtain ⟨sn, sr⟩ := s
  unfold Ge.val Sg.val at *
  simp only at *
  have HX1 := Lib.hid ((At.new w 23 #[.int .i64 gc, .int .i64 gl, .int .i64 gb, .int .i64 gp, .int .i64 gss]).alloc (.cells #[.int .i64 sn, .int .i64 sr] 25))
  have HX2 : Hid (At ((w.alloc (.cells #[.int .i64 gc, .int .i64 gl, .int .i64 gb, .int .i64 gp, .int .i64 gss] 23)).alloc (.cells #[.int .i64 sn, .int .i64 sr] 25)) (w.heap.size + 1) 25 #[.int .i64 sn, .int .i64 sr]) := Lib.hid (At.new' (by simp) 25 _)
  have HO := Lib.hid (((Only.refl (fun _ => False) w).alloc (.cells #[.int .i64 gc, .int .i64 gl, .int .i64 gb, .int .i64 gp, .int .i64 gss] 23)).alloc (.cells #[.int .i64 sn, .int .i64 sr] 25))
  go_enter Tryz.func9, Tryz.ntmps9
  go_wp2_with (fail)
  go_loopw [7, 8] (fun v7 v8 wr => ∃ k : Nat, k ≤ m ∧ v7 = .int .i64 (rms k) ∧ v8 = .int .i64 k ∧ At wr w.heap.size 23 #[.int .i64 gc, .int .i64 gl, .int .i64 gb, .int .i64 gp, .int .i64 gss] ∧ At wr (w.heap.size + 1) 25 #[.int .i64 sn, .int .i64 sr] ∧ Only (fun _ => False) w wr) (fun _ v8 _ => (m - intOf v8).toNat)
  case atStart => exact ⟨0, by omega, by rw [HR0.out], rfl, HX1.out, HX2.out, HO.out⟩
  case round =>
    obtain ⟨k, hk, rfl, rfl, hx1, hx2, hO⟩ := hrel
    have HB := Lib.hid hx1
    have HC := Lib.hid hx2
    have HOk := Lib.hid hO
    clear hx1 hx2 hO HX1 HX2 HO
    by_cases hkm : k < m
    · have i1 : decide ((k : Int) < m) = true := decide_eq_true (by omega)
      have i1' : decide (k < m) = true := decide_eq_true (by omega)
      have i2 : (0 : Int) ≤ k := by omega
      have i3 : (k : Int) < m := by omega
      have hb1 := HBD.out k
      have hb2 := HBD.out (k + 1)
      rw [HSU.out] at hb2
      push_cast at hb2
      have HSk := Lib.hid (HSU.out k)
      have hz := HGS.out.at k
      have hrz := HIS.out _ hz
      have hlist : (iv gs)[k]? = some (.int .i64 (gs.getD k 0)) := by
        have hk' : k < gs.length := by have := HMM.out; omega
        rw [List.getD_eq_getElem?_getD]
        simp [iv, hk']
      generalize gs.getD k 0 = z at *
      have hwb := hb2
      have e1 : IntKind.i64.wrap (rms k + rmf z) = rms k + rmf z := IntWalk.i64_in _ (by omega)
      have e1' : wrap64 (rms k + rmf z) = rms k + rmf z := by rw [← IntWalk.i64_left]; exact e1
      have HRZ := Lib.hid (fun W => HRM.out W z hz)
      have hrk := HRD.out.only HOk.out id
      obtain ⟨o, rfl, hglt, hc⟩ := hrk.at (fun e => by rw [e] at hlist; simp at hlist)
      have HGLT := Lib.hid (show (⟨g, o + k, none⟩ : Addr).block < wr.heap.size from hglt)
      clear hglt
      have HCZ := Lib.hid (hc k _ hlist)
      clear hrk hc hlist hb1 hb2 hwb HBD
      generalize rmf z = rz at *
      go_upto_region 5 with (fail)
      have HBs := Lib.hid HB.out.drew
      have HCs := Lib.hid HC.out.drew
      have HOs := Lib.hid HOk.out.drew
      obtain ⟨wk, hwk⟩ : ∃ wk, wk = wr := ⟨_, rfl⟩
      subst hwk
      have HLZ := Lib.hid (show ∀ W, Only (fun _ => False) wk W → W.cell? ⟨g, o + k, none⟩ = some (.int .i64 z) from fun W oo => by rw [← HCZ.out]; exact oo.cell (HGLT.out) id)
      have HQs := Lib.hid (Only.refl (fun _ => False) wk).drew
      refine wp_region_held_drew (S := (fun W => ((W.cell? ⟨w.heap.size, 0, none⟩ = some (.int .i64 gc) ∧ W.cell? ⟨w.heap.size, 1, none⟩ = some (.int .i64 gl)) ∧ (W.cell? ⟨w.heap.size, 2, none⟩ = some (.int .i64 gb) ∧ W.cell? ⟨w.heap.size, 3, none⟩ = some (.int .i64 gp)) ∧ W.cell? ⟨w.heap.size, 4, none⟩ = some (.int .i64 gss)) ∧ W.cell? ⟨g, o + k, none⟩ = some (.int .i64 z))) (by kernel_rfl) ?_ (fun hHeld => ?_)
      · exact ⟨⟨⟨HBs.out.cell 0, HBs.out.cell 1⟩, ⟨HBs.out.cell 2, HBs.out.cell 3⟩, HBs.out.cell 4⟩, HLZ.out _ HQs.out⟩
      refine wpAnyH_take (i := 0) (oi := { dst := some 15, op := Op.move (Operand.tmp 7), type := 3, pos := "ref.go:25", after := #[], guard := none }) (v := ?_) rfl (by kernel_rfl) (by kernel_rfl) (by kernel_rfl) (fun _ _ _ h => h) (Or.inl ⟨by rfl, ?_⟩) (by assumption) ?_
      rotate_left
      · (intro w hSw; (try dsimp only at hSw); (try obtain ⟨hSa, hSb⟩ := hSw); go_simp; try with_reducible rfl)
      try simp only [Act.put, List.setIfInBounds_toArray, List.set_cons_zero, List.set_cons_succ]
      refine wpAnyH_take (i := 1) (oi := { dst := some 16, op := Op.load 23 (Operand.tmp 3), type := 23, pos := "ref.go:25", after := #[], guard := none }) (v := ?_) rfl (by kernel_rfl) (by kernel_rfl) (by kernel_rfl) (fun _ _ _ h => h) (Or.inl ⟨by rfl, ?_⟩) (by assumption) ?_
      rotate_left
      · (intro w hSw; (try dsimp only at hSw); (try obtain ⟨hSa, hSb⟩ := hSw); go_simp; try with_reducible rfl)
      try simp only [Act.put, List.setIfInBounds_toArray, List.set_cons_zero, List.set_cons_succ]
      refine wpAnyH_take (i := 2) (oi := { dst := some 17, op := Op.move (Operand.tmp 2), type := 26, pos := "ref.go:25", after := #[], guard := none }) (v := ?_) rfl (by kernel_rfl) (by kernel_rfl) (by kernel_rfl) (fun _ _ _ h => h) (Or.inl ⟨by rfl, ?_⟩) (by assumption) ?_
      rotate_left
      · (intro w hSw; (try dsimp only at hSw); (try obtain ⟨hSa, hSb⟩ := hSw); go_simp; try with_reducible rfl)
      try simp only [Act.put, List.setIfInBounds_toArray, List.set_cons_zero, List.set_cons_succ]
      refine wpAnyH_take (i := 3) (oi := { dst := some 18, op := Op.move (Operand.tmp 8), type := 3, pos := "ref.go:25", after := #[], guard := none }) (v := ?_) rfl (by kernel_rfl) (by kernel_rfl) (by kernel_rfl) (fun _ _ _ h => h) (Or.inl ⟨by rfl, ?_⟩) (by assumption) ?_
      rotate_left
      · (intro w hSw; (try dsimp only at hSw); (try obtain ⟨hSa, hSb⟩ := hSw); go_simp; try with_reducible rfl)
      try simp only [Act.put, List.setIfInBounds_toArray, List.set_cons_zero, List.set_cons_succ]
      refine wpAnyH_take (i := 4) (oi := { dst := some 19, op := Op.indexAddr 26 (Operand.tmp 17) (Operand.tmp 18), type := 0, pos := "ref.go:25", after := #[{ on := 2, ground := Ground.data }, { on := 3, ground := Ground.data }], guard := none }) (v := ?_) rfl (by kernel_rfl) (by kernel_rfl) (by kernel_rfl) (fun _ _ _ h => h) (Or.inl ⟨by rfl, ?_⟩) (by assumption) ?_
      rotate_left
      · (intro w hSw; (try dsimp only at hSw); (try obtain ⟨hSa, hSb⟩ := hSw); go_simp; try with_reducible rfl)
      try simp only [Act.put, List.setIfInBounds_toArray, List.set_cons_zero, List.set_cons_succ]
      refine wpAnyH_take (i := 5) (oi := { dst := some 20, op := Op.load 3 (Operand.tmp 19), type := 3, pos := "ref.go:25", after := #[{ on := 4, ground := Ground.data }], guard := none }) (v := ?_) rfl (by kernel_rfl) (by kernel_rfl) (by kernel_rfl) (fun _ _ _ h => h) (Or.inl ⟨by rfl, ?_⟩) (by assumption) ?_
      rotate_left
      · (intro w hSw; (try dsimp only at hSw); (try obtain ⟨hSa, hSb⟩ := hSw); go_simp; try with_reducible rfl)
      try simp only [Act.put, List.setIfInBounds_toArray, List.set_cons_zero, List.set_cons_succ]
      refine wpAnyH_ready (rs := [6]) (by kernel_rfl) (by simp) ?_
      refine AllReadyH.cons (o := { dst := some 21, op := Op.call { callee := Callee.value (Operand.func 29), args := #[Operand.tmp 16, Operand.tmp 20], argTypes := #[23, 3] }, type := 3, pos := "ref.go:25", after := #[{ on := 1, ground := Ground.data }, { on := 5, ground := Ground.data }], guard := none }) rfl (fun K hK => ?_) AllReadyH.nil
      go_simp
      refine (HRZ.out _).mono ?_
      rintro e ww_1 ⟨rfl, hO⟩
      have HB_1 := Lib.hid (HBs.out.only hO id)
      have HC_1 := Lib.hid (HCs.out.only hO id)
      have HO_1 := Lib.hid (HOs.out.trans hO)
      have HQ_1 := Lib.hid (HQs.out.trans hO)
      try clear hO
      try simp only []
      refine hK.out _ _ ?_ (fun hHeld => ?_)
      · exact ⟨⟨⟨HB_1.out.cell 0, HB_1.out.cell 1⟩, ⟨HB_1.out.cell 2, HB_1.out.cell 3⟩, HB_1.out.cell 4⟩, HLZ.out _ HQ_1.out⟩
      clear hK K
      try simp only [Act.put, List.setIfInBounds_toArray, List.set_cons_zero, List.set_cons_succ]
      refine wpAnyH_take (i := 7) (oi := { dst := some 22, op := Op.binOp BinOp.add 3 (Operand.tmp 15) (Operand.tmp 21) 3, type := 3, pos := "ref.go:25", after := #[{ on := 0, ground := Ground.data }, { on := 6, ground := Ground.data }], guard := none }) (v := ?_) rfl (by kernel_rfl) (by kernel_rfl) (by kernel_rfl) (fun _ _ _ h => h) (Or.inl ⟨by rfl, ?_⟩) (by assumption) ?_
      rotate_left
      · (intro w hSw; (try dsimp only at hSw); (try obtain ⟨hSa, hSb⟩ := hSw); go_simp; try with_reducible rfl)
      try simp only [Act.put, List.setIfInBounds_toArray, List.set_cons_zero, List.set_cons_succ]
      refine wpAnyH_take (i := 8) (oi := { dst := some 7, op := Op.assign (Operand.tmp 22), type := 3, pos := "ref.go:25", after := #[{ on := 7, ground := Ground.data }, { on := 6, ground := Ground.chain }, { on := 0, ground := Ground.phase }, { on := 1, ground := Ground.phase }, { on := 2, ground := Ground.phase }, { on := 3, ground := Ground.phase }, { on := 4, ground := Ground.phase }, { on := 5, ground := Ground.phase }, { on := 6, ground := Ground.phase }, { on := 7, ground := Ground.phase }], guard := none }) (v := ?_) rfl (by kernel_rfl) (by kernel_rfl) (by kernel_rfl) (fun _ _ _ h => h) (Or.inl ⟨by rfl, ?_⟩) (by assumption) ?_
      rotate_left
      · (intro w hSw; (try dsimp only at hSw); (try obtain ⟨hSa, hSb⟩ := hSw); go_simp; try with_reducible rfl)
      try simp only [Act.put, List.setIfInBounds_toArray, List.set_cons_zero, List.set_cons_succ]
      refine wpAnyH_done (by kernel_rfl) ?_ _
      go_wp2_with (fail)
      go_roundw
      case rel => exact ⟨k + 1, by omega, by rw [HSk.out], by simp, HB_1.out, HC_1.out, HO_1.out⟩
      case measure => simp [intOf]; omega
    · obtain rfl : k = m := by omega
      have i1 : decide ((k : Int) < k) = false := by simp
      have hbd := HBD.out k
      have e1 : IntKind.i64.wrap (2 * sn) = 2 * sn := IntWalk.i64_in _ (by omega)
      have e1' : wrap64 (2 * sn) = 2 * sn := by rw [← IntWalk.i64_left]; exact e1
      have e2 : IntKind.i64.wrap (5 * fl) = 5 * fl := IntWalk.i64_in _ (by omega)
      have e2' : wrap64 (5 * fl) = 5 * fl := by rw [← IntWalk.i64_left]; exact e2
      have e3 : IntKind.i64.wrap (2 * sn + 5 * fl) = 2 * sn + 5 * fl := IntWalk.i64_in _ (by omega)
      have e3' : wrap64 (2 * sn + 5 * fl) = 2 * sn + 5 * fl := by rw [← IntWalk.i64_left]; exact e3
      go_upto_region 6 with (fail)
      have HBs := Lib.hid HB.out.drew
      have HCs := Lib.hid HC.out.drew
      have HOs := Lib.hid HOk.out.drew
      refine wp_region_held_drew (S := (fun W => ((W.cell? ⟨w.heap.size, 0, none⟩ = some (.int .i64 gc) ∧ W.cell? ⟨w.heap.size, 1, none⟩ = some (.int .i64 gl)) ∧ (W.cell? ⟨w.heap.size, 2, none⟩ = some (.int .i64 gb) ∧ W.cell? ⟨w.heap.size, 3, none⟩ = some (.int .i64 gp)) ∧ W.cell? ⟨w.heap.size, 4, none⟩ = some (.int .i64 gss)) ∧ W.cell? ⟨w.heap.size + 1, 0, none⟩ = some (.int .i64 sn))) (by kernel_rfl) ?_ (fun hHeld => ?_)
      · exact ⟨⟨⟨HBs.out.cell 0, HBs.out.cell 1⟩, ⟨HBs.out.cell 2, HBs.out.cell 3⟩, HBs.out.cell 4⟩, HCs.out.cell 0⟩
      refine wpAnyH_take (i := 0) (oi := { dst := some 23, op := Op.move (Operand.tmp 7), type := 3, pos := "ref.go:27", after := #[], guard := none }) (v := ?_) rfl (by kernel_rfl) (by kernel_rfl) (by kernel_rfl) (fun _ _ _ h => h) (Or.inl ⟨by rfl, ?_⟩) (by assumption) ?_
      rotate_left
      · (intro w hSw; (try dsimp only at hSw); (try obtain ⟨hSa, hSb⟩ := hSw); go_simp; try with_reducible rfl)
      try simp only [Act.put, List.setIfInBounds_toArray, List.set_cons_zero, List.set_cons_succ]
      refine wpAnyH_take (i := 1) (oi := { dst := some 24, op := Op.fieldAddr 25 (Operand.tmp 4) 0, type := 0, pos := "ref.go:27", after := #[], guard := none }) (v := ?_) rfl (by kernel_rfl) (by kernel_rfl) (by kernel_rfl) (fun _ _ _ h => h) (Or.inl ⟨by rfl, ?_⟩) (by assumption) ?_
      rotate_left
      · (intro w hSw; (try dsimp only at hSw); (try obtain ⟨hSa, hSb⟩ := hSw); go_simp; try with_reducible rfl)
      try simp only [Act.put, List.setIfInBounds_toArray, List.set_cons_zero, List.set_cons_succ]
      refine wpAnyH_take (i := 4) (oi := { dst := some 27, op := Op.load 23 (Operand.tmp 3), type := 23, pos := "ref.go:27", after := #[], guard := none }) (v := ?_) rfl (by kernel_rfl) (by kernel_rfl) (by kernel_rfl) (fun _ _ _ h => h) (Or.inl ⟨by rfl, ?_⟩) (by assumption) ?_
      rotate_left
      · (intro w hSw; (try dsimp only at hSw); (try obtain ⟨hSa, hSb⟩ := hSw); go_simp; try with_reducible rfl)
      try simp only [Act.put, List.setIfInBounds_toArray, List.set_cons_zero, List.set_cons_succ]
      refine wpAnyH_take (i := 2) (oi := { dst := some 25, op := Op.load 3 (Operand.tmp 24), type := 3, pos := "ref.go:27", after := #[{ on := 1, ground := Ground.data }], guard := none }) (v := ?_) rfl (by kernel_rfl) (by kernel_rfl) (by kernel_rfl) (fun _ _ _ h => h) (Or.inl ⟨by rfl, ?_⟩) (by assumption) ?_
      rotate_left
      · (intro w hSw; (try dsimp only at hSw); (try obtain ⟨hSa, hSb⟩ := hSw); go_simp; try with_reducible rfl)
      try simp only [Act.put, List.setIfInBounds_toArray, List.set_cons_zero, List.set_cons_succ]
      refine wpAnyH_take (i := 3) (oi := { dst := some 26, op := Op.binOp BinOp.mul 3 (Operand.const (Value.int IntKind.i64 2)) (Operand.tmp 25) 3, type := 3, pos := "ref.go:27", after := #[{ on := 2, ground := Ground.data }], guard := none }) (v := ?_) rfl (by kernel_rfl) (by kernel_rfl) (by kernel_rfl) (fun _ _ _ h => h) (Or.inl ⟨by rfl, ?_⟩) (by assumption) ?_
      rotate_left
      · (intro w hSw; (try dsimp only at hSw); (try obtain ⟨hSa, hSb⟩ := hSw); go_simp; try with_reducible rfl)
      try simp only [Act.put, List.setIfInBounds_toArray, List.set_cons_zero, List.set_cons_succ]
      refine wpAnyH_ready (rs := [5]) (by kernel_rfl) (by simp) ?_
      refine AllReadyH.cons (o := { dst := some 28, op := Op.call { callee := Callee.value (Operand.func 30), args := #[Operand.tmp 27], argTypes := #[23] }, type := 3, pos := "ref.go:27", after := #[{ on := 4, ground := Ground.data }], guard := none }) rfl (fun K hK => ?_) AllReadyH.nil
      go_simp
      refine (HFU.out _).mono ?_
      rintro e ww_1 ⟨rfl, hO⟩
      have HB_1 := Lib.hid (HBs.out.only hO id)
      have HC_1 := Lib.hid (HCs.out.only hO id)
      have HO_1 := Lib.hid (HOs.out.trans hO)
      try clear hO
      try simp only []
      refine hK.out _ _ ?_ (fun hHeld => ?_)
      · exact ⟨⟨⟨HB_1.out.cell 0, HB_1.out.cell 1⟩, ⟨HB_1.out.cell 2, HB_1.out.cell 3⟩, HB_1.out.cell 4⟩, HC_1.out.cell 0⟩
      clear hK K
      try simp only [Act.put, List.setIfInBounds_toArray, List.set_cons_zero, List.set_cons_succ]
      refine wpAnyH_take (i := 6) (oi := { dst := some 29, op := Op.binOp BinOp.mul 3 (Operand.const (Value.int IntKind.i64 5)) (Operand.tmp 28) 3, type := 3, pos := "ref.go:27", after := #[{ on := 5, ground := Ground.data }], guard := none }) (v := ?_) rfl (by kernel_rfl) (by kernel_rfl) (by kernel_rfl) (fun _ _ _ h => h) (Or.inl ⟨by rfl, ?_⟩) (by assumption) ?_
      rotate_left
      · (intro w hSw; (try dsimp only at hSw); (try obtain ⟨hSa, hSb⟩ := hSw); go_simp; try with_reducible rfl)
      try simp only [Act.put, List.setIfInBounds_toArray, List.set_cons_zero, List.set_cons_succ]
      refine wpAnyH_take (i := 7) (oi := { dst := some 30, op := Op.binOp BinOp.add 3 (Operand.tmp 26) (Operand.tmp 29) 3, type := 3, pos := "ref.go:27", after := #[{ on := 3, ground := Ground.data }, { on := 6, ground := Ground.data }], guard := none }) (v := ?_) rfl (by kernel_rfl) (by kernel_rfl) (by kernel_rfl) (fun _ _ _ h => h) (Or.inl ⟨by rfl, ?_⟩) (by assumption) ?_
      rotate_left
      · (intro w hSw; (try dsimp only at hSw); (try obtain ⟨hSa, hSb⟩ := hSw); go_simp; try with_reducible rfl)
      try simp only [Act.put, List.setIfInBounds_toArray, List.set_cons_zero, List.set_cons_succ]
      refine wpAnyH_take (i := 8) (oi := { dst := some 31, op := Op.binOp BinOp.lss 3 (Operand.tmp 23) (Operand.tmp 30) 3, type := 4, pos := "ref.go:27", after := #[{ on := 0, ground := Ground.data }, { on := 7, ground := Ground.data }], guard := none }) (v := ?_) rfl (by kernel_rfl) (by kernel_rfl) (by kernel_rfl) (fun _ _ _ h => h) (Or.inl ⟨by rfl, ?_⟩) (by assumption) ?_
      rotate_left
      · (intro w hSw; (try dsimp only at hSw); (try obtain ⟨hSa, hSb⟩ := hSw); go_simp; try with_reducible rfl)
      try simp only [Act.put, List.setIfInBounds_toArray, List.set_cons_zero, List.set_cons_succ]
      refine wpAnyH_take (i := 9) (oi := { dst := some 6, op := Op.assign (Operand.tmp 31), type := 4, pos := "ref.go:27", after := #[{ on := 8, ground := Ground.data }, { on := 5, ground := Ground.chain }, { on := 0, ground := Ground.phase }, { on := 1, ground := Ground.phase }, { on := 2, ground := Ground.phase }, { on := 3, ground := Ground.phase }, { on := 4, ground := Ground.phase }, { on := 5, ground := Ground.phase }, { on := 6, ground := Ground.phase }, { on := 7, ground := Ground.phase }, { on := 8, ground := Ground.phase }], guard := none }) (v := ?_) rfl (by kernel_rfl) (by kernel_rfl) (by kernel_rfl) (fun _ _ _ h => h) (Or.inl ⟨by rfl, ?_⟩) (by assumption) ?_
      rotate_left
      · (intro w hSw; (try dsimp only at hSw); (try obtain ⟨hSa, hSb⟩ := hSw); go_simp; try with_reducible rfl)
      try simp only [Act.put, List.setIfInBounds_toArray, List.set_cons_zero, List.set_cons_succ]
      refine wpAnyH_done (by kernel_rfl) ?_ _
      go_wp2_with (fail)
      go_ret
      exact ⟨rfl, HO_1.out⟩

theorem u_mul {G : Ge} (h : G.Is) : 1 ≤ G.u * G.b ∧ G.u * G.b ≤ 512 := mul_bd (m := 8) (n := 64) h.u h.b

set_option maxRecDepth 100000 in
set_option maxHeartbeats 8000000 in
theorem some_any (G : Ge) (hI : G.Is) (s : Sg) (bad : List Int) (Ab : Option Addr) (cb : Nat) (gs : Nat) (Ap : Option Addr) (np cp : Nat) (w : World) (hr : Rd w gs Ab (bad.map (Value.int .i64))) (hb100 : bad.length ≤ 100) (hbad : ∃ z ∈ bad, z < 0 ∨ G.u * G.b ≤ z) :
    Calls Tryz.prog 7 #[.agg (setV G s Ab bad.length cb Ap np cp)] w fun e w' => e = .returned (.bool false) ∧ Only (fun _ => False) w w' := by
  have HU := Lib.hid (fun W => refUnits_any G hI W)
  have hub := u_mul hI
  have HBAD := Lib.hid hbad
  have HBX := Lib.hid (At.new w 29 (setV G s Ab bad.length cb Ap np cp))
  have HO0 := Lib.hid ((Only.refl (fun _ => False) w).alloc (.cells (setV G s Ab bad.length cb Ap np cp) 29))
  have HRB := Lib.hid hr
  unfold setV Ge.val at *
  obtain ⟨u, hu⟩ : ∃ u, u = G.u := ⟨_, rfl⟩
  rw [← hu] at HU hub HBAD
  obtain ⟨gc, gl, gb, gp, gss⟩ := G
  simp only at *
  have e1 : IntKind.i64.wrap (u * gb) = u * gb := IntWalk.i64_in _ (by omega)
  have e1' : wrap64 (u * gb) = u * gb := by rw [← IntWalk.i64_left]; exact e1
  clear hr hbad hI hu
  go_enter Tryz.func7, Tryz.ntmps7
  go_wp2_with (fail)
  go_loopw [3] (fun v3 wr => ∃ k : Nat, k ≤ bad.length ∧ v3 = .int .i64 k ∧ (∀ z ∈ bad.take k, 0 ≤ z ∧ z < u * gb) ∧ At wr w.heap.size 29 #[.int .i64 gc, .int .i64 gl, .int .i64 gb, .int .i64 gp, .int .i64 gss, .int .i64 s.n, .int .i64 s.r, .slice Ab bad.length cb, .slice Ap np cp] ∧ Only (fun _ => False) w wr) (fun v3 _ => (bad.length - intOf v3).toNat)
  case atStart => exact ⟨0, by omega, rfl, by simp, HBX.out, HO0.out⟩
  case round =>
    obtain ⟨k, hk, rfl, hal, hx, hO⟩ := hrel
    have HB := Lib.hid hx
    have HOk := Lib.hid hO
    have HAL := Lib.hid hal
    clear hx hO hal HO0 HBX
    have c7 := HB.out.cell 7
    simp only [List.getElem?_toArray, List.getElem?_cons_zero, List.getElem?_cons_succ] at c7
    by_cases hkm : k < bad.length
    · have i1 : decide ((k : Int) < bad.length) = true := decide_eq_true (by omega)
      have i1' : decide (k < bad.length) = true := decide_eq_true (by omega)
      have i2 : (0 : Int) ≤ k := by omega
      have i3 : (k : Int) < bad.length := by omega
      have HTK := Lib.hid (show ∀ P : Int → Prop, (∀ z ∈ bad.take k, P z) → P bad[k] → ∀ z ∈ bad.take (k + 1), P z from fun P h1 h2 z hz => by
        rw [List.take_add_one, List.getElem?_eq_getElem hkm] at hz
        rcases List.mem_append.1 hz with h | h
        · exact h1 z h
        · rw [List.mem_singleton.1 h]; exact h2)
      have hlist : (bad.map (Value.int .i64))[k]? = some (.int .i64 bad[k]) := by simp [hkm]
      generalize bad[k] = z at *
      have hrk := HRB.out.only HOk.out id
      obtain ⟨o, rfl, hglt, hc⟩ := hrk.at (fun e => by rw [e] at hlist; simp at hlist)
      have HGLT := Lib.hid (show (⟨gs, o + k, none⟩ : Addr).block < wr.heap.size from hglt)
      have HCZ := Lib.hid (hc k _ hlist)
      clear hrk hc hlist hglt
      go_upto_region 4 with (fail)
      clear c7
      have HBs := Lib.hid HB.out.drew
      have HOs := Lib.hid HOk.out.drew
      obtain ⟨wk, hwk⟩ : ∃ wk, wk = wr := ⟨_, rfl⟩
      subst hwk
      have HLZ := Lib.hid (show ∀ W, Only (fun _ => False) wk W → W.cell? ⟨gs, o + k, none⟩ = some (.int .i64 z) from fun W oo => by rw [← HCZ.out]; exact oo.cell (HGLT.out) id)
      have HQs := Lib.hid (Only.refl (fun _ => False) wk).drew
      rcases Int.lt_or_le z 0 with hz0 | hz0
      · have d1 : decide (z < 0) = true := decide_eq_true hz0
        refine wp_region_held_drew (S := (fun W => (((W.cell? ⟨w.heap.size, 0, none⟩ = some (.int .i64 gc) ∧ W.cell? ⟨w.heap.size, 1, none⟩ = some (.int .i64 gl)) ∧ (W.cell? ⟨w.heap.size, 2, none⟩ = some (.int .i64 gb) ∧ W.cell? ⟨w.heap.size, 3, none⟩ = some (.int .i64 gp)) ∧ W.cell? ⟨w.heap.size, 4, none⟩ = some (.int .i64 gss)) ∧ W.cell? ⟨w.heap.size, 7, none⟩ = some (.slice (some ⟨gs, o, none⟩) bad.length cb)) ∧ W.cell? ⟨gs, o + k, none⟩ = some (.int .i64 z))) (by kernel_rfl) ?_ (fun hHeld => ?_)
        · exact ⟨⟨⟨⟨HBs.out.cell 0, HBs.out.cell 1⟩, ⟨HBs.out.cell 2, HBs.out.cell 3⟩, HBs.out.cell 4⟩, HBs.out.cell 7⟩, HLZ.out _ HQs.out⟩
        refine wpAnyH_take (i := 0) (oi := { dst := some 11, op := Op.fieldAddr 29 (Operand.tmp 1) 2, type := 0, pos := "more.go:28", after := #[], guard := none }) (v := ?_) rfl (by kernel_rfl) (by kernel_rfl) (by kernel_rfl) (fun _ _ _ h => h) (Or.inl ⟨by rfl, ?_⟩) (by assumption) ?_
        rotate_left
        · (intro w hSw; (try dsimp only at hSw); (try obtain ⟨hSa, hSb⟩ := hSw); go_simp; try with_reducible rfl)
        try simp only [Act.put, List.setIfInBounds_toArray, List.set_cons_zero, List.set_cons_succ]
        refine wpAnyH_take (i := 1) (oi := { dst := some 12, op := Op.load 26 (Operand.tmp 11), type := 26, pos := "more.go:28", after := #[{ on := 0, ground := Ground.data }], guard := none }) (v := ?_) rfl (by kernel_rfl) (by kernel_rfl) (by kernel_rfl) (fun _ _ _ h => h) (Or.inl ⟨by rfl, ?_⟩) (by assumption) ?_
        rotate_left
        · (intro w hSw; (try dsimp only at hSw); (try obtain ⟨hSa, hSb⟩ := hSw); go_simp; try with_reducible rfl)
        try simp only [Act.put, List.setIfInBounds_toArray, List.set_cons_zero, List.set_cons_succ]
        refine wpAnyH_take (i := 2) (oi := { dst := some 13, op := Op.move (Operand.tmp 3), type := 3, pos := "more.go:28", after := #[], guard := none }) (v := ?_) rfl (by kernel_rfl) (by kernel_rfl) (by kernel_rfl) (fun _ _ _ h => h) (Or.inl ⟨by rfl, ?_⟩) (by assumption) ?_
        rotate_left
        · (intro w hSw; (try dsimp only at hSw); (try obtain ⟨hSa, hSb⟩ := hSw); go_simp; try with_reducible rfl)
        try simp only [Act.put, List.setIfInBounds_toArray, List.set_cons_zero, List.set_cons_succ]
        refine wpAnyH_take (i := 3) (oi := { dst := some 14, op := Op.indexAddr 26 (Operand.tmp 12) (Operand.tmp 13), type := 0, pos := "more.go:28", after := #[{ on := 1, ground := Ground.data }, { on := 2, ground := Ground.data }], guard := none }) (v := ?_) rfl (by kernel_rfl) (by kernel_rfl) (by kernel_rfl) (fun _ _ _ h => h) (Or.inl ⟨by rfl, ?_⟩) (by assumption) ?_
        rotate_left
        · (intro w hSw; (try dsimp only at hSw); (try obtain ⟨hSa, hSb⟩ := hSw); go_simp; try with_reducible rfl)
        try simp only [Act.put, List.setIfInBounds_toArray, List.set_cons_zero, List.set_cons_succ]
        refine wpAnyH_take (i := 4) (oi := { dst := some 15, op := Op.load 3 (Operand.tmp 14), type := 3, pos := "more.go:28", after := #[{ on := 3, ground := Ground.data }], guard := none }) (v := ?_) rfl (by kernel_rfl) (by kernel_rfl) (by kernel_rfl) (fun _ _ _ h => h) (Or.inl ⟨by rfl, ?_⟩) (by assumption) ?_
        rotate_left
        · (intro w hSw; (try dsimp only at hSw); (try obtain ⟨hSa, hSb⟩ := hSw); go_simp; try with_reducible rfl)
        try simp only [Act.put, List.setIfInBounds_toArray, List.set_cons_zero, List.set_cons_succ]
        refine wpAnyH_take (i := 5) (oi := { dst := some 16, op := Op.binOp BinOp.lss 3 (Operand.tmp 15) (Operand.const (Value.int IntKind.i64 0)) 3, type := 4, pos := "more.go:28", after := #[{ on := 4, ground := Ground.data }], guard := none }) (v := ?_) rfl (by kernel_rfl) (by kernel_rfl) (by kernel_rfl) (fun _ _ _ h => h) (Or.inl ⟨by rfl, ?_⟩) (by assumption) ?_
        rotate_left
        · (intro w hSw; (try dsimp only at hSw); (try obtain ⟨hSa, hSb⟩ := hSw); go_simp; try with_reducible rfl)
        try simp only [Act.put, List.setIfInBounds_toArray, List.set_cons_zero, List.set_cons_succ]
        refine wpAnyH_take (i := 6) (oi := { dst := some 17, op := Op.move (Operand.tmp 16), type := 4, pos := "more.go:28", after := #[{ on := 5, ground := Ground.data }], guard := none }) (v := ?_) rfl (by kernel_rfl) (by kernel_rfl) (by kernel_rfl) (fun _ _ _ h => h) (Or.inl ⟨by rfl, ?_⟩) (by assumption) ?_
        rotate_left
        · (intro w hSw; (try dsimp only at hSw); (try obtain ⟨hSa, hSb⟩ := hSw); go_simp; try with_reducible rfl)
        try simp only [Act.put, List.setIfInBounds_toArray, List.set_cons_zero, List.set_cons_succ]
        refine wpAnyH_take (i := 7) (oi := { dst := some 18, op := Op.fieldAddr 29 (Operand.tmp 1) 2, type := 0, pos := "more.go:28", after := #[{ on := 6, ground := Ground.guard }], guard := some (6, false) }) (v := undef) rfl (by kernel_rfl) (by kernel_rfl) (by kernel_rfl) (fun _ _ _ h => h) (Or.inr ⟨by rfl, rfl⟩) (by assumption) ?_
        try simp only [Act.put, List.setIfInBounds_toArray, List.set_cons_zero, List.set_cons_succ]
        refine wpAnyH_take (i := 9) (oi := { dst := some 20, op := Op.move (Operand.tmp 3), type := 3, pos := "more.go:28", after := #[{ on := 6, ground := Ground.guard }], guard := some (6, false) }) (v := undef) rfl (by kernel_rfl) (by kernel_rfl) (by kernel_rfl) (fun _ _ _ h => h) (Or.inr ⟨by rfl, rfl⟩) (by assumption) ?_
        try simp only [Act.put, List.setIfInBounds_toArray, List.set_cons_zero, List.set_cons_succ]
        refine wpAnyH_take (i := 12) (oi := { dst := some 23, op := Op.fieldAddr 29 (Operand.tmp 1) 0, type := 0, pos := "more.go:28", after := #[{ on := 6, ground := Ground.guard }], guard := some (6, false) }) (v := undef) rfl (by kernel_rfl) (by kernel_rfl) (by kernel_rfl) (fun _ _ _ h => h) (Or.inr ⟨by rfl, rfl⟩) (by assumption) ?_
        try simp only [Act.put, List.setIfInBounds_toArray, List.set_cons_zero, List.set_cons_succ]
        refine wpAnyH_take (i := 15) (oi := { dst := some 26, op := Op.fieldAddr 29 (Operand.tmp 1) 0, type := 0, pos := "more.go:28", after := #[{ on := 6, ground := Ground.guard }], guard := some (6, false) }) (v := undef) rfl (by kernel_rfl) (by kernel_rfl) (by kernel_rfl) (fun _ _ _ h => h) (Or.inr ⟨by rfl, rfl⟩) (by assumption) ?_
        try simp only [Act.put, List.setIfInBounds_toArray, List.set_cons_zero, List.set_cons_succ]
        refine wpAnyH_take (i := 8) (oi := { dst := some 19, op := Op.load 26 (Operand.tmp 18), type := 26, pos := "more.go:28", after := #[{ on := 7, ground := Ground.data }, { on := 6, ground := Ground.guard }], guard := some (6, false) }) (v := undef) rfl (by kernel_rfl) (by kernel_rfl) (by kernel_rfl) (fun _ _ _ h => h) (Or.inr ⟨by rfl, rfl⟩) (by assumption) ?_
        try simp only [Act.put, List.setIfInBounds_toArray, List.set_cons_zero, List.set_cons_succ]
        refine wpAnyH_take (i := 10) (oi := { dst := some 21, op := Op.indexAddr 26 (Operand.tmp 19) (Operand.tmp 20), type := 0, pos := "more.go:28", after := #[{ on := 8, ground := Ground.data }, { on := 9, ground := Ground.data }, { on := 6, ground := Ground.guard }], guard := some (6, false) }) (v := undef) rfl (by kernel_rfl) (by kernel_rfl) (by kernel_rfl) (fun _ _ _ h => h) (Or.inr ⟨by rfl, rfl⟩) (by assumption) ?_
        try simp only [Act.put, List.setIfInBounds_toArray, List.set_cons_zero, List.set_cons_succ]
        refine wpAnyH_take (i := 11) (oi := { dst := some 22, op := Op.load 3 (Operand.tmp 21), type := 3, pos := "more.go:28", after := #[{ on := 10, ground := Ground.data }, { on := 6, ground := Ground.guard }], guard := some (6, false) }) (v := undef) rfl (by kernel_rfl) (by kernel_rfl) (by kernel_rfl) (fun _ _ _ h => h) (Or.inr ⟨by rfl, rfl⟩) (by assumption) ?_
        try simp only [Act.put, List.setIfInBounds_toArray, List.set_cons_zero, List.set_cons_succ]
        refine wpAnyH_take (i := 13) (oi := { dst := some 24, op := Op.load 23 (Operand.tmp 23), type := 23, pos := "more.go:28", after := #[{ on := 12, ground := Ground.data }, { on := 6, ground := Ground.guard }], guard := some (6, false) }) (v := undef) rfl (by kernel_rfl) (by kernel_rfl) (by kernel_rfl) (fun _ _ _ h => h) (Or.inr ⟨by rfl, rfl⟩) (by assumption) ?_
        try simp only [Act.put, List.setIfInBounds_toArray, List.set_cons_zero, List.set_cons_succ]
        refine wpAnyH_take (i := 14) (oi := { dst := some 25, op := Op.call { callee := Callee.value (Operand.func 26), args := #[Operand.tmp 24], argTypes := #[23] }, type := 3, pos := "more.go:28", after := #[{ on := 13, ground := Ground.data }, { on := 6, ground := Ground.chain }, { on := 6, ground := Ground.guard }], guard := some (6, false) }) (v := undef) rfl (by kernel_rfl) (by kernel_rfl) (by kernel_rfl) (fun _ _ _ h => h) (Or.inr ⟨by rfl, rfl⟩) (by assumption) ?_
        try simp only [Act.put, List.setIfInBounds_toArray, List.set_cons_zero, List.set_cons_succ]
        refine wpAnyH_take (i := 16) (oi := { dst := some 27, op := Op.fieldAddr 23 (Operand.tmp 26) 2, type := 0, pos := "more.go:28", after := #[{ on := 15, ground := Ground.data }, { on := 6, ground := Ground.guard }], guard := some (6, false) }) (v := undef) rfl (by kernel_rfl) (by kernel_rfl) (by kernel_rfl) (fun _ _ _ h => h) (Or.inr ⟨by rfl, rfl⟩) (by assumption) ?_
        try simp only [Act.put, List.setIfInBounds_toArray, List.set_cons_zero, List.set_cons_succ]
        refine wpAnyH_take (i := 17) (oi := { dst := some 28, op := Op.load 3 (Operand.tmp 27), type := 3, pos := "more.go:28", after := #[{ on := 16, ground := Ground.data }, { on := 6, ground := Ground.guard }], guard := some (6, false) }) (v := undef) rfl (by kernel_rfl) (by kernel_rfl) (by kernel_rfl) (fun _ _ _ h => h) (Or.inr ⟨by rfl, rfl⟩) (by assumption) ?_
        try simp only [Act.put, List.setIfInBounds_toArray, List.set_cons_zero, List.set_cons_succ]
        refine wpAnyH_take (i := 18) (oi := { dst := some 29, op := Op.binOp BinOp.mul 3 (Operand.tmp 25) (Operand.tmp 28) 3, type := 3, pos := "more.go:28", after := #[{ on := 14, ground := Ground.data }, { on := 17, ground := Ground.data }, { on := 6, ground := Ground.guard }], guard := some (6, false) }) (v := undef) rfl (by kernel_rfl) (by kernel_rfl) (by kernel_rfl) (fun _ _ _ h => h) (Or.inr ⟨by rfl, rfl⟩) (by assumption) ?_
        try simp only [Act.put, List.setIfInBounds_toArray, List.set_cons_zero, List.set_cons_succ]
        refine wpAnyH_take (i := 19) (oi := { dst := some 30, op := Op.binOp BinOp.geq 3 (Operand.tmp 22) (Operand.tmp 29) 3, type := 4, pos := "more.go:28", after := #[{ on := 11, ground := Ground.data }, { on := 18, ground := Ground.data }, { on := 6, ground := Ground.guard }], guard := some (6, false) }) (v := undef) rfl (by kernel_rfl) (by kernel_rfl) (by kernel_rfl) (fun _ _ _ h => h) (Or.inr ⟨by rfl, rfl⟩) (by assumption) ?_
        try simp only [Act.put, List.setIfInBounds_toArray, List.set_cons_zero, List.set_cons_succ]
        refine wpAnyH_take (i := 20) (oi := { dst := some 31, op := Op.pick (Operand.tmp 17) (Operand.const (Value.bool true)) (Operand.tmp 30), type := 4, pos := "more.go:28", after := #[{ on := 6, ground := Ground.data }, { on := 19, ground := Ground.data }], guard := none }) (v := ?_) rfl (by kernel_rfl) (by kernel_rfl) (by kernel_rfl) (fun _ _ _ h => h) (Or.inl ⟨by rfl, ?_⟩) (by assumption) ?_
        rotate_left
        · (intro w hSw; (try dsimp only at hSw); (try obtain ⟨hSa, hSb⟩ := hSw); go_simp; try with_reducible rfl)
        try simp only [Act.put, List.setIfInBounds_toArray, List.set_cons_zero, List.set_cons_succ]
        refine wpAnyH_done (by kernel_rfl) ?_ _
        go_wp2
        go_ret
        exact ⟨rfl, HOs.out⟩
      · have d1 : decide (z < 0) = false := decide_eq_false (by omega)
        rcases Int.lt_or_le z (u * gb) with hz1 | hz1
        · have d2 : decide (z ≥ u * gb) = false := decide_eq_false (by omega)
          have d2' : decide (u * gb ≤ z) = false := decide_eq_false (by omega)
          refine wp_region_held_drew (S := (fun W => (((W.cell? ⟨w.heap.size, 0, none⟩ = some (.int .i64 gc) ∧ W.cell? ⟨w.heap.size, 1, none⟩ = some (.int .i64 gl)) ∧ (W.cell? ⟨w.heap.size, 2, none⟩ = some (.int .i64 gb) ∧ W.cell? ⟨w.heap.size, 3, none⟩ = some (.int .i64 gp)) ∧ W.cell? ⟨w.heap.size, 4, none⟩ = some (.int .i64 gss)) ∧ W.cell? ⟨w.heap.size, 7, none⟩ = some (.slice (some ⟨gs, o, none⟩) bad.length cb)) ∧ W.cell? ⟨gs, o + k, none⟩ = some (.int .i64 z))) (by kernel_rfl) ?_ (fun hHeld => ?_)
          · exact ⟨⟨⟨⟨HBs.out.cell 0, HBs.out.cell 1⟩, ⟨HBs.out.cell 2, HBs.out.cell 3⟩, HBs.out.cell 4⟩, HBs.out.cell 7⟩, HLZ.out _ HQs.out⟩
          refine wpAnyH_take (i := 0) (oi := { dst := some 11, op := Op.fieldAddr 29 (Operand.tmp 1) 2, type := 0, pos := "more.go:28", after := #[], guard := none }) (v := ?_) rfl (by kernel_rfl) (by kernel_rfl) (by kernel_rfl) (fun _ _ _ h => h) (Or.inl ⟨by rfl, ?_⟩) (by assumption) ?_
          rotate_left
          · (intro w hSw; (try dsimp only at hSw); (try obtain ⟨hSa, hSb⟩ := hSw); go_simp; try with_reducible rfl)
          try simp only [Act.put, List.setIfInBounds_toArray, List.set_cons_zero, List.set_cons_succ]
          refine wpAnyH_take (i := 2) (oi := { dst := some 13, op := Op.move (Operand.tmp 3), type := 3, pos := "more.go:28", after := #[], guard := none }) (v := ?_) rfl (by kernel_rfl) (by kernel_rfl) (by kernel_rfl) (fun _ _ _ h => h) (Or.inl ⟨by rfl, ?_⟩) (by assumption) ?_
          rotate_left
          · (intro w hSw; (try dsimp only at hSw); (try obtain ⟨hSa, hSb⟩ := hSw); go_simp; try with_reducible rfl)
          try simp only [Act.put, List.setIfInBounds_toArray, List.set_cons_zero, List.set_cons_succ]
          refine wpAnyH_take (i := 1) (oi := { dst := some 12, op := Op.load 26 (Operand.tmp 11), type := 26, pos := "more.go:28", after := #[{ on := 0, ground := Ground.data }], guard := none }) (v := ?_) rfl (by kernel_rfl) (by kernel_rfl) (by kernel_rfl) (fun _ _ _ h => h) (Or.inl ⟨by rfl, ?_⟩) (by assumption) ?_
          rotate_left
          · (intro w hSw; (try dsimp only at hSw); (try obtain ⟨hSa, hSb⟩ := hSw); go_simp; try with_reducible rfl)
          try simp only [Act.put, List.setIfInBounds_toArray, List.set_cons_zero, List.set_cons_succ]
          refine wpAnyH_take (i := 3) (oi := { dst := some 14, op := Op.indexAddr 26 (Operand.tmp 12) (Operand.tmp 13), type := 0, pos := "more.go:28", after := #[{ on := 1, ground := Ground.data }, { on := 2, ground := Ground.data }], guard := none }) (v := ?_) rfl (by kernel_rfl) (by kernel_rfl) (by kernel_rfl) (fun _ _ _ h => h) (Or.inl ⟨by rfl, ?_⟩) (by assumption) ?_
          rotate_left
          · (intro w hSw; (try dsimp only at hSw); (try obtain ⟨hSa, hSb⟩ := hSw); go_simp; try with_reducible rfl)
          try simp only [Act.put, List.setIfInBounds_toArray, List.set_cons_zero, List.set_cons_succ]
          refine wpAnyH_take (i := 4) (oi := { dst := some 15, op := Op.load 3 (Operand.tmp 14), type := 3, pos := "more.go:28", after := #[{ on := 3, ground := Ground.data }], guard := none }) (v := ?_) rfl (by kernel_rfl) (by kernel_rfl) (by kernel_rfl) (fun _ _ _ h => h) (Or.inl ⟨by rfl, ?_⟩) (by assumption) ?_
          rotate_left
          · (intro w hSw; (try dsimp only at hSw); (try obtain ⟨hSa, hSb⟩ := hSw); go_simp; try with_reducible rfl)
          try simp only [Act.put, List.setIfInBounds_toArray, List.set_cons_zero, List.set_cons_succ]
          refine wpAnyH_take (i := 5) (oi := { dst := some 16, op := Op.binOp BinOp.lss 3 (Operand.tmp 15) (Operand.const (Value.int IntKind.i64 0)) 3, type := 4, pos := "more.go:28", after := #[{ on := 4, ground := Ground.data }], guard := none }) (v := ?_) rfl (by kernel_rfl) (by kernel_rfl) (by kernel_rfl) (fun _ _ _ h => h) (Or.inl ⟨by rfl, ?_⟩) (by assumption) ?_
          rotate_left
          · (intro w hSw; (try dsimp only at hSw); (try obtain ⟨hSa, hSb⟩ := hSw); go_simp; try with_reducible rfl)
          try simp only [Act.put, List.setIfInBounds_toArray, List.set_cons_zero, List.set_cons_succ]
          refine wpAnyH_take (i := 6) (oi := { dst := some 17, op := Op.move (Operand.tmp 16), type := 4, pos := "more.go:28", after := #[{ on := 5, ground := Ground.data }], guard := none }) (v := ?_) rfl (by kernel_rfl) (by kernel_rfl) (by kernel_rfl) (fun _ _ _ h => h) (Or.inl ⟨by rfl, ?_⟩) (by assumption) ?_
          rotate_left
          · (intro w hSw; (try dsimp only at hSw); (try obtain ⟨hSa, hSb⟩ := hSw); go_simp; try with_reducible rfl)
          try simp only [Act.put, List.setIfInBounds_toArray, List.set_cons_zero, List.set_cons_succ]
          refine wpAnyH_take (i := 7) (oi := { dst := some 18, op := Op.fieldAddr 29 (Operand.tmp 1) 2, type := 0, pos := "more.go:28", after := #[{ on := 6, ground := Ground.guard }], guard := some (6, false) }) (v := ?_) rfl (by kernel_rfl) (by kernel_rfl) (by kernel_rfl) (fun _ _ _ h => h) (Or.inl ⟨by rfl, ?_⟩) (by assumption) ?_
          rotate_left
          · (intro w hSw; (try dsimp only at hSw); (try obtain ⟨hSa, hSb⟩ := hSw); go_simp; try with_reducible rfl)
          try simp only [Act.put, List.setIfInBounds_toArray, List.set_cons_zero, List.set_cons_succ]
          refine wpAnyH_take (i := 9) (oi := { dst := some 20, op := Op.move (Operand.tmp 3), type := 3, pos := "more.go:28", after := #[{ on := 6, ground := Ground.guard }], guard := some (6, false) }) (v := ?_) rfl (by kernel_rfl) (by kernel_rfl) (by kernel_rfl) (fun _ _ _ h => h) (Or.inl ⟨by rfl, ?_⟩) (by assumption) ?_
          rotate_left
          · (intro w hSw; (try dsimp only at hSw); (try obtain ⟨hSa, hSb⟩ := hSw); go_simp; try with_reducible rfl)
          try simp only [Act.put, List.setIfInBounds_toArray, List.set_cons_zero, List.set_cons_succ]
          refine wpAnyH_take (i := 12) (oi := { dst := some 23, op := Op.fieldAddr 29 (Operand.tmp 1) 0, type := 0, pos := "more.go:28", after := #[{ on := 6, ground := Ground.guard }], guard := some (6, false) }) (v := ?_) rfl (by kernel_rfl) (by kernel_rfl) (by kernel_rfl) (fun _ _ _ h => h) (Or.inl ⟨by rfl, ?_⟩) (by assumption) ?_
          rotate_left
          · (intro w hSw; (try dsimp only at hSw); (try obtain ⟨hSa, hSb⟩ := hSw); go_simp; try with_reducible rfl)
          try simp only [Act.put, List.setIfInBounds_toArray, List.set_cons_zero, List.set_cons_succ]
          refine wpAnyH_take (i := 15) (oi := { dst := some 26, op := Op.fieldAddr 29 (Operand.tmp 1) 0, type := 0, pos := "more.go:28", after := #[{ on := 6, ground := Ground.guard }], guard := some (6, false) }) (v := ?_) rfl (by kernel_rfl) (by kernel_rfl) (by kernel_rfl) (fun _ _ _ h => h) (Or.inl ⟨by rfl, ?_⟩) (by assumption) ?_
          rotate_left
          · (intro w hSw; (try dsimp only at hSw); (try obtain ⟨hSa, hSb⟩ := hSw); go_simp; try with_reducible rfl)
          try simp only [Act.put, List.setIfInBounds_toArray, List.set_cons_zero, List.set_cons_succ]
          refine wpAnyH_take (i := 8) (oi := { dst := some 19, op := Op.load 26 (Operand.tmp 18), type := 26, pos := "more.go:28", after := #[{ on := 7, ground := Ground.data }, { on := 6, ground := Ground.guard }], guard := some (6, false) }) (v := ?_) rfl (by kernel_rfl) (by kernel_rfl) (by kernel_rfl) (fun _ _ _ h => h) (Or.inl ⟨by rfl, ?_⟩) (by assumption) ?_
          rotate_left
          · (intro w hSw; (try dsimp only at hSw); (try obtain ⟨hSa, hSb⟩ := hSw); go_simp; try with_reducible rfl)
          try simp only [Act.put, List.setIfInBounds_toArray, List.set_cons_zero, List.set_cons_succ]
          refine wpAnyH_take (i := 13) (oi := { dst := some 24, op := Op.load 23 (Operand.tmp 23), type := 23, pos := "more.go:28", after := #[{ on := 12, ground := Ground.data }, { on := 6, ground := Ground.guard }], guard := some (6, false) }) (v := ?_) rfl (by kernel_rfl) (by kernel_rfl) (by kernel_rfl) (fun _ _ _ h => h) (Or.inl ⟨by rfl, ?_⟩) (by assumption) ?_
          rotate_left
          · (intro w hSw; (try dsimp only at hSw); (try obtain ⟨hSa, hSb⟩ := hSw); go_simp; try with_reducible rfl)
          try simp only [Act.put, List.setIfInBounds_toArray, List.set_cons_zero, List.set_cons_succ]
          refine wpAnyH_take (i := 16) (oi := { dst := some 27, op := Op.fieldAddr 23 (Operand.tmp 26) 2, type := 0, pos := "more.go:28", after := #[{ on := 15, ground := Ground.data }, { on := 6, ground := Ground.guard }], guard := some (6, false) }) (v := ?_) rfl (by kernel_rfl) (by kernel_rfl) (by kernel_rfl) (fun _ _ _ h => h) (Or.inl ⟨by rfl, ?_⟩) (by assumption) ?_
          rotate_left
          · (intro w hSw; (try dsimp only at hSw); (try obtain ⟨hSa, hSb⟩ := hSw); go_simp; try with_reducible rfl)
          try simp only [Act.put, List.setIfInBounds_toArray, List.set_cons_zero, List.set_cons_succ]
          refine wpAnyH_take (i := 10) (oi := { dst := some 21, op := Op.indexAddr 26 (Operand.tmp 19) (Operand.tmp 20), type := 0, pos := "more.go:28", after := #[{ on := 8, ground := Ground.data }, { on := 9, ground := Ground.data }, { on := 6, ground := Ground.guard }], guard := some (6, false) }) (v := ?_) rfl (by kernel_rfl) (by kernel_rfl) (by kernel_rfl) (fun _ _ _ h => h) (Or.inl ⟨by rfl, ?_⟩) (by assumption) ?_
          rotate_left
          · (intro w hSw; (try dsimp only at hSw); (try obtain ⟨hSa, hSb⟩ := hSw); go_simp; try with_reducible rfl)
          try simp only [Act.put, List.setIfInBounds_toArray, List.set_cons_zero, List.set_cons_succ]
          refine wpAnyH_take (i := 17) (oi := { dst := some 28, op := Op.load 3 (Operand.tmp 27), type := 3, pos := "more.go:28", after := #[{ on := 16, ground := Ground.data }, { on := 6, ground := Ground.guard }], guard := some (6, false) }) (v := ?_) rfl (by kernel_rfl) (by kernel_rfl) (by kernel_rfl) (fun _ _ _ h => h) (Or.inl ⟨by rfl, ?_⟩) (by assumption) ?_
          rotate_left
          · (intro w hSw; (try dsimp only at hSw); (try obtain ⟨hSa, hSb⟩ := hSw); go_simp; try with_reducible rfl)
          try simp only [Act.put, List.setIfInBounds_toArray, List.set_cons_zero, List.set_cons_succ]
          refine wpAnyH_take (i := 11) (oi := { dst := some 22, op := Op.load 3 (Operand.tmp 21), type := 3, pos := "more.go:28", after := #[{ on := 10, ground := Ground.data }, { on := 6, ground := Ground.guard }], guard := some (6, false) }) (v := ?_) rfl (by kernel_rfl) (by kernel_rfl) (by kernel_rfl) (fun _ _ _ h => h) (Or.inl ⟨by rfl, ?_⟩) (by assumption) ?_
          rotate_left
          · (intro w hSw; (try dsimp only at hSw); (try obtain ⟨hSa, hSb⟩ := hSw); go_simp; try with_reducible rfl)
          try simp only [Act.put, List.setIfInBounds_toArray, List.set_cons_zero, List.set_cons_succ]
          refine wpAnyH_ready (rs := [14]) (by kernel_rfl) (by simp) ?_
          refine AllReadyH.cons (o := { dst := some 25, op := Op.call { callee := Callee.value (Operand.func 26), args := #[Operand.tmp 24], argTypes := #[23] }, type := 3, pos := "more.go:28", after := #[{ on := 13, ground := Ground.data }, { on := 6, ground := Ground.chain }, { on := 6, ground := Ground.guard }], guard := some (6, false) }) rfl (fun K hK => ?_) AllReadyH.nil
          go_simp
          refine (HU.out _).mono ?_
          rintro e ww_1 ⟨rfl, hO⟩
          have HB_1 := Lib.hid (HBs.out.only hO id)
          have HO_1 := Lib.hid (HOs.out.trans hO)
          have HQ_1 := Lib.hid (HQs.out.trans hO)
          try clear hO
          try simp only []
          refine hK.out _ _ ?_ (fun hHeld => ?_)
          · exact ⟨⟨⟨⟨HB_1.out.cell 0, HB_1.out.cell 1⟩, ⟨HB_1.out.cell 2, HB_1.out.cell 3⟩, HB_1.out.cell 4⟩, HB_1.out.cell 7⟩, HLZ.out _ HQ_1.out⟩
          clear hK K
          try simp only [Act.put, List.setIfInBounds_toArray, List.set_cons_zero, List.set_cons_succ]
          refine wpAnyH_take (i := 18) (oi := { dst := some 29, op := Op.binOp BinOp.mul 3 (Operand.tmp 25) (Operand.tmp 28) 3, type := 3, pos := "more.go:28", after := #[{ on := 14, ground := Ground.data }, { on := 17, ground := Ground.data }, { on := 6, ground := Ground.guard }], guard := some (6, false) }) (v := ?_) rfl (by kernel_rfl) (by kernel_rfl) (by kernel_rfl) (fun _ _ _ h => h) (Or.inl ⟨by rfl, ?_⟩) (by assumption) ?_
          rotate_left
          · (intro w hSw; (try dsimp only at hSw); (try obtain ⟨hSa, hSb⟩ := hSw); go_simp; try with_reducible rfl)
          try simp only [Act.put, List.setIfInBounds_toArray, List.set_cons_zero, List.set_cons_succ]
          refine wpAnyH_take (i := 19) (oi := { dst := some 30, op := Op.binOp BinOp.geq 3 (Operand.tmp 22) (Operand.tmp 29) 3, type := 4, pos := "more.go:28", after := #[{ on := 11, ground := Ground.data }, { on := 18, ground := Ground.data }, { on := 6, ground := Ground.guard }], guard := some (6, false) }) (v := ?_) rfl (by kernel_rfl) (by kernel_rfl) (by kernel_rfl) (fun _ _ _ h => h) (Or.inl ⟨by rfl, ?_⟩) (by assumption) ?_
          rotate_left
          · (intro w hSw; (try dsimp only at hSw); (try obtain ⟨hSa, hSb⟩ := hSw); go_simp; try with_reducible rfl)
          try simp only [Act.put, List.setIfInBounds_toArray, List.set_cons_zero, List.set_cons_succ]
          refine wpAnyH_take (i := 20) (oi := { dst := some 31, op := Op.pick (Operand.tmp 17) (Operand.const (Value.bool true)) (Operand.tmp 30), type := 4, pos := "more.go:28", after := #[{ on := 6, ground := Ground.data }, { on := 19, ground := Ground.data }], guard := none }) (v := ?_) rfl (by kernel_rfl) (by kernel_rfl) (by kernel_rfl) (fun _ _ _ h => h) (Or.inl ⟨by rfl, ?_⟩) (by assumption) ?_
          rotate_left
          · (intro w hSw; (try dsimp only at hSw); (try obtain ⟨hSa, hSb⟩ := hSw); go_simp; try with_reducible rfl)
          try simp only [Act.put, List.setIfInBounds_toArray, List.set_cons_zero, List.set_cons_succ]
          refine wpAnyH_done (by kernel_rfl) ?_ _
          go_wp2_with (fail)
          go_roundw
          case rel => exact ⟨k + 1, by omega, by simp, HTK.out _ HAL.out ⟨hz0, hz1⟩, HB_1.out, HO_1.out⟩
          case measure => simp [intOf]; omega
        · have d2 : decide (z ≥ u * gb) = true := decide_eq_true (by omega)
          have d2' : decide (u * gb ≤ z) = true := decide_eq_true (by omega)
          refine wp_region_held_drew (S := (fun W => (((W.cell? ⟨w.heap.size, 0, none⟩ = some (.int .i64 gc) ∧ W.cell? ⟨w.heap.size, 1, none⟩ = some (.int .i64 gl)) ∧ (W.cell? ⟨w.heap.size, 2, none⟩ = some (.int .i64 gb) ∧ W.cell? ⟨w.heap.size, 3, none⟩ = some (.int .i64 gp)) ∧ W.cell? ⟨w.heap.size, 4, none⟩ = some (.int .i64 gss)) ∧ W.cell? ⟨w.heap.size, 7, none⟩ = some (.slice (some ⟨gs, o, none⟩) bad.length cb)) ∧ W.cell? ⟨gs, o + k, none⟩ = some (.int .i64 z))) (by kernel_rfl) ?_ (fun hHeld => ?_)
          · exact ⟨⟨⟨⟨HBs.out.cell 0, HBs.out.cell 1⟩, ⟨HBs.out.cell 2, HBs.out.cell 3⟩, HBs.out.cell 4⟩, HBs.out.cell 7⟩, HLZ.out _ HQs.out⟩
          refine wpAnyH_take (i := 0) (oi := { dst := some 11, op := Op.fieldAddr 29 (Operand.tmp 1) 2, type := 0, pos := "more.go:28", after := #[], guard := none }) (v := ?_) rfl (by kernel_rfl) (by kernel_rfl) (by kernel_rfl) (fun _ _ _ h => h) (Or.inl ⟨by rfl, ?_⟩) (by assumption) ?_
          rotate_left
          · (intro w hSw; (try dsimp only at hSw); (try obtain ⟨hSa, hSb⟩ := hSw); go_simp; try with_reducible rfl)
          try simp only [Act.put, List.setIfInBounds_toArray, List.set_cons_zero, List.set_cons_succ]
          refine wpAnyH_take (i := 2) (oi := { dst := some 13, op := Op.move (Operand.tmp 3), type := 3, pos := "more.go:28", after := #[], guard := none }) (v := ?_) rfl (by kernel_rfl) (by kernel_rfl) (by kernel_rfl) (fun _ _ _ h => h) (Or.inl ⟨by rfl, ?_⟩) (by assumption) ?_
          rotate_left
          · (intro w hSw; (try dsimp only at hSw); (try obtain ⟨hSa, hSb⟩ := hSw); go_simp; try with_reducible rfl)
          try simp only [Act.put, List.setIfInBounds_toArray, List.set_cons_zero, List.set_cons_succ]
          refine wpAnyH_take (i := 1) (oi := { dst := some 12, op := Op.load 26 (Operand.tmp 11), type := 26, pos := "more.go:28", after := #[{ on := 0, ground := Ground.data }], guard := none }) (v := ?_) rfl (by kernel_rfl) (by kernel_rfl) (by kernel_rfl) (fun _ _ _ h => h) (Or.inl ⟨by rfl, ?_⟩) (by assumption) ?_
          rotate_left
          · (intro w hSw; (try dsimp only at hSw); (try obtain ⟨hSa, hSb⟩ := hSw); go_simp; try with_reducible rfl)
          try simp only [Act.put, List.setIfInBounds_toArray, List.set_cons_zero, List.set_cons_succ]
          refine wpAnyH_take (i := 3) (oi := { dst := some 14, op := Op.indexAddr 26 (Operand.tmp 12) (Operand.tmp 13), type := 0, pos := "more.go:28", after := #[{ on := 1, ground := Ground.data }, { on := 2, ground := Ground.data }], guard := none }) (v := ?_) rfl (by kernel_rfl) (by kernel_rfl) (by kernel_rfl) (fun _ _ _ h => h) (Or.inl ⟨by rfl, ?_⟩) (by assumption) ?_
          rotate_left
          · (intro w hSw; (try dsimp only at hSw); (try obtain ⟨hSa, hSb⟩ := hSw); go_simp; try with_reducible rfl)
          try simp only [Act.put, List.setIfInBounds_toArray, List.set_cons_zero, List.set_cons_succ]
          refine wpAnyH_take (i := 4) (oi := { dst := some 15, op := Op.load 3 (Operand.tmp 14), type := 3, pos := "more.go:28", after := #[{ on := 3, ground := Ground.data }], guard := none }) (v := ?_) rfl (by kernel_rfl) (by kernel_rfl) (by kernel_rfl) (fun _ _ _ h => h) (Or.inl ⟨by rfl, ?_⟩) (by assumption) ?_
          rotate_left
          · (intro w hSw; (try dsimp only at hSw); (try obtain ⟨hSa, hSb⟩ := hSw); go_simp; try with_reducible rfl)
          try simp only [Act.put, List.setIfInBounds_toArray, List.set_cons_zero, List.set_cons_succ]
          refine wpAnyH_take (i := 5) (oi := { dst := some 16, op := Op.binOp BinOp.lss 3 (Operand.tmp 15) (Operand.const (Value.int IntKind.i64 0)) 3, type := 4, pos := "more.go:28", after := #[{ on := 4, ground := Ground.data }], guard := none }) (v := ?_) rfl (by kernel_rfl) (by kernel_rfl) (by kernel_rfl) (fun _ _ _ h => h) (Or.inl ⟨by rfl, ?_⟩) (by assumption) ?_
          rotate_left
          · (intro w hSw; (try dsimp only at hSw); (try obtain ⟨hSa, hSb⟩ := hSw); go_simp; try with_reducible rfl)
          try simp only [Act.put, List.setIfInBounds_toArray, List.set_cons_zero, List.set_cons_succ]
          refine wpAnyH_take (i := 6) (oi := { dst := some 17, op := Op.move (Operand.tmp 16), type := 4, pos := "more.go:28", after := #[{ on := 5, ground := Ground.data }], guard := none }) (v := ?_) rfl (by kernel_rfl) (by kernel_rfl) (by kernel_rfl) (fun _ _ _ h => h) (Or.inl ⟨by rfl, ?_⟩) (by assumption) ?_
          rotate_left
          · (intro w hSw; (try dsimp only at hSw); (try obtain ⟨hSa, hSb⟩ := hSw); go_simp; try with_reducible rfl)
          try simp only [Act.put, List.setIfInBounds_toArray, List.set_cons_zero, List.set_cons_succ]
          refine wpAnyH_take (i := 7) (oi := { dst := some 18, op := Op.fieldAddr 29 (Operand.tmp 1) 2, type := 0, pos := "more.go:28", after := #[{ on := 6, ground := Ground.guard }], guard := some (6, false) }) (v := ?_) rfl (by kernel_rfl) (by kernel_rfl) (by kernel_rfl) (fun _ _ _ h => h) (Or.inl ⟨by rfl, ?_⟩) (by assumption) ?_
          rotate_left
          · (intro w hSw; (try dsimp only at hSw); (try obtain ⟨hSa, hSb⟩ := hSw); go_simp; try with_reducible rfl)
          try simp only [Act.put, List.setIfInBounds_toArray, List.set_cons_zero, List.set_cons_succ]
          refine wpAnyH_take (i := 9) (oi := { dst := some 20, op := Op.move (Operand.tmp 3), type := 3, pos := "more.go:28", after := #[{ on := 6, ground := Ground.guard }], guard := some (6, false) }) (v := ?_) rfl (by kernel_rfl) (by kernel_rfl) (by kernel_rfl) (fun _ _ _ h => h) (Or.inl ⟨by rfl, ?_⟩) (by assumption) ?_
          rotate_left
          · (intro w hSw; (try dsimp only at hSw); (try obtain ⟨hSa, hSb⟩ := hSw); go_simp; try with_reducible rfl)
          try simp only [Act.put, List.setIfInBounds_toArray, List.set_cons_zero, List.set_cons_succ]
          refine wpAnyH_take (i := 12) (oi := { dst := some 23, op := Op.fieldAddr 29 (Operand.tmp 1) 0, type := 0, pos := "more.go:28", after := #[{ on := 6, ground := Ground.guard }], guard := some (6, false) }) (v := ?_) rfl (by kernel_rfl) (by kernel_rfl) (by kernel_rfl) (fun _ _ _ h => h) (Or.inl ⟨by rfl, ?_⟩) (by assumption) ?_
          rotate_left
          · (intro w hSw; (try dsimp only at hSw); (try obtain ⟨hSa, hSb⟩ := hSw); go_simp; try with_reducible rfl)
          try simp only [Act.put, List.setIfInBounds_toArray, List.set_cons_zero, List.set_cons_succ]
          refine wpAnyH_take (i := 15) (oi := { dst := some 26, op := Op.fieldAddr 29 (Operand.tmp 1) 0, type := 0, pos := "more.go:28", after := #[{ on := 6, ground := Ground.guard }], guard := some (6, false) }) (v := ?_) rfl (by kernel_rfl) (by kernel_rfl) (by kernel_rfl) (fun _ _ _ h => h) (Or.inl ⟨by rfl, ?_⟩) (by assumption) ?_
          rotate_left
          · (intro w hSw; (try dsimp only at hSw); (try obtain ⟨hSa, hSb⟩ := hSw); go_simp; try with_reducible rfl)
          try simp only [Act.put, List.setIfInBounds_toArray, List.set_cons_zero, List.set_cons_succ]
          refine wpAnyH_take (i := 8) (oi := { dst := some 19, op := Op.load 26 (Operand.tmp 18), type := 26, pos := "more.go:28", after := #[{ on := 7, ground := Ground.data }, { on := 6, ground := Ground.guard }], guard := some (6, false) }) (v := ?_) rfl (by kernel_rfl) (by kernel_rfl) (by kernel_rfl) (fun _ _ _ h => h) (Or.inl ⟨by rfl, ?_⟩) (by assumption) ?_
          rotate_left
          · (intro w hSw; (try dsimp only at hSw); (try obtain ⟨hSa, hSb⟩ := hSw); go_simp; try with_reducible rfl)
          try simp only [Act.put, List.setIfInBounds_toArray, List.set_cons_zero, List.set_cons_succ]
          refine wpAnyH_take (i := 13) (oi := { dst := some 24, op := Op.load 23 (Operand.tmp 23), type := 23, pos := "more.go:28", after := #[{ on := 12, ground := Ground.data }, { on := 6, ground := Ground.guard }], guard := some (6, false) }) (v := ?_) rfl (by kernel_rfl) (by kernel_rfl) (by kernel_rfl) (fun _ _ _ h => h) (Or.inl ⟨by rfl, ?_⟩) (by assumption) ?_
          rotate_left
          · (intro w hSw; (try dsimp only at hSw); (try obtain ⟨hSa, hSb⟩ := hSw); go_simp; try with_reducible rfl)
          try simp only [Act.put, List.setIfInBounds_toArray, List.set_cons_zero, List.set_cons_succ]
          refine wpAnyH_take (i := 16) (oi := { dst := some 27, op := Op.fieldAddr 23 (Operand.tmp 26) 2, type := 0, pos := "more.go:28", after := #[{ on := 15, ground := Ground.data }, { on := 6, ground := Ground.guard }], guard := some (6, false) }) (v := ?_) rfl (by kernel_rfl) (by kernel_rfl) (by kernel_rfl) (fun _ _ _ h => h) (Or.inl ⟨by rfl, ?_⟩) (by assumption) ?_
          rotate_left
          · (intro w hSw; (try dsimp only at hSw); (try obtain ⟨hSa, hSb⟩ := hSw); go_simp; try with_reducible rfl)
          try simp only [Act.put, List.setIfInBounds_toArray, List.set_cons_zero, List.set_cons_succ]
          refine wpAnyH_take (i := 10) (oi := { dst := some 21, op := Op.indexAddr 26 (Operand.tmp 19) (Operand.tmp 20), type := 0, pos := "more.go:28", after := #[{ on := 8, ground := Ground.data }, { on := 9, ground := Ground.data }, { on := 6, ground := Ground.guard }], guard := some (6, false) }) (v := ?_) rfl (by kernel_rfl) (by kernel_rfl) (by kernel_rfl) (fun _ _ _ h => h) (Or.inl ⟨by rfl, ?_⟩) (by assumption) ?_
          rotate_left
          · (intro w hSw; (try dsimp only at hSw); (try obtain ⟨hSa, hSb⟩ := hSw); go_simp; try with_reducible rfl)
          try simp only [Act.put, List.setIfInBounds_toArray, List.set_cons_zero, List.set_cons_succ]
          refine wpAnyH_take (i := 17) (oi := { dst := some 28, op := Op.load 3 (Operand.tmp 27), type := 3, pos := "more.go:28", after := #[{ on := 16, ground := Ground.data }, { on := 6, ground := Ground.guard }], guard := some (6, false) }) (v := ?_) rfl (by kernel_rfl) (by kernel_rfl) (by kernel_rfl) (fun _ _ _ h => h) (Or.inl ⟨by rfl, ?_⟩) (by assumption) ?_
          rotate_left
          · (intro w hSw; (try dsimp only at hSw); (try obtain ⟨hSa, hSb⟩ := hSw); go_simp; try with_reducible rfl)
          try simp only [Act.put, List.setIfInBounds_toArray, List.set_cons_zero, List.set_cons_succ]
          refine wpAnyH_take (i := 11) (oi := { dst := some 22, op := Op.load 3 (Operand.tmp 21), type := 3, pos := "more.go:28", after := #[{ on := 10, ground := Ground.data }, { on := 6, ground := Ground.guard }], guard := some (6, false) }) (v := ?_) rfl (by kernel_rfl) (by kernel_rfl) (by kernel_rfl) (fun _ _ _ h => h) (Or.inl ⟨by rfl, ?_⟩) (by assumption) ?_
          rotate_left
          · (intro w hSw; (try dsimp only at hSw); (try obtain ⟨hSa, hSb⟩ := hSw); go_simp; try with_reducible rfl)
          try simp only [Act.put, List.setIfInBounds_toArray, List.set_cons_zero, List.set_cons_succ]
          refine wpAnyH_ready (rs := [14]) (by kernel_rfl) (by simp) ?_
          refine AllReadyH.cons (o := { dst := some 25, op := Op.call { callee := Callee.value (Operand.func 26), args := #[Operand.tmp 24], argTypes := #[23] }, type := 3, pos := "more.go:28", after := #[{ on := 13, ground := Ground.data }, { on := 6, ground := Ground.chain }, { on := 6, ground := Ground.guard }], guard := some (6, false) }) rfl (fun K hK => ?_) AllReadyH.nil
          go_simp
          refine (HU.out _).mono ?_
          rintro e ww_1 ⟨rfl, hO⟩
          have HB_1 := Lib.hid (HBs.out.only hO id)
          have HO_1 := Lib.hid (HOs.out.trans hO)
          have HQ_1 := Lib.hid (HQs.out.trans hO)
          try clear hO
          try simp only []
          refine hK.out _ _ ?_ (fun hHeld => ?_)
          · exact ⟨⟨⟨⟨HB_1.out.cell 0, HB_1.out.cell 1⟩, ⟨HB_1.out.cell 2, HB_1.out.cell 3⟩, HB_1.out.cell 4⟩, HB_1.out.cell 7⟩, HLZ.out _ HQ_1.out⟩
          clear hK K
          try simp only [Act.put, List.setIfInBounds_toArray, List.set_cons_zero, List.set_cons_succ]
          refine wpAnyH_take (i := 18) (oi := { dst := some 29, op := Op.binOp BinOp.mul 3 (Operand.tmp 25) (Operand.tmp 28) 3, type := 3, pos := "more.go:28", after := #[{ on := 14, ground := Ground.data }, { on := 17, ground := Ground.data }, { on := 6, ground := Ground.guard }], guard := some (6, false) }) (v := ?_) rfl (by kernel_rfl) (by kernel_rfl) (by kernel_rfl) (fun _ _ _ h => h) (Or.inl ⟨by rfl, ?_⟩) (by assumption) ?_
          rotate_left
          · (intro w hSw; (try dsimp only at hSw); (try obtain ⟨hSa, hSb⟩ := hSw); go_simp; try with_reducible rfl)
          try simp only [Act.put, List.setIfInBounds_toArray, List.set_cons_zero, List.set_cons_succ]
          refine wpAnyH_take (i := 19) (oi := { dst := some 30, op := Op.binOp BinOp.geq 3 (Operand.tmp 22) (Operand.tmp 29) 3, type := 4, pos := "more.go:28", after := #[{ on := 11, ground := Ground.data }, { on := 18, ground := Ground.data }, { on := 6, ground := Ground.guard }], guard := some (6, false) }) (v := ?_) rfl (by kernel_rfl) (by kernel_rfl) (by kernel_rfl) (fun _ _ _ h => h) (Or.inl ⟨by rfl, ?_⟩) (by assumption) ?_
          rotate_left
          · (intro w hSw; (try dsimp only at hSw); (try obtain ⟨hSa, hSb⟩ := hSw); go_simp; try with_reducible rfl)
          try simp only [Act.put, List.setIfInBounds_toArray, List.set_cons_zero, List.set_cons_succ]
          refine wpAnyH_take (i := 20) (oi := { dst := some 31, op := Op.pick (Operand.tmp 17) (Operand.const (Value.bool true)) (Operand.tmp 30), type := 4, pos := "more.go:28", after := #[{ on := 6, ground := Ground.data }, { on := 19, ground := Ground.data }], guard := none }) (v := ?_) rfl (by kernel_rfl) (by kernel_rfl) (by kernel_rfl) (fun _ _ _ h => h) (Or.inl ⟨by rfl, ?_⟩) (by assumption) ?_
          rotate_left
          · (intro w hSw; (try dsimp only at hSw); (try obtain ⟨hSa, hSb⟩ := hSw); go_simp; try with_reducible rfl)
          try simp only [Act.put, List.setIfInBounds_toArray, List.set_cons_zero, List.set_cons_succ]
          refine wpAnyH_done (by kernel_rfl) ?_ _
          go_wp2
          go_ret
          exact ⟨rfl, HO_1.out⟩
    · obtain rfl : k = bad.length := by omega
      obtain ⟨z, hz, hz'⟩ := HBAD.out
      have := HAL.out z (by rw [List.take_length]; exact hz)
      omega
end Go.Proofs.YtjobaplioidogaaGreat
