/- Gate: Fill. -/
import Derived.Test.YtpfgjnklfdfiaaaK
import Derived.WalkMore
namespace Go.Proofs.Ytpfgjnklfdfiaaa
open Go.RowKit Go.Conc

def chN (w : World) (c : Nat) : Nat := match w.heap[c]? with
  | some (.chan _ buf _ _ _ _) => buf.size
  | _ => 0

theorem ChAt.chN {w : World} {c cap n : Nat} (h : ChAt w c cap n) : chN w c = n := by
  obtain ⟨s, r, h⟩ := h
  simp [Proofs.Ytpfgjnklfdfiaaa.chN, h]

theorem GAt.only {w w' : World} {b cu cm many nu nm nu' nm' : Nat} (h : GAt w b cu cm many nu nm) (k : Only (fun i => i = cu ∨ i = cm) w w') (hu : ChAt w' cu many nu') (hm : ChAt w' cm many nm') : GAt w' b cu cm many nu' nm' :=
  ⟨h.st.only k (by have := h.ne; omega), hu, hm, h.ne⟩

theorem GAt.lts {w : World} {b cu cm many nu nm : Nat} (h : GAt w b cu cm many nu nm) : b < w.heap.size ∧ cu < w.heap.size ∧ cm < w.heap.size := ⟨h.st.lt, h.u.lt, h.m.lt⟩

theorem GAt.far {w w' : World} {b cu cm many nu nm : Nat} {S : Nat → Prop} (h : GAt w b cu cm many nu nm) (k : Only S w w') (hb : ¬ S b) (hu : ¬ S cu) (hm : ¬ S cm) : GAt w' b cu cm many nu nm := by
  obtain ⟨s, r, q⟩ := h.u
  obtain ⟨s', r', q'⟩ := h.m
  exact ⟨h.st.only k hb, ⟨s, r, (k.block cu h.u.lt hu).trans q⟩, ⟨s', r', (k.block cm h.m.lt hm).trans q'⟩, h.ne⟩

set_option maxHeartbeats 4000000 in
theorem fill_any (b cu cm many nu nm va vb : Nat) (x0 x1 x2 : Int) (w : World) (h : GAt w b cu cm many nu nm) (hmany : many ≤ 256) (hA : splitA x0 x1 x2 many = va) (hB : splitB x0 x1 x2 many = vb) (hab : va + vb ≤ many) :
    Calls Try.prog 17 #[.pointer (some ⟨b, 0, none⟩), .int .i64 x0, .int .i64 x1, .int .i64 x2] w fun e w' => e = .returned (.tuple #[]) ∧ GAt w' b cu cm many va vb ∧ Only (fun i => i = cu ∨ i = cm) w w' := by
  have hs := fun w => split_any x0 x1 x2 many w
  rw [hA, hB] at hs
  have Hs := Lib.hid hs
  clear hs hA hB
  obtain ⟨l1, l2, l3⟩ := h.lts
  go_enter Try.func17, Try.ntmps17
  go_wp2_with (fail)
  go_loopw [14] (fun v wr => ∃ (k nu' nm' : Nat), k ≤ 2 ∧ v = .int .i64 k ∧ GAt wr b cu cm many nu' nm' ∧ (1 ≤ k → nu' = 0) ∧ (2 ≤ k → nm' = 0) ∧ At wr w.heap.size 3 #[.int .i64 1, .int .i64 2] ∧ Only (fun i => i = cu ∨ i = cm) w wr) (fun v wr => (2 - intOf v).toNat)
  case atStart =>
    exact ⟨0, nu, nm, by omega, rfl, h.far ((Only.refl (fun _ => False) w).alloc _) id id id, by omega, by omega, At.new _ _ _, (Only.refl _ _).alloc _⟩
  case round =>
    obtain ⟨k, nu', nm', hk, rfl, hG, hu0, hm0, hT, hO⟩ := hrel
    have HT := Lib.hid hT
    have d0 := hT.cell 0
    have d1 := hT.cell 1
    simp at d0 d1
    have g : k = 0 ∨ k = 1 ∨ k = 2 := by omega
    rcases g with rfl | rfl | rfl
    · go_wp2_with (fail)
      rename_i KK hKK
      refine wp_scope_straight (wp_seq_k fun K2 hK2 => wp_label ?_)
      go_wp2_with (fail)
      have z0 : ((0 : Nat) : Int) = 0 := rfl
      have z1 : ((1 : Nat) : Int) = 1 := rfl
      simp only [z0, z1]
      obtain ⟨wo, rfl⟩ : ∃ wo : World, wo = wr := ⟨_, rfl⟩
      have hn : (∃ n, nu' = n) := ⟨_, rfl⟩
      go_loopw [] (fun wq => ∃ (nu2 nm2 : Nat), GAt wq b cu cm many nu2 nm2 ∧ True ∧ At wq w.heap.size 3 #[.int .i64 1, .int .i64 2] ∧ Only (fun i => i = cu ∨ i = cm) w wq) (fun wq => chN wq cu)
      case atStart => exact ⟨nu', nm', hG, trivial, HT.out, hO⟩
      case round =>
        obtain ⟨nu2, nm2, hG2, hR2, hT2, hO2⟩ := hrel
        have hlt : b < w.heap.size ∧ cu < w.heap.size ∧ cm < w.heap.size := ⟨l1, l2, l3⟩
        have HTk := Lib.hid (take_any b cu cm many nu2 nm2 1 _ hG2)
        have HT2 := Lib.hid hT2
        clear hT2 d0 d1 HT hT
        by_cases hz : nu2 = 0
        · have hd : decide (0 < leftN nu2 nm2 1) = false := by simp [leftN, hz]
          rw [hd] at HTk
          clear hd
          go_wp2_with (fail)
          refine HTk.out.mono ?_
          rintro e w1 ⟨rfl, hG3, hO3⟩
          have hT3 := HT2.out.only hO3 (by omega)
          have hO4 := hO2.trans hO3
          go_wp2
          refine hKK _ _ ?_
          go_wp2
          go_roundw
          case rel =>
            refine ⟨1, _, _, by omega, rfl, hG3, ?_, ?_, hT3, hO4⟩
            · intro _; simp [lessU, hz]
            · intro h; omega
          case measure => simp [intOf]; try omega
        · have hd : decide (0 < leftN nu2 nm2 1) = true := by simp [leftN]; omega
          rw [hd] at HTk
          clear hd
          go_wp2_with (fail)
          refine HTk.out.mono ?_
          rintro e w1 ⟨rfl, hG3, hO3⟩
          have hT3 := HT2.out.only hO3 (by omega)
          have hO4 := hO2.trans hO3
          have hm1 := hG2.u.chN
          have hm2 := hG3.u.chN
          go_wp2
          go_roundw
          case rel => exact ⟨_, _, hG3, trivial, hT3, hO4⟩
          case measure => rw [hm1, hm2]; simp [lessU]; omega
    · go_wp2_with (fail)
      rename_i KK hKK
      refine wp_scope_straight (wp_seq_k fun K2 hK2 => wp_label ?_)
      go_wp2_with (fail)
      have z0 : ((0 : Nat) : Int) = 0 := rfl
      have z1 : ((1 : Nat) : Int) = 1 := rfl
      simp only [z0, z1]
      obtain ⟨wo, rfl⟩ : ∃ wo : World, wo = wr := ⟨_, rfl⟩
      have hn : (∃ n, nm' = n) := ⟨_, rfl⟩
      go_loopw [] (fun wq => ∃ (nu2 nm2 : Nat), GAt wq b cu cm many nu2 nm2 ∧ nu2 = 0 ∧ At wq w.heap.size 3 #[.int .i64 1, .int .i64 2] ∧ Only (fun i => i = cu ∨ i = cm) w wq) (fun wq => chN wq cm)
      case atStart => exact ⟨nu', nm', hG, hu0 (by omega), HT.out, hO⟩
      case round =>
        obtain ⟨nu2, nm2, hG2, hR2, hT2, hO2⟩ := hrel
        have hlt : b < w.heap.size ∧ cu < w.heap.size ∧ cm < w.heap.size := ⟨l1, l2, l3⟩
        have HTk := Lib.hid (take_any b cu cm many nu2 nm2 2 _ hG2)
        have HT2 := Lib.hid hT2
        clear hT2 d0 d1 HT hT
        by_cases hz : nm2 = 0
        · have hd : decide (0 < leftN nu2 nm2 2) = false := by simp [leftN, hz]
          rw [hd] at HTk
          clear hd
          go_wp2_with (fail)
          refine HTk.out.mono ?_
          rintro e w1 ⟨rfl, hG3, hO3⟩
          have hT3 := HT2.out.only hO3 (by omega)
          have hO4 := hO2.trans hO3
          go_wp2
          refine hKK _ _ ?_
          go_wp2
          go_roundw
          case rel =>
            refine ⟨2, _, _, by omega, rfl, hG3, ?_, ?_, hT3, hO4⟩
            · intro _; simp [lessU, hR2]
            · intro h; simp [lessM, hz]
          case measure => simp [intOf]; try omega
        · have hd : decide (0 < leftN nu2 nm2 2) = true := by simp [leftN]; omega
          rw [hd] at HTk
          clear hd
          go_wp2_with (fail)
          refine HTk.out.mono ?_
          rintro e w1 ⟨rfl, hG3, hO3⟩
          have hT3 := HT2.out.only hO3 (by omega)
          have hO4 := hO2.trans hO3
          have hm1 := hG2.m.chN
          have hm2 := hG3.m.chN
          go_wp2
          go_roundw
          case rel => exact ⟨_, _, hG3, by simpa [lessU] using hR2, hT3, hO4⟩
          case measure => rw [hm1, hm2]; simp [lessM]; omega
    · have hu0 := hu0 (by omega)
      have hm0 := hm0 (by omega)
      subst hu0; subst hm0
      have e0 := hG.st.cell 0
      have e1 := hG.st.cell 1
      have e2 := hG.st.cell 2
      simp at e0 e1 e2
      have Hl1 := Lib.hid (fun (w : World) (h : ChAt w cu many 0) => lay_any cu many 0 va w h (by omega) (by omega))
      have Hl2 := Lib.hid (fun (w : World) (h : ChAt w cm many 0) => lay_any cm many 0 vb w h (by omega) (by omega))
      have HG := Lib.hid hG
      have HO := Lib.hid hO
      clear hT HT d0 d1 hO hG
      go_wp2_with (fail)
      refine (Hs.out _).mono ?_
      rintro e w1 ⟨rfl, rfl⟩
      go_wp2_with (fail)
      refine (Hl1.out _ HG.out.u).mono ?_
      rintro e w2 ⟨rfl, hc, hO1⟩
      obtain ⟨n1, n2, n3⟩ := HG.out.ne
      have hm' := HG.out.far (S := fun i => i = cu) hO1
      have hst := HG.out.st.only hO1 n2
      have e2 := hst.cell 2
      simp at e2
      obtain ⟨s, r, q⟩ := HG.out.m
      have q2 : ChAt w2 cm many 0 := ⟨s, r, (hO1.block cm HG.out.m.lt (Ne.symm n1)).trans q⟩
      have HQ := Lib.hid q2
      clear q q2 hm'
      go_wp2_with (fail)
      refine (Hl2.out _ HQ.out).mono ?_
      rintro e w3 ⟨rfl, hc2, hO3⟩
      rw [Nat.zero_add] at hc hc2
      go_wp2
      go_end0
      obtain ⟨s, r, q⟩ := hc
      exact ⟨rfl, ⟨hst.only hO3 n3, ⟨s, r, (hO3.block cu (Array.getElem?_eq_some_iff.1 q).1 n1).trans q⟩, hc2, n1, n2, n3⟩, (HO.out.trans (hO1.mono fun i _ h => Or.inl h)).trans (hO3.mono fun i _ h => Or.inr h)⟩
end Go.Proofs.Ytpfgjnklfdfiaaa
