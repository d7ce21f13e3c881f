/- Ring: the document's ring: Take. -/
import Derived.Test.YtookghkfghdadaaAF
namespace Go.Proofs.Ytookghkfghdadaa
open Go.RowKit

/-- The first m that wait from place p on are handed out: the states then, and the places. -/
def xtk (ss : List Int) (p m : Nat) : List Int × List Int :=
  if p < ss.length ∧ 0 < m then
    if ss.getD p 0 = 0 then ((xtk (ss.set p 1) (p + 1) (m - 1)).1, (p : Int) :: (xtk (ss.set p 1) (p + 1) (m - 1)).2) else xtk ss (p + 1) m
  else (ss, [])
termination_by ss.length - p
decreasing_by all_goals (try simp only [List.length_set]); omega
theorem xtk_take (ss : List Int) (p m : Nat) (h1 : p < ss.length) (h2 : 0 < m) (h3 : ss.getD p 0 = 0) : xtk ss p m = ((xtk (ss.set p 1) (p + 1) (m - 1)).1, (p : Int) :: (xtk (ss.set p 1) (p + 1) (m - 1)).2) := by
  rw [xtk, if_pos ⟨h1, h2⟩, if_pos h3]
theorem xtk_skip (ss : List Int) (p m : Nat) (h1 : p < ss.length) (h2 : 0 < m) (h3 : ss.getD p 0 ≠ 0) : xtk ss p m = xtk ss (p + 1) m := by
  rw [xtk, if_pos ⟨h1, h2⟩, if_neg h3]
theorem xtk_end (ss : List Int) (p m : Nat) (h1 : ¬ (p < ss.length ∧ 0 < m)) : xtk ss p m = (ss, []) := by rw [xtk, if_neg h1]

def XTake (B d : Nat) (size : Int) (ps : List PS) (L : XL) (ss' out : List Int) (w : World) (e : Ending) (w' : World) : Prop :=
  ∃ A c gO, e = .returned (.slice A out.length c) ∧ RowAt w' A out.length c gO 3 1 (iv out) ∧ XM B w' d size ps ss' L ∧ Only (fun i => L.A9 ≠ none ∧ i = L.g9) w w'

set_option maxRecDepth 100000 in
set_option maxHeartbeats 8000000 in
theorem xtake_any (B d : Nat) (size : Int) (ps : List PS) (ss : List Int) (L : XL) (n : Int) (w : World) (k : XM B w d size ps ss L) :
    Calls Try.prog 42 #[.pointer (some ⟨d, 0, none⟩), .int .i64 n] w (XTake B d size ps L (xtk ss 0 n.toNat).1 (xtk ss 0 n.toNat).2 w) := by
  obtain ⟨i0, hi⟩ : ∃ i, Try.prog.info? 3 = some i := ⟨_, rfl⟩
  have hz0 : i0.zero = some (.int .i64 0) := by cases hi; rfl
  have hz1 : i0.size = 1 := by cases hi; rfl
  have hz2 : i0.bytes = 8 := by cases hi; rfl
  have HI := Lib.hid (And.intro hi (And.intro hz0 (And.intro hz1 hz2)))
  clear hi hz0 hz1 hz2
  have HK0 := Lib.hid k
  have HLT := Lib.hid (fun h => k.sr.lt h : L.A9 ≠ none → L.g9 < w.heap.size)
  obtain ⟨m, hm⟩ : ∃ m, ps.length = m := ⟨_, rfl⟩
  have HM := Lib.hid hm
  have hlm : m ≤ 100000 := by rw [← hm]; exact k.len
  clear k hm
  go_enter Try.func42, Try.ntmps42
  go_wp2_with (fail)
  go_loopw [5, 6] (fun v5 v6 wr => ∃ (p : Nat) (s1 out : List Int) (A : Option Addr) (c gO : Nat), p ≤ m ∧ v6 = .int .i64 p ∧ v5 = .slice A out.length c ∧ out.length ≤ p ∧
      (xtk ss 0 n.toNat).1 = (xtk s1 p (n.toNat - out.length)).1 ∧ (xtk ss 0 n.toNat).2 = out ++ (xtk s1 p (n.toNat - out.length)).2 ∧
      RowAt wr A out.length c gO 3 1 (iv out) ∧ (A ≠ none → w.heap.size ≤ gO) ∧ XM B wr d size ps s1 L ∧ Only (fun i => L.A9 ≠ none ∧ i = L.g9) w wr) (fun v5 v6 wr => (m - intOf v6).toNat)
  case atStart => exact ⟨0, ss, [], none, 0, 0, by omega, rfl, rfl, by simp, by simp, by simp, .inl ⟨rfl, rfl, rfl, rfl⟩, fun h => absurd rfl h, HK0.out, Only.refl _ _⟩
  case round =>
    obtain ⟨p, s1, out, A, c, gO, hp2, rfl, rfl, hol, ht1, ht2, hrow, hgO, hk, hO⟩ := hrel
    have hsm : s1.length = m := by rw [hk.eq, HM.out]
    have c2 : wr.cell? ⟨d, 2, none⟩ = some (.slice L.A9 m L.c9) := by have := hk.st.cell 2; rw [hsm] at this; exact this
    have HSM := Lib.hid hsm
    have HT1 := Lib.hid ht1
    have HT2 := Lib.hid ht2
    have HROW := Lib.hid hrow
    have HGO := Lib.hid hgO
    have HK := Lib.hid hk
    have HO := Lib.hid hO
    clear ht1 ht2 hrow hgO hk hO hsm
    by_cases hph : p < m
    · have i1 : (p : Int) < m := by omega
      have i0' : (0 : Int) ≤ p := by omega
      by_cases hon : (out.length : Int) < n
      · have hps : p < s1.length := by rw [HSM.out]; exact hph
        obtain ⟨off, hA9, hc⟩ := row_cell HK.out.sr hps
        have HSET := Lib.hid (HK.out.setS (z := 1) hA9 hps)
        have hfr := ivrow_frozen HK.out.sr hA9 (off + p)
        have hgd : s1.getD p 0 = s1[p] := by simp [List.getD, hps]
        have hA9n : L.A9 ≠ none := by rw [hA9]; simp
        have HA9N := Lib.hid hA9n
        rw [hA9] at c2
        by_cases hst : s1[p] = 0
        · have HTK := Lib.hid (xtk_take s1 p (n.toNat - out.length) hps (by omega) (hgd.trans hst))
          have e0 : (s1[p] == 0) = true := by simp [hst]
          rw [hst] at hc
          clear e0 hst hgd hA9 hA9n
          have c2' : (wr.setCell ⟨L.g9, off + p, none⟩ (.int .i64 1)).cell? ⟨d, 2, none⟩ = some (.slice (some ⟨L.g9, off, none⟩) m L.c9) := c2 ▸ (HSET.out.2.cell (p := ⟨d, 2, none⟩) (World.block_lt_of_cell? _ _ c2) (fun e => HK.out.sr.neAt HK.out.st e.1 (by decide) e.2.symm))
          have hne : A ≠ none → ¬ (L.A9 ≠ none ∧ gO = L.g9) := fun hA e => by have h1 := HGO.out hA; have h2 := HLT.out e.1; omega
          have HROW2 := Lib.hid ((HROW.out.only HSET.out.2 hne).only ((Only.refl (fun _ => False) (wr.setCell ⟨L.g9, off + p, none⟩ (.int .i64 1))).alloc (.cells #[.int .i64 p] 3)) (fun _ => id))
          have HK2 := Lib.hid (HSET.out.1.quiet ((Only.refl (fun _ => False) (wr.setCell ⟨L.g9, off + p, none⟩ (.int .i64 1))).alloc (.cells #[.int .i64 p] 3)))
          have HN2 : Hid (At ((wr.setCell ⟨L.g9, off + p, none⟩ (.int .i64 1)).alloc (.cells #[.int .i64 (p : Int)] 3)) wr.heap.size 3 #[.int .i64 (p : Int)]) := Lib.hid (At.new' (by simp) 3 #[.int .i64 (p : Int)])
          have HO2 := Lib.hid ((HO.out.trans HSET.out.2).alloc (.cells #[.int .i64 p] 3))
          have hgO2 := HO2.out.size
          clear hne
          go_wp2_with (at_builtin; go_loud (refine wpList_append_row _ rfl (.tmp 36) (.tmp 38) 32 rfl 3 i0 (.int .i64 0) 1 8 Try.underlying32 HI.out.1 HI.out.2.1 HI.out.2.2.1 HI.out.2.2.2 rfl (by decide) A out.length c gO (iv out) rfl HROW2.out ⟨wr.heap.size, 0, none⟩ [.int .i64 p] 1 rfl rfl (fun j u hj => HN2.out.reads j u hj) (by simp [Value.oneCell']) (by unfold maxLen; omega) (by omega) ?_); intro A3 c3 g3 w3 hrow3 hO3 hA3; have HROW3 := Lib.hid hrow3; have HO3 := Lib.hid hO3; have HA3 := Lib.hid hA3; clear hrow3 hO3 hA3)
          go_roundw
          case rel =>
            have hz : A ≠ none → w.heap.size ≤ gO := HGO.out
            have hlt := HK0.out.st.lt
            refine ⟨p + 1, s1.set p 1, out ++ [(p : Int)], A3, c3, g3, by omega, by simp, by simp, by simp; omega, ?_, ?_, ?_, ?_, HK2.out.only HO3.out ?_ ?_ ?_ ?_, ?_⟩
            · have e : n.toNat - (out ++ [(p : Int)]).length = n.toNat - out.length - 1 := by simp; omega
              rw [e, HT1.out, HTK.out]
            · have e : n.toNat - (out ++ [(p : Int)]).length = n.toNat - out.length - 1 := by simp; omega
              rw [e, HT2.out, HTK.out]; simp
            · have := HROW3.out
              simpa [iv] using this
            · intro _
              rcases HA3.out.2 with ⟨q1, q2⟩ | q2
              · rw [q2]; exact hz q1
              · exact Nat.le_trans hgO2 q2
            · exact fun e => by have := hz e.1; omega
            · exact fun h8 e => HK2.out.sl.ne HROW2.out h8 e.1 (by decide) e.2
            · exact fun h9 e => by have h1 := hz e.1; have h2 := HLT.out h9; omega
            · exact fun r hr hA e => (HK2.out.ok r hr).row.ne HROW2.out hA e.1 (by decide) e.2
            · exact HO2.out.trans' HO3.out (fun i hi e => by have := hz e.1; omega)
          case measure => simp [intOf]; omega
        · have HTK := Lib.hid (xtk_skip s1 p (n.toNat - out.length) hps (by omega) (fun e => hst (hgd ▸ e)))
          have e0 : (s1[p] == 0) = false := beq_false_of_ne hst
          generalize s1[p] = z at *
          clear hst hgd hA9 hA9n
          go_wp2
          go_roundw
          case rel => exact ⟨p + 1, s1, out, A, c, gO, by omega, by simp, rfl, by omega, by rw [HT1.out, HTK.out], by rw [HT2.out, HTK.out], HROW.out, HGO.out, HK.out, HO.out⟩
          case measure => simp [intOf]; omega
      · have d1 : decide ((out.length : Int) < n) = false := by simp; omega
        have HE := Lib.hid (xtk_end s1 p (n.toNat - out.length) (by omega))
        go_wp2
        go_ret
        have e2 := HT2.out
        rw [HE.out, List.append_nil] at e2
        have e1 := HT1.out
        rw [HE.out] at e1
        rw [e1, e2]
        exact ⟨A, c, gO, rfl, HROW.out, HK.out, HO.out⟩
    · have d1 : decide ((p : Int) < m) = false := by simp; omega
      have HE := Lib.hid (xtk_end s1 p (n.toNat - out.length) (by rw [HSM.out]; omega))
      go_wp2
      go_ret
      have e2 := HT2.out
      rw [HE.out, List.append_nil] at e2
      have e1 := HT1.out
      rw [HE.out] at e1
      rw [e1, e2]
      exact ⟨A, c, gO, rfl, HROW.out, HK.out, HO.out⟩
end Go.Proofs.Ytookghkfghdadaa
