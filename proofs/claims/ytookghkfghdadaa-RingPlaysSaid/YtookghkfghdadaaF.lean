/- Ring: the closures, picked, Take, Waiting. -/
import Derived.Test.YtookghkfghdadaaE
namespace Go.Proofs.Ytookghkfghdadaa
open Go.RowKit

def iv (l : List Int) : List Value := l.map (Value.int .i64)
theorem iv_len (l : List Int) : (iv l).length = l.length := by simp [iv]
theorem iv_get (l : List Int) (m : Nat) (h : m < l.length) : (iv l)[m]? = some (.int .i64 l[m]) := by simp [iv, h]

theorem At.reads {w : World} {g : Nat} {t : TypeId} {cs : Array Value} (h : At w g t cs) (j : Nat) (u : Value) (hj : cs.toList[j]? = some u) : w.cell? ((⟨g, 0, none⟩ : Addr).add j) = some u := by
  have e : w.cell? ⟨g, j, none⟩ = some u := by rw [h.cell]; simpa using hj
  unfold Addr.add
  split
  · subst j; exact e
  · simpa using e

theorem RgAt.qlt {w : World} {b g t h : Nat} {l : List RC} (k : RgAt w b g t h l) (p : Nat) : p % l.length < l.length := Nat.mod_lt _ (by have := k.len.1; omega)
theorem RgAt.stc {w : World} {b g t h : Nat} {l : List RC} (k : RgAt w b g t h l) (p : Nat) : w.cell? ⟨g, p % l.length * 6 + 5, none⟩ = some (.int .i64 (stOf l p)) := by
  have h1 := k.qlt p
  rw [stOf_lt l p h1]
  exact k.cell _ 5 h1 (by omega)

theorem RgAt.setSt {w : World} {b g t h : Nat} {l : List RC} (k : RgAt w b g t h l) (p : Nat) (z : Int) : RgAt (w.setCell ⟨g, p % l.length * 6 + 5, none⟩ (.int .i64 z)) b g t h (setSt l p z) := by
  have hq := k.qlt p
  have hset : Proofs.Ytookghkfghdadaa.setSt l p z = l.set (p % l.length) { l[p % l.length] with st := z } := by simp [Proofs.Ytookghkfghdadaa.setSt, List.getD, hq]
  rw [hset]
  generalize p % l.length = q at *
  have hOg := Only.setCell (S := fun i => i = g) (p := ⟨g, q * 6 + 5, none⟩) (Only.refl _ w) (fun _ => rfl) (.int .i64 z)
  refine ⟨by rw [List.length_set]; exact k.st.only hOg k.ne, ?_, fun y hy => ?_, by rw [List.length_set]; exact k.len, by rw [List.length_set]; exact k.pos, k.ne⟩
  · have := k.row.set (q * 6 + 5) (.int .i64 z)
    rw [List.setIfInBounds_toArray, rcs_set1 l q hq] at this
    exact this
  · have hy' : ∃ y' ∈ l, y.x = y'.x ∧ y.A = y'.A ∧ y.c = y'.c ∧ y.gp = y'.gp := by
      rcases mem_set_cases hy with hy | rfl
      · exact ⟨y, hy, rfl, rfl, rfl, rfl⟩
      · exact ⟨l[q], List.getElem_mem hq, rfl, rfl, rfl, rfl⟩
    obtain ⟨y', hm, e1, e2, e3, e4⟩ := hy'
    have := (k.ok y' hm).only hOg (fun hA => (k.p_ne ⟨y', hm, hA, rfl⟩).2)
    exact ⟨by rw [e1, e2, e3, e4]; exact this.row, by rw [e1]; exact this.len⟩

set_option maxHeartbeats 1000000 in
theorem want_any (b g t h x : Nat) (l : List RC) (p : Nat) (w : World) (k : RgAt w b g t h l) (hx : At w x 23 #[.pointer (some ⟨b, 0, none⟩)]) (hp : p ≤ 1000000) :
    Calls Try.prog 36 #[.int .i64 p, .pointer (some ⟨x, 0, none⟩)] w fun e w' => e = .returned (.bool (stOf l p == 0)) ∧ Only (fun _ => False) w w' := by
  have c0 := hx.cell 0
  simp at c0
  have HAt := Lib.hid (at_any b g t h l p w k hp)
  have HK := Lib.hid k
  clear k hx
  go_enter Try.func36, Try.ntmps36
  go_wp2_with (fail)
  refine HAt.out.mono ?_
  rintro e w1 ⟨rfl, hO⟩
  have c5 := (HK.out.quiet hO).stc p
  have HO := Lib.hid hO
  clear hO
  go_wp2
  go_ret
  exact ⟨rfl, HO.out⟩

set_option maxHeartbeats 1000000 in
theorem waits_any (b g t h x : Nat) (l : List RC) (p : Nat) (w : World) (k : RgAt w b g t h l) (hx : At w x 23 #[.pointer (some ⟨b, 0, none⟩)]) (hp : p ≤ 1000000) :
    Calls Try.prog 32 #[.int .i64 p, .pointer (some ⟨x, 0, none⟩)] w fun e w' => e = .returned (.bool (stOf l p == 0)) ∧ Only (fun _ => False) w w' := by
  have c0 := hx.cell 0
  simp at c0
  have HAt := Lib.hid (at_any b g t h l p w k hp)
  have HK := Lib.hid k
  clear k hx
  go_enter Try.func32, Try.ntmps32
  go_wp2_with (fail)
  refine HAt.out.mono ?_
  rintro e w1 ⟨rfl, hO⟩
  have c5 := (HK.out.quiet hO).stc p
  have HO := Lib.hid hO
  clear hO
  go_wp2
  go_ret
  exact ⟨rfl, HO.out⟩

set_option maxHeartbeats 1000000 in
theorem as_any (b g t h x : Nat) (l : List RC) (p : Nat) (w : World) (k : RgAt w b g t h l) (hx : At w x 23 #[.pointer (some ⟨b, 0, none⟩)]) (hp : p ≤ 1000000) :
    Calls Try.prog 37 #[.int .i64 p, .pointer (some ⟨x, 0, none⟩)] w fun e w' => e = .returned (.int .i64 p) ∧ RgAt w' b g t h (setSt l p 1) ∧ Only (fun i => i = g) w w' := by
  have c0 := hx.cell 0
  simp at c0
  have HAt := Lib.hid (at_any b g t h l p w k hp)
  have HK := Lib.hid k
  clear k hx
  go_enter Try.func37, Try.ntmps37
  go_wp2_with (fail)
  refine HAt.out.mono ?_
  rintro e w1 ⟨rfl, hO⟩
  have hk1 := HK.out.quiet hO
  have c5 := hk1.stc p
  have f5 := hk1.fr (p % l.length * 6 + 5)
  have HKs := Lib.hid (hk1.setSt p 1)
  have HO := Lib.hid (Only.setCell (S := fun i => i = g) (p := ⟨g, p % l.length * 6 + 5, none⟩) (hO.mono (fun _ _ e => e.elim)) (fun _ => rfl) (.int .i64 1))
  clear hO hk1
  go_wp2
  go_ret
  exact ⟨rfl, HKs.out, HO.out⟩

set_option maxHeartbeats 1000000 in
theorem id_any (p : Int) (w : World) : Calls Try.prog 34 #[.int .i64 p] w fun e w' => e = .returned (.int .i64 p) ∧ w' = w := by
  go_enter Try.func34, Try.ntmps34
  go_wp2
  go_ret
  exact ⟨rfl, rfl⟩

/-- What Take does: of what waits from p on so many, at most, go out. -/
def tk (l : List RC) (p h m : Nat) : List RC × List Int :=
  if p < h ∧ 0 < m then (if stOf l p = 0 then ((tk (setSt l p 1) (p + 1) h (m - 1)).1, (p : Int) :: (tk (setSt l p 1) (p + 1) h (m - 1)).2) else tk l (p + 1) h m) else (l, [])
termination_by h - p
theorem tk_take (l : List RC) (p h m : Nat) (h1 : p < h) (h2 : 0 < m) (h3 : stOf l p = 0) : tk l p h m = ((tk (setSt l p 1) (p + 1) h (m - 1)).1, (p : Int) :: (tk (setSt l p 1) (p + 1) h (m - 1)).2) := by
  rw [tk, if_pos ⟨h1, h2⟩, if_pos h3]
theorem tk_skip (l : List RC) (p h m : Nat) (h1 : p < h) (h2 : 0 < m) (h3 : stOf l p ≠ 0) : tk l p h m = tk l (p + 1) h m := by
  rw [tk, if_pos ⟨h1, h2⟩, if_neg h3]
theorem tk_end (l : List RC) (p h m : Nat) (h1 : ¬ (p < h ∧ 0 < m)) : tk l p h m = (l, []) := by rw [tk, if_neg h1]

/-- How many wait from p on. -/
def waitN (l : List RC) (p h : Nat) : Nat := if p < h then (if stOf l p = 0 then 1 else 0) + waitN l (p + 1) h else 0
termination_by h - p
theorem waitN_go (l : List RC) (p h : Nat) (h1 : p < h) : waitN l p h = (if stOf l p = 0 then 1 else 0) + waitN l (p + 1) h := by rw [waitN, if_pos h1]
theorem waitN_end (l : List RC) (p h : Nat) (h1 : ¬ p < h) : waitN l p h = 0 := by rw [waitN, if_neg h1]

def PickPost (b g t h : Nat) (l' : List RC) (out : List Int) (w : World) (e : Ending) (w' : World) : Prop :=
  ∃ A c gO, e = .returned (.slice A out.length c) ∧ RowAt w' A out.length c gO 3 1 (iv out) ∧ (A ≠ none → w.heap.size ≤ gO) ∧ RgAt w' b g t h l' ∧ Only (fun i => i = g) w w'

set_option maxRecDepth 100000 in
set_option maxHeartbeats 4000000 in
theorem pickT (b g t h x : Nat) (l : List RC) (n : Int) (w : World) (k : RgAt w b g t h l) (hx : At w x 23 #[.pointer (some ⟨b, 0, none⟩)]) :
    Calls Try.prog 31 #[.int .i64 t, .int .i64 h, .int .i64 n, .func (.func 36) #[] #[.pointer (some ⟨x, 0, none⟩)], .func (.func 37) #[] #[.pointer (some ⟨x, 0, none⟩)]] w
      (PickPost b g t h (tk l t h n.toNat).1 (tk l t h n.toNat).2 w) := by
  obtain ⟨i0, hi⟩ : ∃ i, Try.prog.info? 3 = some i := ⟨_, rfl⟩
  have hz0 : i0.zero = some (.int .i64 0) := by cases hi; rfl
  have hz1 : i0.size = 1 := by cases hi; rfl
  have hz2 : i0.bytes = 8 := by cases hi; rfl
  have HI := Lib.hid (And.intro hi (And.intro hz0 (And.intro hz1 hz2)))
  clear hi hz0 hz1 hz2
  have hpos := k.pos
  have HK0 := Lib.hid k
  have HX0 := Lib.hid hx
  have hgx : g ≠ x := fun e => by have := k.row.ne hx (by decide); exact this e
  have hxlt := hx.lt
  have hlt := k.lts
  clear k hx
  go_enter Try.func31, Try.ntmps31
  go_wp2_with (fail)
  go_loopw [11, 12] (fun v11 v12 wr => ∃ (p : Nat) (l1 : List RC) (out : List Int) (A : Option Addr) (c gO : Nat), t ≤ p ∧ p ≤ h ∧ v12 = .int .i64 p ∧ v11 = .slice A out.length c ∧ out.length ≤ p - t ∧
      (tk l t h n.toNat).1 = (tk l1 p h (n.toNat - out.length)).1 ∧ (tk l t h n.toNat).2 = out ++ (tk l1 p h (n.toNat - out.length)).2 ∧
      RowAt wr A out.length c gO 3 1 (iv out) ∧ (A ≠ none → w.heap.size ≤ gO) ∧ RgAt wr b g t h l1 ∧ Only (fun i => i = g) w wr) (fun v11 v12 wr => (h - intOf v12).toNat)
  case atStart => exact ⟨t, l, [], none, 0, 0, by omega, by omega, rfl, rfl, by simp, by simp, by simp, .inl ⟨rfl, rfl, rfl, rfl⟩, fun h => absurd rfl h, HK0.out, Only.refl _ _⟩
  case round =>
    obtain ⟨p, l1, out, A, c, gO, hp1, hp2, rfl, rfl, hol, ht1, ht2, hrow, hgO, hk, hO⟩ := hrel
    have HT1 := Lib.hid ht1
    have HT2 := Lib.hid ht2
    have HROW := Lib.hid hrow
    have HGO := Lib.hid hgO
    have HK := Lib.hid hk
    have HO := Lib.hid hO
    have HX := Lib.hid (HX0.out.only hO (fun e => hgx e.symm))
    clear ht1 ht2 hrow hgO hk hO
    by_cases hph : p < h
    · have i1 : (p : Int) < h := by omega
      by_cases hon : (out.length : Int) < n
      · have HW := Lib.hid (want_any b g t h x l1 p wr HK.out HX.out (by omega))
        by_cases hst : stOf l1 p = 0
        · have e0 : (stOf l1 p == 0) = true := by simp [hst]
          rw [e0] at HW
          have HTK := Lib.hid (tk_take l1 p h (n.toNat - out.length) hph (by omega) hst)
          clear e0 hst
          go_wp2_with (fail)
          refine HW.out.mono ?_
          rintro e w1 ⟨rfl, hO1⟩
          have HAs := Lib.hid (as_any b g t h x l1 p w1 (HK.out.quiet hO1) (HX.out.only hO1 id) (by omega))
          have HO1 := Lib.hid hO1
          have HROW1 := Lib.hid (HROW.out.only hO1 (fun _ => id))
          clear hO1 HW
          go_wp2_with (fail)
          refine HAs.out.mono ?_
          rintro e w2 ⟨rfl, hk2, hO2⟩
          have hgg : A ≠ none → gO ≠ g := fun hA => HROW1.out.neAt (HK.out.quiet HO1.out).row hA (by decide)
          have HROW2 := Lib.hid ((HROW1.out.only hO2 hgg).only ((Only.refl (fun _ => False) w2).alloc (.cells #[.int .i64 p] 3)) (fun _ => id))
          have HK2 := Lib.hid (hk2.quiet ((Only.refl _ _).alloc (.cells #[.int .i64 p] 3)))
          have HN2 := Lib.hid (At.new w2 3 #[.int .i64 (p : Int)])
          have HO2 := Lib.hid (((HO.out.trans (HO1.out.mono (fun _ _ e => e.elim))).trans hO2).alloc (.cells #[.int .i64 p] 3))
          have hgO2 := HO2.out.size
          clear hk2 hO2 HAs
          go_wp2_with (at_builtin; go_loud (refine wpList_append_row _ rfl (.tmp 28) (.tmp 32) 32 rfl 3 i0 (.int .i64 0) 1 8 Try.underlying32 HI.out.1 HI.out.2.1 HI.out.2.2.1 HI.out.2.2.2 rfl (by decide) A out.length c gO (iv out) rfl HROW2.out ⟨w2.heap.size, 0, none⟩ [.int .i64 p] 1 rfl rfl (fun j u hj => HN2.out.reads j u hj) (by simp [Value.oneCell']) (by unfold maxLen; omega) (by omega) ?_); intro A3 c3 g3 w3 hrow3 hO3 hA3; have HROW3 := Lib.hid hrow3; have HO3 := Lib.hid hO3; have HA3 := Lib.hid hA3; clear hrow3 hO3 hA3)
          go_roundw
          case rel =>
            have hz : A ≠ none → w.heap.size ≤ gO := HGO.out
            have hrt : A ≠ none → ∀ i, (i = b ∨ i = g ∨ RgP (setSt l1 p 1) i) → i ≠ gO := by
              intro hA i hi
              rcases hi with rfl | rfl | hi
              · exact fun e => (HROW2.out.neAt HK2.out.st hA (by decide)) e.symm
              · exact fun e => (HROW2.out.neAt HK2.out.row hA (by decide)) e.symm
              · obtain ⟨cs, hc⟩ := HK2.out.tyP hi
                exact fun e => (HROW2.out.neAt hc hA (by decide)) e.symm
            refine ⟨p + 1, setSt l1 p 1, out ++ [(p : Int)], A3, c3, g3, by omega, by omega, by simp, by simp, by simp; omega, ?_, ?_, ?_, ?_, HK2.out.only HO3.out (fun e => hrt e.1 b (.inl rfl) e.2) (fun e => hrt e.1 g (.inr (.inl rfl)) e.2) (fun i hi e => hrt e.1 i (.inr (.inr hi)) e.2), ?_⟩
            · have e : n.toNat - (out ++ [(p : Int)]).length = n.toNat - out.length - 1 := by simp; omega
              rw [e, HT1.out, HTK.out]
            · have e : n.toNat - (out ++ [(p : Int)]).length = n.toNat - out.length - 1 := by simp; omega
              rw [e, HT2.out, HTK.out]; simp
            · have := HROW3.out
              simpa [iv] using this
            · intro _
              rcases HA3.out.2 with ⟨q1, q2⟩ | q2
              · rw [q2]; exact hz q1
              · exact Nat.le_trans hgO2 q2
            · exact HO2.out.trans' HO3.out (fun i hi e => by have := hz e.1; omega)
          case measure => simp [intOf]; omega
        · have e0 : (stOf l1 p == 0) = false := beq_false_of_ne hst
          rw [e0] at HW
          have HTK := Lib.hid (tk_skip l1 p h (n.toNat - out.length) hph (by omega) hst)
          clear e0 hst
          go_wp2_with (fail)
          refine HW.out.mono ?_
          rintro e w1 ⟨rfl, hO1⟩
          have HO1 := Lib.hid hO1
          clear hO1 HW
          go_wp2
          go_roundw
          case rel => exact ⟨p + 1, l1, out, A, c, gO, by omega, by omega, by simp, rfl, by omega, by rw [HT1.out, HTK.out], by rw [HT2.out, HTK.out], HROW.out.only HO1.out (fun _ => id), HGO.out, HK.out.quiet HO1.out, HO.out.trans (HO1.out.mono (fun _ _ e => e.elim))⟩
          case measure => simp [intOf]; omega
      · have d1 : decide ((out.length : Int) < n) = false := by simp; omega
        have he := tk_end l1 p h (n.toNat - out.length) (by omega)
        have HE := Lib.hid he
        clear he
        go_wp2
        go_ret
        have e2 := HT2.out
        rw [HE.out, List.append_nil] at e2
        have e1 := HT1.out
        rw [HE.out] at e1
        rw [e1, e2]
        exact ⟨A, c, gO, rfl, HROW.out, HGO.out, HK.out, HO.out⟩
    · have d1 : decide ((p : Int) < h) = false := by simp; omega
      have he := tk_end l1 p h (n.toNat - out.length) (by omega)
      have HE := Lib.hid he
      clear he
      go_wp2
      go_ret
      have e2 := HT2.out
      rw [HE.out, List.append_nil] at e2
      have e1 := HT1.out
      rw [HE.out] at e1
      rw [e1, e2]
      exact ⟨A, c, gO, rfl, HROW.out, HGO.out, HK.out, HO.out⟩

end Go.Proofs.Ytookghkfghdadaa
