/- Sched: the closure's contract, patientless's contract. -/
import Derived.Test.YtcbgobgicknhiaaA
import Derived.Deep.QuietTactic
import Derived.BigQuiet
namespace Go.Proofs.Ytcbgobgicknhiaa
open Go.RowKit

/-- Has i waited longer than the best so far? -/
def longer (ws : List Int) (best : Int) (i : Nat) : Bool := decide (best < 0) || decide (ws.getD best.toNat 0 < ws.getD i 0)

set_option maxHeartbeats 1000000 in
theorem longer_any (b g B2 B5 : Nat) (ws : List Int) (pat best : Int) (i : Nat) (w : World) (h : SAt w b g 47 ws pat) (h2 : w.cell? ⟨B2, 0, none⟩ = some (.pointer (some ⟨b, 0, none⟩))) (h5 : w.cell? ⟨B5, 0, none⟩ = some (.int .i64 best))
    (hi : i < ws.length) (hb : best < ws.length) :
    Calls Try.prog 17 #[.int .i64 i, .pointer (some ⟨B5, 0, none⟩), .pointer (some ⟨B2, 0, none⟩)] w fun e w' => e = .returned (.bool (longer ws best i)) ∧ ∃ n, w' = w.drewN n := by
  have h0 := h.st.cell 0
  simp at h0
  by_cases hn : best < 0
  · have hl : longer ws best i = true := by simp [longer, hn]
    rw [hl]
    have hd : decide (best < 0) = true := by simpa using hn
    clear hl hn
    go_enter Try.func17, Try.ntmps17
    go_wp2
    go_quiet (fail)
    go_wp2
    go_ret
    exact ⟨rfl, _, rfl⟩
  · obtain ⟨k, rfl⟩ := Int.eq_ofNat_of_zero_le (show 0 ≤ best by omega)
    have hk : k < ws.length := by omega
    have hl : longer ws k i = decide (ws[k] < ws[i]) := by
      have h0' : decide ((k : Int) < 0) = false := by simp
      simp only [longer, h0', Int.toNat_natCast, List.getD, List.getElem?_eq_getElem hk, List.getElem?_eq_getElem hi, Option.getD_some, Bool.false_or]
    have c1 := waits_at h.row hk
    have c2 := waits_at h.row hi
    rw [hl]
    clear hl
    generalize ws[k] = x at *
    generalize ws[i] = y at *
    have hd : decide ((k : Int) < 0) = false := by simp
    have i1 : (0 : Int) ≤ (k : Int) := by omega
    have i2 : (k : Int) < (ws.length : Int) := by omega
    have j1 : (0 : Int) ≤ (i : Int) := by omega
    have j2 : (i : Int) < (ws.length : Int) := by omega
    clear hn
    go_enter Try.func17, Try.ntmps17
    go_wp2
    go_quiet (fail)
    go_wp2
    go_ret
    exact ⟨ret_b (by simp), _, rfl⟩

/-- Who has waited too long, of the first k; -1: nobody. -/
def plTo (ws : List Int) (rd : List Bool) (pat : Int) : Nat → Int
  | 0 => -1
  | k + 1 => if rd.getD k false = true ∧ pat ≤ ws.getD k 0 ∧ longer ws (plTo ws rd pat k) k = true then (k : Int) else plTo ws rd pat k

theorem plTo_bd (ws : List Int) (rd : List Bool) (pat : Int) (k : Nat) : -1 ≤ plTo ws rd pat k ∧ plTo ws rd pat k < k := by
  induction k with
  | zero => simp [plTo]
  | succ k ih => unfold plTo; split <;> omega

abbrev bl (l : List Bool) : List Value := l.map Value.bool

def PlPost (ws : List Int) (rd : List Bool) (pat : Int) (w : World) (e : Ending) (w' : World) : Prop :=
  e = .returned (.int .i64 (plTo ws rd pat rd.length)) ∧ Only (fun _ => False) w w'

structure PlInv (w : World) (B2 B5 b g : Nat) (ws : List Int) (pat best : Int) (wr : World) : Prop where
  s : At wr B2 23 #[.pointer (some ⟨b, 0, none⟩)]
  best : At wr B5 3 #[.int .i64 best]
  at_ : SAt wr b g 47 ws pat
  only : Only (fun i => w.heap.size ≤ i) w wr

theorem PlInv.drewN {w : World} {B2 B5 b g : Nat} {ws : List Int} {pat best : Int} {wr : World} (h : PlInv w B2 B5 b g ws pat best wr) (n : Nat) : PlInv w B2 B5 b g ws pat best (wr.drewN n) :=
  ⟨h.s.drewN n, h.best.drewN n, h.at_.only ((Only.refl (fun _ => False) _).drewN n) id id, h.only.drewN n⟩
theorem PlInv.store {w : World} {B2 B5 b g : Nat} {ws : List Int} {pat best : Int} {wr : World} (h : PlInv w B2 B5 b g ws pat best wr) (h1 : B2 ≠ B5) (h2 : b ≠ B5) (h3 : g ≠ B5) (h4 : w.heap.size ≤ B5) (z : Int) : PlInv w B2 B5 b g ws pat z (wr.setCell ⟨B5, 0, none⟩ (.int .i64 z)) := by
  have q := h.best.set 0 (.int .i64 z)
  exact ⟨h.s.far h1 _, by simpa using q, ⟨h.at_.st.far h2 _, h.at_.row.far h3 _⟩, h.only.setCell (fun hp => h4) _⟩
theorem Only.fresh {w w' : World} (h : Only (fun i => w.heap.size ≤ i) w w') (S : Nat → Prop) : Only S w w' := h.mono fun i hi h => by omega

theorem pl_step_yes {ws : List Int} {rd : List Bool} {pat : Int} {k : Nat} (h1 : rd.getD k false = true) (h2 : pat ≤ ws.getD k 0) (h3 : longer ws (plTo ws rd pat k) k = true) : plTo ws rd pat (k + 1) = (k : Int) := by
  simp only [plTo]; rw [if_pos ⟨h1, h2, h3⟩]
theorem pl_step_no {ws : List Int} {rd : List Bool} {pat : Int} {k : Nat} (h : rd.getD k false = false ∨ ¬ pat ≤ ws.getD k 0 ∨ longer ws (plTo ws rd pat k) k = false) : plTo ws rd pat (k + 1) = plTo ws rd pat k := by
  simp only [plTo]; rw [if_neg]; rintro ⟨h1, h2, h3⟩; rcases h with h | h | h
  · rw [h1] at h; cases h
  · exact h h2
  · rw [h3] at h; cases h

set_option maxRecDepth 100000 in
set_option maxHeartbeats 2000000 in
theorem pl_walk (b g gr off c : Nat) (ws : List Int) (rd : List Bool) (pat : Int) (w : World) (h : SAt w b g 47 ws pat) (hl : rd.length = ws.length) (hlen : ws.length ≤ 1000)
    (hgr : gr < w.heap.size) (hrd : ∀ (j : Nat) (u : Value), (bl rd)[j]? = some u → w.cell? ⟨gr, off + j, none⟩ = some u) :
    Calls Try.prog 16 #[.pointer (some ⟨b, 0, none⟩), .slice (some ⟨gr, off, none⟩) rd.length c] w (PlPost ws rd pat w) := by
  have HRd := Lib.hid hrd
  have HS := Lib.hid h
  have HL := Lib.hid hl
  clear hrd h hl
  go_enter Try.func16, Try.ntmps16
  go_wp2
  have hI : PlInv w w.heap.size (w.heap.size + 1) b g ws pat (plTo ws rd pat 0) ((w.alloc (.cells #[.pointer (some ⟨b, 0, none⟩)] 23)).alloc (.cells #[.int .i64 (-1)] 3)) := by
    have q1 := (At.new w 23 #[.pointer (some ⟨b, 0, none⟩)]).alloc (.cells #[.int .i64 (-1)] 3)
    have q2 := At.new (w.alloc (.cells #[.pointer (some ⟨b, 0, none⟩)] 23)) 3 #[.int .i64 (-1)]
    have q3 : Only (fun i => w.heap.size ≤ i) w ((w.alloc (.cells #[.pointer (some ⟨b, 0, none⟩)] 23)).alloc (.cells #[.int .i64 (-1)] 3)) := ((Only.refl _ _).alloc _).alloc _
    have l1 := HS.out.st.lt
    have l2 := HS.out.row.lt
    exact ⟨q1, by simpa [plTo] using q2, HS.out.only q3 (by omega) (by omega), q3⟩
  have l1 := HS.out.st.lt
  have l2 := HS.out.row.lt
  obtain ⟨B2, hB2⟩ : ∃ B2, B2 = w.heap.size := ⟨_, rfl⟩
  obtain ⟨W0, hW0⟩ : ∃ W0, W0 = (w.alloc (.cells #[.pointer (some ⟨b, 0, none⟩)] 23)).alloc (.cells #[.int .i64 (-1)] 3) := ⟨_, rfl⟩
  have HQ : Hid (w.heap.size ≤ B2 ∧ b < B2 ∧ g < B2) := ⟨by omega, by omega, by omega⟩
  rw [← hW0, ← hB2] at hI ⊢
  have HI := Lib.hid hI
  clear hI hW0 hB2 l1 l2 HS
  go_loopw [12] (fun v wr => ∃ k : Nat, k ≤ rd.length ∧ v = .int .i64 k ∧ PlInv w B2 (B2 + 1) b g ws pat (plTo ws rd pat k) wr) (fun v _ => rd.length - (intOf v).toNat)
  case atStart => exact ⟨0, by omega, rfl, HI.out⟩
  case round =>
    clear HI
    obtain ⟨k, hk, rfl, hI⟩ := hrel
    by_cases h1 : k < rd.length
    · have hkw : k < ws.length := by have := HL.out; omega
      have hlr := HL.out
      have c0 : wr.cell? ⟨gr, off + k, none⟩ = some (.bool rd[k]) := (hI.only.cell (p := ⟨gr, off + k, none⟩) hgr (by simpa using hgr)).trans (HRd.out k _ (by simp [h1]))
      have c1 := hI.s.cell 0
      have c2 := hI.best.cell 0
      have c3 := hI.at_.st.cell 0
      have c4 := hI.at_.st.cell 1
      have c5 := waits_at hI.at_.row hkw
      have f2 := hI.best.frozen 0
      simp at c1 c2 c3 c4
      have hbd := plTo_bd ws rd pat k
      have HI := Lib.hid hI
      have j1 : (0 : Int) ≤ (k : Int) := by omega
      have j2 : (k : Int) < (ws.length : Int) := by omega
      have hcall : Hid (∀ n, Calls Try.prog 17 #[.int .i64 k, .pointer (some ⟨B2 + 1, 0, none⟩), .pointer (some ⟨B2, 0, none⟩)] (wr.drewN n) fun e w' => e = .returned (.bool (longer ws (plTo ws rd pat k) k)) ∧ ∃ m, w' = (wr.drewN n).drewN m) := fun n =>
        longer_any b g B2 (B2 + 1) ws pat _ k (wr.drewN n) (HI.out.at_.only ((Only.refl (fun _ => False) _).drewN n) id id) c1 c2 hkw (by omega)
      clear hI hlr
      by_cases hr : rd[k] = true
      · by_cases hp : pat ≤ ws[k]
        · by_cases hlg : longer ws (plTo ws rd pat k) k = true
          · have Hs : Hid (plTo ws rd pat (k + 1) = (k : Int)) := pl_step_yes (by simp [List.getD, h1, hr]) (by simpa [List.getD, hkw] using hp) hlg
            rw [hr] at c0
            rw [hlg] at hcall
            clear hr hlg
            generalize ws[k] = z at *
            generalize plTo ws rd pat k = best at *
            have hd : decide (pat ≤ z) = true := by simpa using hp
            go_wp2_with (fail)
            go_quiet ((go_at_call 17; exact Calls.quiet_of (hcall.out _)))
            go_wp2
            go_roundw
            case rel =>
              refine ⟨k + 1, by omega, by simp, ?_⟩
              rw [Hs.out]
              exact (HI.out.drewN _).store (by have := HQ.out; omega) (by have := HQ.out; omega) (by have := HQ.out; omega) (by have := HQ.out; omega) _
            case measure => simp [intOf]; omega
          · have Hs : Hid (plTo ws rd pat (k + 1) = plTo ws rd pat k) := pl_step_no (.inr (.inr (by simpa using hlg)))
            rw [hr] at c0
            have hlg' : longer ws (plTo ws rd pat k) k = false := by simpa using hlg
            rw [hlg'] at hcall
            clear hr hlg hlg'
            generalize ws[k] = z at *
            generalize plTo ws rd pat k = best at *
            have hd : decide (pat ≤ z) = true := by simpa using hp
            go_wp2_with (fail)
            go_quiet ((go_at_call 17; exact Calls.quiet_of (hcall.out _)))
            go_wp2
            go_roundw
            case rel =>
              refine ⟨k + 1, by omega, by simp, ?_⟩
              rw [Hs.out]
              exact HI.out.drewN _
            case measure => simp [intOf]; omega
        · have Hs : Hid (plTo ws rd pat (k + 1) = plTo ws rd pat k) := pl_step_no (.inr (.inl (by simpa [List.getD, hkw] using hp)))
          rw [hr] at c0
          clear hr hcall
          generalize ws[k] = z at *
          generalize plTo ws rd pat k = best at *
          have hd : decide (pat ≤ z) = false := by simpa using hp
          go_wp2_with (fail)
          go_quiet (fail)
          go_wp2
          go_roundw
          case rel =>
            refine ⟨k + 1, by omega, by simp, ?_⟩
            rw [Hs.out]
            exact HI.out.drewN _
          case measure => simp [intOf]; omega
      · have Hs : Hid (plTo ws rd pat (k + 1) = plTo ws rd pat k) := pl_step_no (.inl (by simpa [List.getD, h1] using hr))
        have hr' : rd[k] = false := by simpa using hr
        rw [hr'] at c0
        clear hr hr' hcall
        generalize ws[k] = z at *
        generalize plTo ws rd pat k = best at *
        go_wp2_with (fail)
        go_quiet (fail)
        go_wp2
        go_roundw
        case rel =>
          refine ⟨k + 1, by omega, by simp, ?_⟩
          rw [Hs.out]
          exact HI.out.drewN _
        case measure => simp [intOf]; omega
    · obtain rfl : k = rd.length := by omega
      have c2 := hI.best.cell 0
      simp at c2
      have HI := Lib.hid hI
      clear hI
      generalize hbest : plTo ws rd pat rd.length = best at *
      go_wp2
      go_ret
      exact ⟨ret_i hbest.symm, HI.out.only.fresh _⟩

end Go.Proofs.Ytcbgobgicknhiaa
