/- Top: find, Use of the lines. -/
import Derived.Test.YtjobaplioidogaaGreatD
namespace Go.Proofs.YtjobaplioidogaaGreat
open Go.RowKit
def Ln.zero : Ln := ⟨0, 0, 0⟩
def at' (l : List Ln) (n : Int) : Ln := l.getD n.toNat Ln.zero
theorem at'_nat {l : List Ln} {i : Nat} (h : i < l.length) : at' l (i : Int) = l[i] := by simp [at', List.getD, h]
def findE (l : List Ln) (n st : Int) : Int := if n < 0 ∨ (l.length : Int) ≤ n then 2 else if (at' l n).s = st then 0 else 13
def upd (l : List Ln) (n : Int) (f : Ln → Ln) : List Ln := l.set n.toNat (f (at' l n))
theorem upd_nat {l : List Ln} {i : Nat} (h : i < l.length) (f : Ln → Ln) : upd l (i : Int) f = l.set i (f l[i]) := by simp [upd, at'_nat h]
theorem upd_len (l : List Ln) (n : Int) (f : Ln → Ln) : (upd l n f).length = l.length := by simp [upd]
theorem findE_zero {l : List Ln} {n st : Int} (h : findE l n st = 0) : ∃ (i : Nat) (hi : i < l.length), n = i ∧ (l[i]).s = st := by
  unfold findE at h
  split at h
  · cases h
  · split at h
    · rename_i h1 h2
      have h0 : n.toNat < l.length := by omega
      refine ⟨n.toNat, h0, by omega, ?_⟩
      simpa [at', List.getD, h0] using h2
    · cases h

set_option maxHeartbeats 1000000 in
theorem find_ok (b off c gb : Nat) (G : Ge) (l : List Ln) (op : Int) (i : Nat) (hi : i < l.length) (w : World) (k : LAt w b G l off c gb op) :
    Calls Tryz.prog 113 #[.pointer (some ⟨b, 0, none⟩), .int .i64 i, .int .i64 (l[i]).s] w fun e w' => e = .returned (.tuple #[.pointer (some ⟨gb, off + i * 8, none⟩), .int .i64 0]) ∧ w' = w := by
  have c0 := k.st.cell 0
  simp at c0
  have e0 := (k.ln hi).c0
  have i0 : (0 : Int) ≤ i := by omega
  have i1 : (i : Int) < l.length := by omega
  have i2 : ¬ (i : Int) < 0 := by omega
  have i3 : ¬ (l.length : Int) ≤ i := by omega
  have i4 : decide (l.length ≤ i) = false := by simp; omega
  clear k
  generalize (l[i]).s = st at *
  have ts : (st != st) = false := by simp
  go_enter Tryz.func113, Tryz.ntmps113
  go_wp2
  go_ret2
  exact ⟨rfl, rfl⟩
set_option maxHeartbeats 2000000 in
theorem find_no (b off c gb : Nat) (G : Ge) (l : List Ln) (op n st : Int) (hE : findE l n st ≠ 0) (w : World) (k : LAt w b G l off c gb op) :
    Calls Tryz.prog 113 #[.pointer (some ⟨b, 0, none⟩), .int .i64 n, .int .i64 st] w fun e w' => e = .returned (.tuple #[.pointer none, .int .i64 (findE l n st)]) ∧ w' = w := by
  have c0 := k.st.cell 0
  simp at c0
  by_cases hn : n < 0
  · have HE : Hid (findE l n st = 2) := Lib.hid (by unfold findE; rw [if_pos (.inl hn)])
    clear k hE
    go_enter Tryz.func113, Tryz.ntmps113
    go_wp2
    go_ret2
    exact ⟨by rw [HE.out]; rfl, rfl⟩
  by_cases hn2 : (l.length : Int) ≤ n
  · have HE : Hid (findE l n st = 2) := Lib.hid (by unfold findE; rw [if_pos (.inr hn2)])
    clear k hE
    go_enter Tryz.func113, Tryz.ntmps113
    go_wp2
    go_ret2
    exact ⟨by rw [HE.out]; rfl, rfl⟩
  obtain ⟨i, rfl⟩ : ∃ i : Nat, n = i := ⟨n.toNat, by omega⟩
  have hi : i < l.length := by omega
  have e0 := (k.ln hi).c0
  have HE : Hid (findE l i st = 13) := Lib.hid (by
    unfold findE at hE ⊢
    rw [if_neg (by omega)] at hE ⊢
    split at hE
    · exact absurd rfl hE
    · rename_i h; rw [if_neg h])
  have hs : (l[i]).s ≠ st := fun h => hE (by unfold findE; rw [if_neg (by omega), at'_nat hi, if_pos h])
  have i0 : (0 : Int) ≤ i := by omega
  have i1 : (i : Int) < l.length := by omega
  have i4 : decide (l.length ≤ i) = false := by simp; omega
  clear k hE hn
  generalize (l[i]).s = s0 at *
  have ts : (s0 != st) = true := by simp [hs]
  clear hs
  go_enter Tryz.func113, Tryz.ntmps113
  go_wp2
  go_ret2
  exact ⟨by rw [HE.out]; rfl, rfl⟩

def useM (l : List Ln) (n : Int) : List Ln := if findE l n 0 = 0 then upd l n (fun x => { x with s := 2 }) else l
def relM (l : List Ln) (n : Int) : List Ln := if findE l n 2 = 0 then upd l n (fun x => { x with s := un x.g }) else l
def erM (l : List Ln) (n : Int) : List Ln := if findE l n 1 = 0 then upd l n (fun x => { x with w := min (x.w + 1) 2147483647 }) else l

set_option maxHeartbeats 2000000 in
theorem use_any (b off c gb : Nat) (G : Ge) (l : List Ln) (op n : Int) (w : World) (k : LAt w b G l off c gb op) :
    Calls Tryz.prog 59 #[.pointer (some ⟨b, 0, none⟩), .int .i64 n] w fun e w' => e = .returned (.int .i64 (findE l n 0)) ∧ LAt w' b G (useM l n) off c gb op ∧ Only (fun i => i = gb) w w' := by
  by_cases hE : findE l n 0 = 0
  · have HM : Hid (useM l n = upd l n (fun x => { x with s := 2 })) := Lib.hid (by unfold useM; rw [if_pos hE])
    obtain ⟨i, hi, rfl, hs⟩ := findE_zero hE
    have HF := Lib.hid (find_ok b off c gb G l op i hi w k)
    rw [hs] at HF
    have HE := Lib.hid hE
    have e0 := (k.ln hi).c0
    have f0 := k.fr (off + i * 8)
    have HK := Lib.hid (k.setS hi 2)
    have HU : Hid (useM l i = l.set i { l[i] with s := 2 }) := Lib.hid (by rw [HM.out, upd_nat hi])
    clear k hE hs HM
    go_enter Tryz.func59, Tryz.ntmps59
    go_wp2_with (fail)
    refine HF.out.mono ?_
    rintro e w1 ⟨rfl, rfl⟩
    go_wp2
    go_ret
    exact ⟨by rw [HE.out]; rfl, by rw [HU.out]; exact HK.out, (Only.refl (fun j => j = gb) _).setCell (p := ⟨gb, off + i * 8, none⟩) (fun _ => rfl) _⟩
  · have HM : Hid (useM l n = l) := Lib.hid (by unfold useM; rw [if_neg hE])
    have HF := Lib.hid (find_no b off c gb G l op n 0 hE w k)
    have HK := Lib.hid k
    have te : (findE l n 0 == 0) = false := beq_false_of_ne hE
    generalize findE l n 0 = E at *
    clear k hE
    go_enter Tryz.func59, Tryz.ntmps59
    go_wp2_with (fail)
    refine HF.out.mono ?_
    rintro e w1 ⟨rfl, rfl⟩
    go_wp2
    go_ret
    exact ⟨rfl, by rw [HM.out]; exact HK.out, Only.refl _ _⟩


end Go.Proofs.YtjobaplioidogaaGreat
