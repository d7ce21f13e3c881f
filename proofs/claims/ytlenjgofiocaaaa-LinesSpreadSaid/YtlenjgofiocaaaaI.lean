/- Lines: find, Use, Release, Erased, Close. -/
import Derived.Test.YtlenjgofiocaaaaH
namespace Go.Proofs.Ytlenjgofiocaaaa
open Go.RowKit

def Ln.zero : Ln := ⟨0, 0, 0⟩
def at' (l : List Ln) (n : Int) : Ln := l.getD n.toNat Ln.zero
theorem at'_nat {l : List Ln} {i : Nat} (h : i < l.length) : at' l (i : Int) = l[i] := by simp [at', List.getD, h]
def findE (l : List Ln) (n st : Int) : Int := if n < 0 ∨ (l.length : Int) ≤ n then 2 else if (at' l n).s = st then 0 else 13
def upd (l : List Ln) (n : Int) (f : Ln → Ln) : List Ln := l.set n.toNat (f (at' l n))
theorem upd_nat {l : List Ln} {i : Nat} (h : i < l.length) (f : Ln → Ln) : upd l (i : Int) f = l.set i (f l[i]) := by simp [upd, at'_nat h]
theorem upd_len (l : List Ln) (n : Int) (f : Ln → Ln) : (upd l n f).length = l.length := by simp [upd]
theorem findE_zero {l : List Ln} {n st : Int} (h : findE l n st = 0) : ∃ (i : Nat) (hi : i < l.length), n = i ∧ (l[i]).s = st := by
  unfold findE at h
  split at h
  · cases h
  · split at h
    · rename_i h1 h2
      have h0 : n.toNat < l.length := by omega
      refine ⟨n.toNat, h0, by omega, ?_⟩
      simpa [at', List.getD, h0] using h2
    · cases h

set_option maxHeartbeats 1000000 in
theorem find_ok (b off c gb : Nat) (G : Ge) (l : List Ln) (op : Int) (i : Nat) (hi : i < l.length) (w : World) (k : LAt w b G l off c gb op) :
    Calls Try.prog 36 #[.pointer (some ⟨b, 0, none⟩), .int .i64 i, .int .i64 (l[i]).s] w fun e w' => e = .returned (.tuple #[.pointer (some ⟨gb, off + i * 8, none⟩), .int .i64 0]) ∧ w' = w := by
  have c0 := k.st.cell 0
  simp at c0
  have e0 := (k.ln hi).c0
  have i0 : (0 : Int) ≤ i := by omega
  have i1 : (i : Int) < l.length := by omega
  have i2 : ¬ (i : Int) < 0 := by omega
  have i3 : ¬ (l.length : Int) ≤ i := by omega
  have i4 : decide (l.length ≤ i) = false := by simp; omega
  clear k
  generalize (l[i]).s = st at *
  have ts : (st != st) = false := by simp
  go_enter Try.func36, Try.ntmps36
  go_wp2
  go_ret2
  exact ⟨rfl, rfl⟩
set_option maxHeartbeats 2000000 in
theorem find_no (b off c gb : Nat) (G : Ge) (l : List Ln) (op n st : Int) (hE : findE l n st ≠ 0) (w : World) (k : LAt w b G l off c gb op) :
    Calls Try.prog 36 #[.pointer (some ⟨b, 0, none⟩), .int .i64 n, .int .i64 st] w fun e w' => e = .returned (.tuple #[.pointer none, .int .i64 (findE l n st)]) ∧ w' = w := by
  have c0 := k.st.cell 0
  simp at c0
  by_cases hn : n < 0
  · have HE : Hid (findE l n st = 2) := Lib.hid (by unfold findE; rw [if_pos (.inl hn)])
    clear k hE
    go_enter Try.func36, Try.ntmps36
    go_wp2
    go_ret2
    exact ⟨by rw [HE.out]; rfl, rfl⟩
  by_cases hn2 : (l.length : Int) ≤ n
  · have HE : Hid (findE l n st = 2) := Lib.hid (by unfold findE; rw [if_pos (.inr hn2)])
    clear k hE
    go_enter Try.func36, Try.ntmps36
    go_wp2
    go_ret2
    exact ⟨by rw [HE.out]; rfl, rfl⟩
  obtain ⟨i, rfl⟩ : ∃ i : Nat, n = i := ⟨n.toNat, by omega⟩
  have hi : i < l.length := by omega
  have e0 := (k.ln hi).c0
  have HE : Hid (findE l i st = 13) := Lib.hid (by
    unfold findE at hE ⊢
    rw [if_neg (by omega)] at hE ⊢
    split at hE
    · exact absurd rfl hE
    · rename_i h; rw [if_neg h])
  have hs : (l[i]).s ≠ st := fun h => hE (by unfold findE; rw [if_neg (by omega), at'_nat hi, if_pos h])
  have i0 : (0 : Int) ≤ i := by omega
  have i1 : (i : Int) < l.length := by omega
  have i4 : decide (l.length ≤ i) = false := by simp; omega
  clear k hE hn
  generalize (l[i]).s = s0 at *
  have ts : (s0 != st) = true := by simp [hs]
  clear hs
  go_enter Try.func36, Try.ntmps36
  go_wp2
  go_ret2
  exact ⟨by rw [HE.out]; rfl, rfl⟩

def useM (l : List Ln) (n : Int) : List Ln := if findE l n 0 = 0 then upd l n (fun x => { x with s := 2 }) else l
def relM (l : List Ln) (n : Int) : List Ln := if findE l n 2 = 0 then upd l n (fun x => { x with s := un x.g }) else l
def erM (l : List Ln) (n : Int) : List Ln := if findE l n 1 = 0 then upd l n (fun x => { x with w := min (x.w + 1) 2147483647 }) else l

set_option maxHeartbeats 2000000 in
theorem use_any (b off c gb : Nat) (G : Ge) (l : List Ln) (op n : Int) (w : World) (k : LAt w b G l off c gb op) :
    Calls Try.prog 19 #[.pointer (some ⟨b, 0, none⟩), .int .i64 n] w fun e w' => e = .returned (.int .i64 (findE l n 0)) ∧ LAt w' b G (useM l n) off c gb op ∧ Only (fun i => i = gb) w w' := by
  by_cases hE : findE l n 0 = 0
  · have HM : Hid (useM l n = upd l n (fun x => { x with s := 2 })) := Lib.hid (by unfold useM; rw [if_pos hE])
    obtain ⟨i, hi, rfl, hs⟩ := findE_zero hE
    have HF := Lib.hid (find_ok b off c gb G l op i hi w k)
    rw [hs] at HF
    have HE := Lib.hid hE
    have e0 := (k.ln hi).c0
    have f0 := k.fr (off + i * 8)
    have HK := Lib.hid (k.setS hi 2)
    have HU : Hid (useM l i = l.set i { l[i] with s := 2 }) := Lib.hid (by rw [HM.out, upd_nat hi])
    clear k hE hs HM
    go_enter Try.func19, Try.ntmps19
    go_wp2_with (fail)
    refine HF.out.mono ?_
    rintro e w1 ⟨rfl, rfl⟩
    go_wp2
    go_ret
    exact ⟨by rw [HE.out]; rfl, by rw [HU.out]; exact HK.out, (Only.refl (fun j => j = gb) _).setCell (p := ⟨gb, off + i * 8, none⟩) (fun _ => rfl) _⟩
  · have HM : Hid (useM l n = l) := Lib.hid (by unfold useM; rw [if_neg hE])
    have HF := Lib.hid (find_no b off c gb G l op n 0 hE w k)
    have HK := Lib.hid k
    have te : (findE l n 0 == 0) = false := beq_false_of_ne hE
    generalize findE l n 0 = E at *
    clear k hE
    go_enter Try.func19, Try.ntmps19
    go_wp2_with (fail)
    refine HF.out.mono ?_
    rintro e w1 ⟨rfl, rfl⟩
    go_wp2
    go_ret
    exact ⟨rfl, by rw [HM.out]; exact HK.out, Only.refl _ _⟩

set_option maxHeartbeats 2000000 in
theorem erased_any (b off c gb : Nat) (G : Ge) (l : List Ln) (hw : ∀ x ∈ l, 0 ≤ x.w ∧ x.w ≤ 2147483647) (op n : Int) (w : World) (k : LAt w b G l off c gb op) :
    Calls Try.prog 18 #[.pointer (some ⟨b, 0, none⟩), .int .i64 n] w fun e w' => e = .returned (.int .i64 (findE l n 1)) ∧ LAt w' b G (erM l n) off c gb op ∧ Only (fun i => i = gb) w w' := by
  by_cases hE : findE l n 1 = 0
  · have HM : Hid (erM l n = upd l n (fun x => { x with w := min (x.w + 1) 2147483647 })) := Lib.hid (by unfold erM; rw [if_pos hE])
    obtain ⟨i, hi, rfl, hs⟩ := findE_zero hE
    have HF := Lib.hid (find_ok b off c gb G l op i hi w k)
    rw [hs] at HF
    have HE := Lib.hid hE
    have e1 := (k.ln hi).c1
    have f0 := k.fr (off + i * 8 + 1)
    have HKK := Lib.hid (fun z => k.setW hi z)
    have hwi := hw _ (List.getElem_mem hi)
    have hw1 := hwi.1
    have hw2 := hwi.2
    have HU : Hid (erM l i = l.set i { l[i] with w := min ((l[i]).w + 1) 2147483647 }) := Lib.hid (by rw [HM.out, upd_nat hi])
    clear k hE hs HM hw hwi
    generalize hx : (l[i]).w = xw at *
    have HX := Lib.hid hx
    clear hx
    by_cases hlt : xw < 2147483647
    · have hm : min (xw + 1) 2147483647 = xw + 1 := by omega
      rw [hm] at HU
      clear hm
      go_enter Try.func18, Try.ntmps18
      go_wp2_with (fail)
      refine HF.out.mono ?_
      rintro e w1 ⟨rfl, rfl⟩
      go_wp2
      all_goals go_ret
      all_goals first
        | exact ⟨by rw [HE.out]; rfl, by rw [HU.out]; exact HKK.out _, (Only.refl (fun j => j = gb) _).setCell (p := ⟨gb, off + i * 8 + 1, none⟩) (fun _ => rfl) _⟩
        | (refine ⟨by rw [HE.out]; rfl, ?_, (Only.refl (fun j => j = gb) _).setCell (p := ⟨gb, off + i * 8 + 1, none⟩) (fun _ => rfl) _⟩; rw [HU.out, show xw + 1 = 2147483647 from by omega]; exact HKK.out _)
    · obtain rfl : xw = 2147483647 := by omega
      have hm : min ((2147483647 : Int) + 1) 2147483647 = 2147483647 := by decide
      rw [hm] at HU
      clear hm
      go_enter Try.func18, Try.ntmps18
      go_wp2_with (fail)
      refine HF.out.mono ?_
      rintro e w1 ⟨rfl, rfl⟩
      go_wp2
      go_ret
      exact ⟨by rw [HE.out]; rfl, by rw [HU.out]; exact HKK.out _, (Only.refl (fun j => j = gb) _).setCell (p := ⟨gb, off + i * 8 + 1, none⟩) (fun _ => rfl) _⟩
  · have HM : Hid (erM l n = l) := Lib.hid (by unfold erM; rw [if_neg hE])
    have HF := Lib.hid (find_no b off c gb G l op n 1 hE w k)
    have HK := Lib.hid k
    have te : (findE l n 1 == 0) = false := beq_false_of_ne hE
    generalize findE l n 1 = E at *
    clear k hE hw
    go_enter Try.func18, Try.ntmps18
    go_wp2_with (fail)
    refine HF.out.mono ?_
    rintro e w1 ⟨rfl, rfl⟩
    go_wp2
    go_ret
    exact ⟨rfl, by rw [HM.out]; exact HK.out, Only.refl _ _⟩

set_option maxHeartbeats 2000000 in
theorem release_any (b off c gb : Nat) (G : Ge) (l : List Ln) (op n : Int) (w : World) (k : LAt w b G l off c gb op) :
    Calls Try.prog 17 #[.pointer (some ⟨b, 0, none⟩), .int .i64 n] w fun e w' => e = .returned (.int .i64 (findE l n 2)) ∧ LAt w' b G (relM l n) off c gb op ∧ Only (fun i => i = gb) w w' := by
  by_cases hE : findE l n 2 = 0
  · have HM : Hid (relM l n = upd l n (fun x => { x with s := un x.g })) := Lib.hid (by unfold relM; rw [if_pos hE])
    obtain ⟨i, hi, rfl, hs⟩ := findE_zero hE
    have HF := Lib.hid (find_ok b off c gb G l op i hi w k)
    rw [hs] at HF
    have HE := Lib.hid hE
    obtain ⟨e0, e1, e2, e3, e4, e5, e6, e7⟩ := k.ln hi
    have HK := Lib.hid k
    have HC := Lib.hid (unused_any G l[i] w)
    have HU : Hid (relM l i = l.set i { l[i] with s := un (l[i]).g }) := Lib.hid (by rw [HM.out, upd_nat hi])
    clear k hE hs HM
    unfold Ln.val at HC
    go_enter Try.func17, Try.ntmps17
    go_wp2_with (fail)
    refine HF.out.mono ?_
    rintro e w1 ⟨rfl, rfl⟩
    go_wp2_with (fail)
    refine HC.out.mono ?_
    rintro e w2 ⟨rfl, hO⟩
    have hk2 := HK.out.quiet hO
    have f0 := hk2.fr (off + i * 8)
    have e0' := (hk2.ln hi).c0
    have HK2 := Lib.hid (hk2.setS hi (un (l[i]).g))
    have HO := Lib.hid (hO.mono (T := fun i => i = gb) (fun _ _ h => h.elim))
    clear hk2 hO HC
    go_wp2
    go_ret
    exact ⟨by rw [HE.out]; rfl, by rw [HU.out]; exact HK2.out, HO.out.setCell (p := ⟨gb, off + i * 8, none⟩) (fun _ => rfl) _⟩
  · have HM : Hid (relM l n = l) := Lib.hid (by unfold relM; rw [if_neg hE])
    have HF := Lib.hid (find_no b off c gb G l op n 2 hE w k)
    have HK := Lib.hid k
    have te : (findE l n 2 == 0) = false := beq_false_of_ne hE
    generalize findE l n 2 = E at *
    clear k hE
    go_enter Try.func17, Try.ntmps17
    go_wp2_with (fail)
    refine HF.out.mono ?_
    rintro e w1 ⟨rfl, rfl⟩
    go_wp2
    go_ret
    exact ⟨rfl, by rw [HM.out]; exact HK.out, Only.refl _ _⟩

set_option maxHeartbeats 1000000 in
theorem close_no (b off c gb : Nat) (G : Ge) (l : List Ln) (op : Int) (hop : op < 0) (w : World) (k : LAt w b G l off c gb op) :
    Calls Try.prog 16 #[.pointer (some ⟨b, 0, none⟩)] w fun e w' => e = .returned (.tuple #[.int .i64 0, .int .i64 13]) ∧ w' = w := by
  have c1 := k.st.cell 1
  simp at c1
  clear k
  go_enter Try.func16, Try.ntmps16
  go_wp2
  go_ret2
  exact ⟨rfl, rfl⟩
set_option maxHeartbeats 1000000 in
theorem close_ok (b off c gb : Nat) (G : Ge) (l : List Ln) (i : Nat) (hi : i < l.length) (w : World) (k : LAt w b G l off c gb i) :
    Calls Try.prog 16 #[.pointer (some ⟨b, 0, none⟩)] w fun e w' => e = .returned (.tuple #[.int .i64 i, .int .i64 0]) ∧ LAt w' b G (l.set i { l[i] with s := 2 }) off c gb (-1) ∧ Only (fun j => j = b ∨ j = gb) w w' := by
  have c0 := k.st.cell 0
  have c1 := k.st.cell 1
  simp at c0 c1
  have e0 := (k.ln hi).c0
  have f0 := k.fr (off + i * 8)
  have f1 := k.st.frozen 1
  have hne := k.ne
  have i0 : (0 : Int) ≤ i := by omega
  have i1 : (i : Int) < l.length := by omega
  have i2 : ¬ (i : Int) < 0 := by omega
  have HK := Lib.hid ((k.setS hi 2).setOp (-1))
  have q1 : (w.setCell ⟨gb, off + i * 8, none⟩ (.int .i64 2)).cell? ⟨b, 1, none⟩ = some (.int .i64 i) := (World.cell?_of_block (a := ⟨b, 1, none⟩) (Below.heap_setCell w ⟨gb, off + i * 8, none⟩ _ b hne.symm)).trans c1
  have q0 : (w.setCell ⟨gb, off + i * 8, none⟩ (.int .i64 2)).frozen? ⟨b, 1, none⟩ = false := (World.frozen?_of_block (a := ⟨b, 1, none⟩) (Below.heap_setCell w ⟨gb, off + i * 8, none⟩ _ b hne.symm)).trans f1
  clear k
  go_enter Try.func16, Try.ntmps16
  go_wp2
  go_ret2
  exact ⟨rfl, HK.out, ((Only.refl _ _).setCell (p := ⟨gb, off + i * 8, none⟩) (fun _ => .inr rfl) _).setCell (p := ⟨b, 1, none⟩) (fun _ => .inl rfl) _⟩
end Go.Proofs.Ytlenjgofiocaaaa
