/- Gate: contracts over its channels. -/
import Derived.Test.YtpfgjnklfdfiaaaM
import Derived.Test.YtpfgjnklfdfiaaaN
import Derived.Conc.LoneSelectN
namespace Go.Proofs.Ytpfgjnklfdfiaaa
open Go.RowKit Go.Conc

/-- A channel of tokens: n of them lie in it. -/
def ChAt (w : World) (c cap n : Nat) : Prop := ∃ s r, w.heap[c]? = some (.chan cap (Array.replicate n (.bool true)) false s r false)

/-- A gate at block b. -/
structure GAt (w : World) (b cu cm many nu nm : Nat) : Prop where
  st : At w b 48 #[.int .i64 many, .chan (some cu), .chan (some cm)]
  u : ChAt w cu many nu
  m : ChAt w cm many nm
  ne : cu ≠ cm ∧ b ≠ cu ∧ b ≠ cm

def ofC (cu cm : Nat) (kind : Int) : Option Nat := if kind = 1 then some cu else if kind = 2 then some cm else none

set_option maxHeartbeats 1000000 in
theorem of_any (b cu cm many nu nm : Nat) (kind : Int) (w : World) (h : GAt w b cu cm many nu nm) :
    Calls Try.prog 19 #[.pointer (some ⟨b, 0, none⟩), .int .i64 kind] w fun e w' => e = .returned (.chan (ofC cu cm kind)) ∧ w' = w := by
  have c1 := h.st.cell 1
  have c2 := h.st.cell 2
  simp at c1 c2
  by_cases h1 : kind = 1
  · subst h1
    go_enter Try.func19, Try.ntmps19
    go_wp2
    go_ret
    exact ⟨rfl, rfl⟩
  · by_cases h2 : kind = 2
    · subst h2
      go_enter Try.func19, Try.ntmps19
      go_wp2
      go_ret
      exact ⟨rfl, rfl⟩
    · have e1 : (kind == 1) = false := beq_false_of_ne h1
      have e2 : (kind == 2) = false := beq_false_of_ne h2
      have ho : ofC cu cm kind = none := by simp [ofC, h1, h2]
      rw [ho]
      go_enter Try.func19, Try.ntmps19
      go_wp2
      go_ret
      exact ⟨rfl, rfl⟩

def leftN (nu nm : Nat) (kind : Int) : Nat := if kind = 1 then nu else if kind = 2 then nm else 0

set_option maxHeartbeats 1000000 in
theorem left_any (b cu cm many nu nm : Nat) (kind : Int) (w : World) (h : GAt w b cu cm many nu nm) :
    Calls Try.prog 15 #[.pointer (some ⟨b, 0, none⟩), .int .i64 kind] w fun e w' => e = .returned (.int .i64 (leftN nu nm kind)) ∧ w' = w := by
  have ho := of_any b cu cm many nu nm kind w h
  by_cases h1 : kind = 1
  · obtain ⟨s, r, hc⟩ := h.u
    have hl := fun ty => run_len_chan (P := Try.prog) 46 ty Try.underlying46 hc
    simp only [goInt, Array.size_replicate] at hl
    subst h1
    have e1 : ofC cu cm 1 = some cu := rfl
    rw [e1] at ho
    have Ho := Lib.hid ho
    clear ho e1
    go_enter Try.func15, Try.ntmps15
    go_wp2_with (fail)
    refine Ho.out.mono ?_
    rintro e w1 ⟨rfl, rfl⟩
    go_wp2
    go_ret
    exact ⟨by simp [leftN], rfl⟩
  · by_cases h2 : kind = 2
    · obtain ⟨s, r, hc⟩ := h.m
      have hl := fun ty => run_len_chan (P := Try.prog) 46 ty Try.underlying46 hc
      simp only [goInt, Array.size_replicate] at hl
      subst h2
      have e1 : ofC cu cm 2 = some cm := rfl
      rw [e1] at ho
      have Ho := Lib.hid ho
      clear ho e1
      go_enter Try.func15, Try.ntmps15
      go_wp2_with (fail)
      refine Ho.out.mono ?_
      rintro e w1 ⟨rfl, rfl⟩
      go_wp2
      go_ret
      exact ⟨by simp [leftN], rfl⟩
    · have hl : ∀ ty, (Builtin.len_ #[46] ty #[.chan none]).run Try.prog w = .ok (.int .i64 0) w := fun ty => by
        simp [Builtin.len_, run_underlying Try.underlying46]; try rfl
      have e1 : ofC cu cm kind = none := by simp [ofC, h1, h2]
      have e2 : leftN nu nm kind = 0 := by simp [leftN, h1, h2]
      rw [e1] at ho
      rw [e2]
      have Ho := Lib.hid ho
      clear ho e1 e2 h1 h2
      go_enter Try.func15, Try.ntmps15
      go_wp2_with (fail)
      refine Ho.out.mono ?_
      rintro e w1 ⟨rfl, rfl⟩
      go_wp2
      go_ret
      exact ⟨rfl, rfl⟩
end Go.Proofs.Ytpfgjnklfdfiaaa
