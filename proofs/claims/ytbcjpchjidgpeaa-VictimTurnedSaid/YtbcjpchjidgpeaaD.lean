/- Victim: contracts of the reference's Better; which place a line takes. -/
import Derived.Test.YtbcjpchjidgpeaaC
namespace Go.Proofs.Ytbcjpchjidgpeaa
open Go.RowKit

/-- Is line x, number a, better than line y, number b? -/
def bt (x y : Ln) (a b : Nat) : Bool := if x.va = y.va then (if x.we = y.we then decide (a < b) else decide (x.we < y.we)) else decide (x.va < y.va)

set_option maxHeartbeats 2000000 in
theorem better_any (g off c : Nat) (l : List Ln) (a b : Nat) (ha : a < l.length) (hb : b < l.length) (w : World) (hc : ∀ (j : Nat) (u : Value), (lv l)[j]? = some u → w.cell? ⟨g, off + j, none⟩ = some u) :
    Calls Try.prog 22 #[.slice (some ⟨g, off, none⟩) l.length c, .int .i64 a, .int .i64 b] w fun e w' => e = .returned (.bool (bt l[a] l[b] a b)) ∧ Only (fun _ => False) w w' := by
  have hx := LnAt.of hc a ha
  have hy := LnAt.of hc b hb
  generalize l[a] = x at *
  generalize l[b] = y at *
  have i1 : (0 : Int) ≤ (a : Int) := by omega
  have i2 : (a : Int) < (l.length : Int) := by omega
  have j1 : (0 : Int) ≤ (b : Int) := by omega
  have j2 : (b : Int) < (l.length : Int) := by omega
  obtain ⟨_, x1, _, x3, _⟩ := hx
  obtain ⟨_, y1, _, y3, _⟩ := hy
  clear hc
  by_cases h1 : x.va = y.va
  · by_cases h2 : x.we = y.we
    · have hbt : bt x y a b = decide (a < b) := by simp [bt, h1, h2]
      rw [hbt]
      have e1 : (x.va != y.va) = false := by simpa using h1
      have e2 : (x.we != y.we) = false := by simpa using h2
      clear hbt h1 h2
      go_enter Try.func22, Try.ntmps22
      go_wp2
      go_region
      go_wp2
      go_region
      go_wp2
      go_ret
      exact ⟨ret_b (by simp), ((Only.refl _ _).drew).drew⟩
    · have hbt : bt x y a b = decide (x.we < y.we) := by simp [bt, h1, h2]
      rw [hbt]
      have e1 : (x.va != y.va) = false := by simpa using h1
      have e2 : (x.we != y.we) = true := by simpa using h2
      clear hbt h1 h2
      go_enter Try.func22, Try.ntmps22
      go_wp2
      go_region
      go_wp2
      go_region
      go_wp2
      go_region
      go_wp2
      go_ret
      exact ⟨ret_b (by simp), (((Only.refl _ _).drew).drew).drew⟩
  · have hbt : bt x y a b = decide (x.va < y.va) := by simp [bt, h1]
    rw [hbt]
    have e1 : (x.va != y.va) = true := by simpa using h1
    clear hbt h1
    go_enter Try.func22, Try.ntmps22
    go_wp2
    go_region
    go_wp2
    go_region
    go_wp2
    go_ret
    exact ⟨ret_b (by simp), ((Only.refl _ _).drew).drew⟩
end Go.Proofs.Ytbcjpchjidgpeaa
