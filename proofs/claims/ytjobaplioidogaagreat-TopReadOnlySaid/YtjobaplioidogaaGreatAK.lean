/- Top: sixteen bytes of a number, and of which number they are. -/
import Derived.Test.YtjobaplioidogaaGreatAJ
namespace Go.Proofs.YtjobaplioidogaaGreat
open Go.RowKit

def secB (n : Int) (i : Nat) : Int := n / 2 ^ (8 * i) % 256
def secL (n : Int) (k : Nat) : List Value := (List.range 16).map fun i => .int .u8 (if i < k ∧ i < 4 then secB n i else 0)

theorem secL_none (n : Int) : (secL n 0).toArray = zeros (.int .u8 0) 16 := by rfl
theorem secL_len (n : Int) (k : Nat) : (secL n k).length = 16 := by simp [secL]
theorem secL_at (n : Int) (i : Nat) (h : i < 4) : (secL n i)[i]? = some (.int .u8 0) := by
  have hc : i = 0 ∨ i = 1 ∨ i = 2 ∨ i = 3 := by omega
  rcases hc with rfl | rfl | rfl | rfl <;> rfl
theorem secL_set (n : Int) (i : Nat) (h : i < 4) : (secL n i).toArray.setIfInBounds i (.int .u8 (secB n i)) = (secL n (i + 1)).toArray := by
  have hc : i = 0 ∨ i = 1 ∨ i = 2 ∨ i = 3 := by omega
  rcases hc with rfl | rfl | rfl | rfl <;> rfl
theorem secL_one (n : Int) (k : Nat) : ∀ u ∈ secL n k, u.oneCell' = true := by
  intro u hu
  obtain ⟨z, _, rfl⟩ := List.mem_map.1 hu
  rfl

set_option maxRecDepth 100000 in
set_option maxHeartbeats 8000000 in
theorem sector_any (n : Int) (w : World) :
    Calls Tryz.prog 12 #[.int .i64 n] w fun e w' => e = .returned (.slice (some ⟨w.heap.size, 0, none⟩) 16 16) ∧ At w' w.heap.size 5 (secL n 4).toArray ∧ Only (fun _ => False) w w' := by
  have hmk := make_bytes w
  go_enter Tryz.func12, Tryz.ntmps12
  go_wp2_with (fail)
  go_loopw [4] (fun v4 wr => ∃ i : Nat, i ≤ 4 ∧ v4 = .int .i64 i ∧ At wr w.heap.size 5 (secL n i).toArray ∧ Only (fun _ => False) w wr) (fun v4 _ => (4 - intOf v4).toNat)
  case atStart => exact ⟨0, by omega, rfl, by rw [secL_none]; exact At.new w 5 _, (Only.refl (fun _ => False) w).alloc _⟩
  case round =>
    obtain ⟨i, hi, rfl, hA, hO⟩ := hrel
    by_cases hin : i < 4
    · have f := hA.frozen i
      have c := hA.cell i
      have hc : (secL n i).toArray[i]? = some (.int .u8 0) := by rw [List.getElem?_toArray]; exact secL_at n i hin
      rw [hc] at c
      have e1 : IntKind.i64.wrap (8 * (i : Int)) = 8 * i := IntWalk.i64_in _ (by omega)
      have e1' : wrap64 (8 * (i : Int)) = 8 * i := by rw [← IntWalk.i64_left]; exact e1
      have e2 : (8 * (i : Int)).toNat = 8 * i := by omega
      have d0 : decide (8 * (i : Int) < 0) = false := decide_eq_false (by omega)
      have HA := Lib.hid hA
      have HO := Lib.hid hO
      clear hA hO
      go_wp2
      go_roundw
      case rel => exact ⟨i + 1, by omega, by simp, by rw [← secL_set n i hin]; exact HA.out.set i _, HO.out.setCell (fun e => absurd e (Nat.lt_irrefl _)) _⟩
      case measure => simp [intOf]; omega
    · obtain rfl : i = 4 := by omega
      have HA := Lib.hid hA
      have HO := Lib.hid hO
      clear hA hO
      go_wp2
      go_ret
      exact ⟨rfl, HA.out, HO.out⟩

set_option maxRecDepth 100000 in
set_option maxHeartbeats 8000000 in
theorem number_none (A : Option Addr) (c g : Nat) (w : World) (hr : Rd w g A z16) :
    Calls Tryz.prog 15 #[.slice A 16 c] w fun e w' => e = .returned (.int .i64 0) ∧ w' = w := by
  obtain ⟨o, rfl, _, hc⟩ := hr.at (by simp [z16])
  clear hr
  go_enter Tryz.func15, Tryz.ntmps15
  go_wp2_with (fail)
  go_loopw [3, 4] (fun v3 v4 wr => ∃ i : Nat, i ≤ 4 ∧ v3 = .int .i64 0 ∧ v4 = .int .i64 i ∧ wr = w) (fun _ v4 _ => (4 - intOf v4).toNat)
  case atStart => exact ⟨0, by omega, rfl, rfl, rfl⟩
  case round =>
    obtain ⟨i, hi, rfl, rfl, rfl⟩ := hrel
    by_cases hin : i < 4
    · have c0 := hc i (.int .u8 0) (by unfold z16; rw [List.getElem?_replicate, if_pos (by omega)])
      have i1 : decide ((i : Int) < 16) = true := decide_eq_true (by omega)
      have i2 : decide (i < 16) = true := decide_eq_true (by omega)
      have e1 : IntKind.i64.wrap (8 * (i : Int)) = 8 * i := IntWalk.i64_in _ (by omega)
      have e1' : wrap64 (8 * (i : Int)) = 8 * i := by rw [← IntWalk.i64_left]; exact e1
      have e2 : (8 * (i : Int)).toNat = 8 * i := by omega
      have d0 : decide (8 * (i : Int) < 0) = false := decide_eq_false (by omega)
      go_wp2
      go_roundw
      case rel => exact ⟨i + 1, by omega, congrArg (Value.int .i64) (by decide), by simp, trivial⟩
      case measure => simp [intOf]; omega
    · obtain rfl : i = 4 := by omega
      go_wp2
      go_ret
      exact ⟨rfl, rfl⟩

end Go.Proofs.YtjobaplioidogaaGreat
