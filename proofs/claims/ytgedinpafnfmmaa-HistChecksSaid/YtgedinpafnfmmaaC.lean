/- Hist: may an operation come next? -/
import Derived.Test.YtgedinpafnfmmaaB
namespace Go.Proofs.Ytgedinpafnfmmaa
open Go.RowKit

theorem wrap_nat (n : Nat) (h : n < 9223372036854775808) : IntKind.i64.wrap ((n : Int)) = n := by
  simp only [IntKind.wrap, show IntKind.i64.bits = 64 from rfl]; simp; omega
theorem i64_and (a b : Nat) (ha : a < 9223372036854775808) (hb : b < 9223372036854775808) : bits .and .i64 (a : Int) (b : Int) = ((a &&& b : Nat) : Int) := by
  have h : a &&& b < 9223372036854775808 := Nat.lt_of_le_of_lt Nat.and_le_left ha
  have h1 : (BitVec.ofInt 64 (a : Int)).toNat = a := by simp; omega
  have h2 : (BitVec.ofInt 64 (b : Int)).toNat = b := by simp; omega
  have h3 : (BitVec.ofInt 64 (a : Int) &&& BitVec.ofInt 64 (b : Int)).toNat = a &&& b := by rw [BitVec.toNat_and, h1, h2]
  show IntKind.i64.wrap (((BitVec.ofInt 64 (a : Int) &&& BitVec.ofInt 64 (b : Int)).toNat : Nat) : Int) = _
  rw [h3, wrap_nat _ h]
theorem i64_or (a b : Nat) (ha : a < 4611686018427387904) (hb : b < 4611686018427387904) : bits .or .i64 (a : Int) (b : Int) = ((a ||| b : Nat) : Int) := by
  have h : a ||| b < 4611686018427387904 := Nat.or_lt_two_pow (n := 62) ha hb
  have h1 : (BitVec.ofInt 64 (a : Int)).toNat = a := by simp; omega
  have h2 : (BitVec.ofInt 64 (b : Int)).toNat = b := by simp; omega
  have h3 : (BitVec.ofInt 64 (a : Int) ||| BitVec.ofInt 64 (b : Int)).toNat = a ||| b := by rw [BitVec.toNat_or, h1, h2]
  show IntKind.i64.wrap (((BitVec.ofInt 64 (a : Int) ||| BitVec.ofInt 64 (b : Int)).toNat : Nat) : Int) = _
  rw [h3, wrap_nat _ (by omega)]
theorem bit_and (d k : Nat) (hd : d < 1024) : bits .and .i64 ((d : Int) / 2 ^ k) 1 = if d.testBit k then 1 else 0 := by
  have h1 : (d : Int) / 2 ^ k = ((d / 2 ^ k : Nat) : Int) := by simp
  have h2 : d / 2 ^ k ≤ d := Nat.div_le_self _ _
  rw [h1, show (1 : Int) = ((1 : Nat) : Int) from rfl, i64_and _ 1 (by omega) (by omega), Nat.testBit_eq_decide_div_mod_eq, Nat.and_one_is_mod]
  by_cases h : d / 2 ^ k % 2 = 1
  · simp [h]
  · have : d / 2 ^ k % 2 = 0 := by omega
    simp [this]

def Dd.zero : Dd := ⟨0, 0, 0, 0⟩
def gt (l : List Dd) (i : Nat) : Dd := l.getD i .zero
theorem gt_eq {l : List Dd} {i : Nat} (h : i < l.length) : gt l i = l[i] := by simp [gt, List.getD, h]
/-- Does the operation k, which was not done, stand before i? -/
def blk (l : List Dd) (d i k : Nat) : Bool := !d.testBit k && (gt l k).before (gt l i)
def nxt (l : List Dd) (d : Nat) (v : Int) (i : Nat) : Bool := (List.range l.length).all (fun k => !blk l d i k) && (!d.testBit i && ((gt l i).k == 2 || (gt l i).v == v))
theorem nxt_no {l : List Dd} {d i k : Nat} {v : Int} (hk : k < l.length) (h : blk l d i k = true) : nxt l d v i = false := by
  have : (List.range l.length).all (fun k => !blk l d i k) = false := by
    rw [List.all_eq_false]
    exact ⟨k, by simpa using hk, by simp [h]⟩
  simp [nxt, this]
theorem nxt_go {l : List Dd} {d i : Nat} {v : Int} (h : ∀ k, k < l.length → blk l d i k = false) : nxt l d v i = (!d.testBit i && ((gt l i).k == 2 || (gt l i).v == v)) := by
  have : (List.range l.length).all (fun k => !blk l d i k) = true := by
    rw [List.all_eq_true]
    intro k hk
    simp [h k (by simpa using hk)]
  simp [nxt, this]

set_option maxRecDepth 100000 in
set_option maxHeartbeats 8000000 in
theorem next_any (bl g c : Nat) (A : Option Addr) (l : List Dd) (d : Nat) (v : Int) (i : Nat) (w : World) (hl : At w bl 22 #[.slice A l.length c]) (hr : Rd w g A (dv l)) (hi : i < l.length) (hn : l.length ≤ 10) (hd : d < 1024) :
    Calls Try.prog 14 #[kv d v, .int .i64 i, .pointer (some ⟨bl, 0, none⟩)] w fun e w' => e = .returned (.bool (nxt l d v i)) ∧ Only (fun _ => False) w w' := by
  have HR := Lib.hid hr
  have HL := Lib.hid hl
  have hO0 := (Only.refl (fun _ => False) w).alloc (.cells #[.int .i64 d, .int .i64 v] 38)
  have HO0 := Lib.hid hO0
  have c0 := (hl.only hO0 id).cell 0
  have HS := Lib.hid (At.new w 38 #[.int .i64 d, .int .i64 v])
  simp at c0
  clear hr hl hO0
  unfold kv
  go_enter Try.func14, Try.ntmps14
  go_wp2_with (fail)
  go_loopw [10] (fun v10 wr => ∃ k : Nat, k ≤ l.length ∧ v10 = .int .i64 k ∧ (∀ k', k' < k → blk l d i k' = false) ∧ At wr w.heap.size 38 #[.int .i64 d, .int .i64 v] ∧ Only (fun _ => False) w wr) (fun v10 wr => (l.length - intOf v10).toNat)
  case atStart => exact ⟨0, by omega, rfl, fun k h => by omega, HS.out, HO0.out⟩
  case round =>
    obtain ⟨k, hk, rfl, hm, hs, hO⟩ := hrel
    have HM := Lib.hid hm
    have HO := Lib.hid hO
    have HS1 := Lib.hid hs
    have c0 : wr.cell? ⟨bl, 0, none⟩ = some (.slice A l.length c) := (HL.out.only hO id).cell 0
    have s0 : wr.cell? ⟨w.heap.size, 0, none⟩ = some (.int .i64 d) := hs.cell 0
    have s1 : wr.cell? ⟨w.heap.size, 1, none⟩ = some (.int .i64 v) := hs.cell 1
    clear hm hO HS HO0 hs
    obtain ⟨off, rfl, hlt, hdi⟩ := (HR.out.only HO.out id).dd hi
    obtain ⟨e0, e1, e2, e3⟩ := hdi
    have gi := gt_eq hi
    rw [← gi] at e0 e1 e2 e3
    have HB : Hid (blk l d i k = (!d.testBit k && (!((gt l k).e == -1) && decide ((gt l k).e < (gt l i).b)))) := Lib.hid rfl
    by_cases hkl : k < l.length
    · have i0 : (0 : Int) ≤ k := by omega
      have i1 : (k : Int) < l.length := by omega
      have i2 : (k : Int) ≤ 64 := by omega
      have i3 : (0 : Int) ≤ i := by omega
      have i4 : (i : Int) < l.length := by omega
      obtain ⟨off', he, hlt', hdk⟩ := (HR.out.only HO.out id).dd hkl
      obtain rfl : off' = off := by simpa using he.symm
      obtain ⟨f0, f1, f2, f3⟩ := hdk
      have gk := gt_eq hkl
      rw [← gk] at f0 f1 f2 f3
      have hb := bit_and d k hd
      have HN := Lib.hid (fun h => nxt_no (v := v) hkl h : blk l d i k = true → nxt l d v i = false)
      have hy : blk l d i k = false → ∀ k', k' < k + 1 → blk l d i k' = false := fun h k' hk' => by
        rcases Nat.lt_succ_iff_lt_or_eq.1 hk' with h' | rfl
        · exact HM.out k' h'
        · exact h
      have HY := Lib.hid hy
      clear hy gi gk he
      generalize gt l i = x at *
      generalize gt l k = y at *
      have HS2 := Lib.hid (HS1.out.alloc (.cells #[.int .i64 y.k, .int .i64 y.v, .int .i64 y.b, .int .i64 y.e] 30))
      have HO2 := Lib.hid (HO.out.alloc (.cells #[.int .i64 y.k, .int .i64 y.v, .int .i64 y.b, .int .i64 y.e] 30))
      have s0' := HS2.out.cell 0
      have c0' : (wr.alloc (.cells #[.int .i64 y.k, .int .i64 y.v, .int .i64 y.b, .int .i64 y.e] 30)).cell? ⟨bl, 0, none⟩ = some (.slice (some ⟨g, off', none⟩) l.length c) := (HL.out.only HO2.out id).cell 0
      have e2' : (wr.alloc (.cells #[.int .i64 y.k, .int .i64 y.v, .int .i64 y.b, .int .i64 y.e] 30)).cell? ⟨g, off' + i * 4 + 2, none⟩ = some (.int .i64 x.b) := (((Only.refl (fun _ => False) wr).alloc _).cell hlt id).trans e2
      simp at s0'
      clear HM HR HL HS1 s0 s1 e0 e1 e3
      cases ht : d.testBit k
      all_goals
        rw [ht] at hb HB
        simp only [if_true, if_false, Bool.false_eq_true] at hb
        clear ht
      · by_cases he : y.e = -1
        · have t1 : (y.e == -1) = true := by simp [he]
          have t2 : (y.e != -1) = false := by simp [he]
          have HB' := Lib.hid (HB.out.trans (by simp [he] : _ = false))
          clear he
          go_wp2
          go_quiet (fail)
          go_wp2
          go_roundw
          case rel => exact ⟨k + 1, by omega, by simp, HY.out HB'.out, HS2.out.drewN _, HO2.out.drewN _⟩
          case measure => simp [intOf]; omega
        · have t1 : (y.e == -1) = false := by simp [he]
          have t2 : (y.e != -1) = true := by simp [he]
          by_cases hlt : y.e < x.b
          · have HB' := Lib.hid (HN.out (HB.out.trans (by simp [he, hlt] : _ = true)))
            clear he
            go_wp2
            go_quiet (fail)
            go_wp2
            go_ret
            exact ⟨ret_b HB'.out.symm, HO2.out.drewN _⟩
          · have hlt' : decide (y.e < x.b) = false := by simp; omega
            have HB' := Lib.hid (HB.out.trans (by simp [hlt] : _ = false))
            clear he
            go_wp2
            go_quiet (fail)
            go_wp2
            go_roundw
            case rel => exact ⟨k + 1, by omega, by simp, HY.out HB'.out, HS2.out.drewN _, HO2.out.drewN _⟩
            case measure => simp [intOf]; omega
      · have HB' := Lib.hid (HB.out.trans (by simp : _ = false))
        go_wp2
        go_quiet (fail)
        go_wp2
        go_roundw
        case rel => exact ⟨k + 1, by omega, by simp, HY.out HB'.out, HS2.out.drewN _, HO2.out.drewN _⟩
        case measure => simp [intOf]; omega
    · obtain rfl : k = l.length := by omega
      have HE := Lib.hid (nxt_go (v := v) HM.out)
      have i1 : ¬ (l.length : Int) < l.length := by omega
      have i2 : (i : Int) ≤ 64 := by omega
      have i3 : (0 : Int) ≤ i := by omega
      have i4 : (i : Int) < l.length := by omega
      have hb := bit_and d i hd
      clear HM HR HL HS1 HB hkl hk
      clear gi
      generalize gt l i = x at *
      cases ht : d.testBit i
      all_goals
        rw [ht] at hb HE
        simp only [if_true, if_false, Bool.false_eq_true] at hb
        clear ht
      · by_cases hk : x.k = 2
        · have t1 : (x.k == 2) = true := by simp [hk]
          have HE' := Lib.hid (HE.out.trans (by simp [hk] : _ = true))
          clear hk
          go_wp2
          go_quiet (fail)
          go_wp2
          go_ret
          exact ⟨ret_b HE'.out.symm, HO.out.drewN _⟩
        · have t1 : (x.k == 2) = false := by simp [hk]
          cases hv : (x.v == v)
          all_goals
            have HE' := Lib.hid (HE.out.trans (by simp [hk] : _ = (x.v == v)))
            go_wp2
            go_quiet (fail)
            go_wp2
            go_ret
            exact ⟨ret_b (by rw [HE'.out, hv]), HO.out.drewN _⟩
      · have HE' := Lib.hid (HE.out.trans (by simp : _ = false))
        go_wp2
        go_quiet (fail)
        go_wp2
        go_ret
        exact ⟨ret_b HE'.out.symm, HO.out.drewN _⟩
end Go.Proofs.Ytgedinpafnfmmaa
