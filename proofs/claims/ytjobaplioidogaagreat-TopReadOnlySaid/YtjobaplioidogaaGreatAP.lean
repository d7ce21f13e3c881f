/- Top: the sum of bytes; four bytes of a number. -/
import Derived.Test.YtjobaplioidogaaGreatAN
namespace Go.Proofs.YtjobaplioidogaaGreat
open Go.RowKit

def crcBit (y : Int) : Int := if (bits .and .u32 y 1 == 1) then bits .xor .u32 (y / 2) 3988292384 else y / 2
def crcBits (y : Int) : Nat → Int
  | 0 => y
  | m + 1 => crcBit (crcBits y m)
def crcTo (z : Int) (l : List Int) : Nat → Int
  | 0 => bits .xor .u32 IntKind.u32.max z
  | k + 1 => crcBits (bits .xor .u32 (crcTo z l k) (l.getD k 0 % 4294967296)) 8
/-- The sum of bytes that stand behind others, of the sum of those. -/
def crcL (z : Int) (l : List Int) : Int := bits .xor .u32 IntKind.u32.max (crcTo z l l.length)

set_option maxRecDepth 100000 in
set_option maxHeartbeats 8000000 in
theorem crc_any (z : Int) (l : List Int) (n : Nat) (hn : l.length = n) (hb : n ≤ 1000) (A : Option Addr) (c g : Nat) (w : World) (hr : Rd w g A (bv l)) :
    Calls Tryz.prog 93 #[.int .u32 z, .slice A n c] w fun e w' => e = .returned (.int .u32 (crcL z l)) ∧ w' = w := by
  subst hn
  have H0 := Lib.hid (show crcTo z l 0 = bits .xor .u32 IntKind.u32.max z from rfl)
  have HS := Lib.hid (fun k => show crcTo z l (k + 1) = crcBits (bits .xor .u32 (crcTo z l k) (l.getD k 0 % 4294967296)) 8 from rfl)
  have HL := Lib.hid (show crcL z l = bits .xor .u32 IntKind.u32.max (crcTo z l l.length) from rfl)
  generalize crcL z l = rs at *
  generalize crcTo z l = f at *
  go_enter Tryz.func93, Tryz.ntmps93
  go_wp2_with (fail)
  go_loopw [5, 7, 8, 13] (fun v5 v7 v8 v13 wr => ∃ k : Nat, k ≤ l.length ∧ v5 = .int .u32 (f k) ∧ v13 = .int .i64 k ∧ wr = w) (fun _ _ _ v13 _ => (l.length - intOf v13).toNat)
  case atStart => exact ⟨0, by omega, by rw [H0.out], rfl, rfl⟩
  case round =>
    obtain ⟨k, hk, rfl, rfl, rfl⟩ := hrel
    by_cases hkl : k < l.length
    · have i1 : (k : Int) < l.length := by omega
      have i2 : (0 : Int) ≤ k := by omega
      obtain ⟨o, rfl, _, hc⟩ := hr.at (fun e => by simp [bv] at e; rw [e] at hkl; simp at hkl)
      have c0 := hc k (.int .u8 (l.getD k 0)) (by simp [bv, hkl])
      have HSk := Lib.hid (HS.out k)
      generalize l.getD k 0 = b at *
      clear hc hr
      go_wp2_with (fail)
      generalize hx0 : bits .xor .u32 (f k) (b % 4294967296) = x0 at *
      have B0 := Lib.hid (show crcBits x0 0 = x0 from rfl)
      have BS := Lib.hid (fun m => show crcBits x0 (m + 1) = crcBit (crcBits x0 m) from rfl)
      generalize crcBits x0 = h at *
      go_loopw [5, 8, 21] (fun v5 v8 v21 wr' => ∃ m : Nat, m ≤ 8 ∧ v5 = .int .u32 (h m) ∧ v21 = .int .i64 m ∧ wr' = wr) (fun _ _ v21 _ => (8 - intOf v21).toNat)
      case atStart => exact ⟨0, by omega, by rw [B0.out], rfl, rfl⟩
      case round =>
        obtain ⟨m, hm, rfl, rfl, rfl⟩ := hrel
        by_cases hml : m < 8
        · have i3 : (m : Int) < 8 := by omega
          have i4 : (0 : Int) ≤ m := by omega
          have BSm := Lib.hid (BS.out m)
          generalize h m = y at *
          cases hy : (bits BinOp.and IntKind.u32 y 1 == 1) with
          | true =>
            have hs : crcBit y = bits .xor .u32 (y / 2) 3988292384 := by unfold crcBit; rw [if_pos hy]
            have HSy := Lib.hid hs
            clear hs
            go_wp2_with (fail)
            go_roundw
            case rel => exact ⟨m + 1, by omega, by rw [BSm.out, HSy.out], by simp, trivial⟩
            case measure => simp [intOf]; omega
          | false =>
            have hs : crcBit y = y / 2 := by unfold crcBit; rw [if_neg (by rw [hy]; simp)]
            have HSy := Lib.hid hs
            clear hs
            go_wp2_with (fail)
            go_roundw
            case rel => exact ⟨m + 1, by omega, by rw [BSm.out, HSy.out], by simp, trivial⟩
            case measure => simp [intOf]; omega
        · obtain rfl : m = 8 := by omega
          go_wp2_with (fail)
          go_roundw
          case rel => exact ⟨k + 1, by omega, by rw [HSk.out], by simp, trivial⟩
          case measure => simp [intOf]; omega
    · have hk' : k = l.length := by omega
      have i1 : ¬ ((k : Int) < l.length) := by omega
      have HK := Lib.hid hk'
      clear hk'
      go_wp2
      go_ret
      exact ⟨by rw [HL.out, ← HK.out]; rfl, rfl⟩

set_option maxHeartbeats 2000000 in
theorem crcSum_any (l : List Int) (n : Nat) (hn : l.length = n) (hb : n ≤ 1000) (A : Option Addr) (c g : Nat) (w : World) (hr : Rd w g A (bv l)) :
    Calls Tryz.prog 94 #[.slice A n c] w fun e w' => e = .returned (.int .u32 (crcL 0 l)) ∧ w' = w := by
  have H := Lib.hid (crc_any 0 l n hn hb A c g w hr)
  clear hr
  go_enter Tryz.func94, Tryz.ntmps94
  go_wp2_with (fail)
  refine H.out.mono ?_
  rintro e w1 ⟨rfl, rfl⟩
  go_wp2
  go_ret
  exact ⟨rfl, rfl⟩

/-- The four bytes of a number. -/
def fixL (n : Int) : List Int := [n % 256, n / 256 % 256, n / 65536 % 256, n / 16777216 % 256]
set_option maxRecDepth 100000 in
set_option maxHeartbeats 8000000 in
theorem fixed_any (n : Int) (w : World) :
    Calls Tryz.prog 95 #[.int .u32 n] w fun e w' => e = .returned (.slice (some ⟨w.heap.size, 0, none⟩) 4 4) ∧ At w' w.heap.size 5 (bv (fixL n)).toArray ∧ Only (fun _ => False) w w' := by
  go_enter Tryz.func95, Tryz.ntmps95
  go_wp2
  go_ret
  exact ⟨rfl, At.new w 5 _, (Only.refl (fun _ => False) w).alloc _⟩

/-- The number of four bytes. -/
def takeL (b0 b1 b2 b3 : Int) : Int := bits BinOp.or IntKind.u32 (bits BinOp.or IntKind.u32 (bits BinOp.or IntKind.u32 (b0 % 4294967296) (b1 % 4294967296 * 256 % 4294967296)) (b2 % 4294967296 * 65536 % 4294967296)) (b3 % 4294967296 * 16777216 % 4294967296)
set_option maxRecDepth 100000 in
set_option maxHeartbeats 8000000 in
theorem takeFixed_any (b0 b1 b2 b3 : Int) (n : Nat) (hn : 4 ≤ n) (A : Option Addr) (c g : Nat) (xs : List Value) (w : World) (hr : Rd w g A (.int .u8 b0 :: .int .u8 b1 :: .int .u8 b2 :: .int .u8 b3 :: xs)) :
    Calls Tryz.prog 193 #[.slice A n c] w fun e w' => e = .returned (.tuple #[.int .u32 (takeL b0 b1 b2 b3), .int .i64 0]) ∧ Only (fun _ => False) w w' := by
  obtain ⟨o, rfl, _, hc⟩ := hr.at (by simp)
  have c0 := hc 0 _ rfl
  have c1 := hc 1 _ rfl
  have c2 := hc 2 _ rfl
  have c3 := hc 3 _ rfl
  rw [Nat.add_zero] at c0
  have i0 : decide ((n : Int) < 4) = false := decide_eq_false (by omega)
  have i0' : decide (n < 4) = false := decide_eq_false (by omega)
  have i1 : (0 : Int) < n := by omega
  have i2 : (1 : Int) < n := by omega
  have i3 : (2 : Int) < n := by omega
  have i4 : (3 : Int) < n := by omega
  clear hc hr
  go_enter Tryz.func193, Tryz.ntmps193
  go_upto_region 3 with (fail)
  go_region
  go_wp2
  go_ret2
  exact ⟨rfl, (Only.refl _ _).drew⟩

end Go.Proofs.YtjobaplioidogaaGreat
