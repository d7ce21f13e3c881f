/- Hist: Check. -/
import Derived.Test.YtgedinpafnfmmaaD
namespace Go.Proofs.Ytgedinpafnfmmaa
open Go.RowKit

theorem At.new' {w : World} {g : Nat} (h : g = w.heap.size) (t : TypeId) (cs : Array Value) : At (w.alloc (.cells cs t)) g t cs := by subst h; exact At.new w t cs
@[go_sem] theorem run_store_func {P : Program} {w : World} {a : Addr} {m : Mode} (f : Fn) (xs ys : Array Value) : (store a (.func f xs ys) m).run P w = stored P w a (.func f xs ys) m := run_store P w a _ m rfl
theorem or_shl64 (d i : Nat) (hd : d < 1024) (hi : i < 10) : bits .or .i64 (d : Int) (wrap64 (2 ^ i)) = ((d ||| 1 <<< i : Nat) : Int) := by
  rw [← or_shl d i hd hi, IntWalk.i64_left]

open Classical in
noncomputable def chk (l : List Dd) : Bool := right l && decide (Can l 0 0)
def eno (l : List Dd) : Int := if right l then 0 else 1

set_option maxRecDepth 100000 in
set_option maxHeartbeats 8000000 in
theorem check_any (g c : Nat) (A : Option Addr) (l : List Dd) (w : World) (hr : Rd w g A (dv l)) (hlen : l.length ≤ 9223372036854775807) (hwf : wfL l) :
    Calls Try.prog 10 #[.slice A l.length c] w fun e w' => e = .returned (.tuple #[.bool (chk l), .int .i64 (eno l)]) ∧ Only (fun _ => False) w w' := by
  have hO0 := (Only.refl (fun _ => False) w).alloc (.cells #[.slice A l.length c] 22)
  have hr0 := hr.only hO0 id
  have HRw := Lib.hid hr
  have HR0 := Lib.hid hr0
  have HO0 := Lib.hid hO0
  have HB0 := Lib.hid (At.new w 22 #[.slice A l.length c])
  have HRi := Lib.hid (right_any g c A l _ hr0 hlen)
  clear hr hO0 hr0
  cases hri : right l
  · have HC : Hid (chk l = false ∧ eno l = 1) := Lib.hid (by simp [chk, eno, hri])
    rw [hri] at HRi
    clear hri
    go_enter Try.func10, Try.ntmps10
    go_wp2_with (fail)
    refine HRi.out.mono ?_
    rintro e w1 ⟨rfl, hO1⟩
    have HO1 := Lib.hid (HO0.out.trans hO1)
    clear hO1 HRi
    go_wp2
    go_ret2
    exact ⟨by rw [HC.out.1, HC.out.2]; rfl, HO1.out⟩
  · have hn : l.length ≤ 10 := by
      simp [right] at hri; exact hri.2
    have HC : Hid (chk l = true ↔ Can l 0 0) := Lib.hid (by simp [chk, hri])
    have HC2 : Hid (eno l = 0) := Lib.hid (by simp [eno, hri])
    rw [hri] at HRi
    clear hri
    go_enter Try.func10, Try.ntmps10
    go_wp2_with (fail)
    refine HRi.out.mono ?_
    rintro e w1 ⟨rfl, hO1⟩
    have hB1 := HB0.out.only hO1 id
    have b0 := hB1.cell 0
    have b0' := (hB1.alloc (.cells #[.int .i64 0] 3)).cell 0
    have HB1 := Lib.hid hB1
    have HO1 := Lib.hid (HO0.out.trans hO1)
    have hsz : w.heap.size < w1.heap.size := by have := hO1.size; simp at this; omega
    simp at b0 b0'
    clear hO1 HRi hB1 HB0 HO0 HR0
    go_wp2_with (fail)
    have HBo := Lib.hid (At.new w1 3 #[.int .i64 0])
    have HB2 := Lib.hid (HB1.out.alloc (.cells #[.int .i64 0] 3))
    have HO2 := Lib.hid (HO1.out.alloc (.cells #[.int .i64 0] 3))
    generalize hbo : w1.heap.size = bo at *
    generalize w1.alloc (.cells #[.int .i64 0] 3) = w2 at *
    clear HB1 HO1 b0 b0'
    go_loopw [15] (fun v15 wr => ∃ k : Nat, k ≤ l.length ∧ v15 = .int .i64 k ∧ At wr bo 3 #[.int .i64 (ovTo l k)] ∧ At wr w.heap.size 22 #[.slice A l.length c] ∧ Only (fun _ => False) w wr) (fun v15 wr => (l.length - intOf v15).toNat)
    case atStart => exact ⟨0, by omega, rfl, HBo.out, HB2.out, HO2.out⟩
    case round =>
      obtain ⟨k, hk, rfl, hBo, hB, hO⟩ := hrel
      have hR := HRw.out.only hO id
      have HB := Lib.hid hB
      have HO := Lib.hid hO
      have HR := Lib.hid hR
      have HBo' := Lib.hid hBo
      clear hBo hB hR hO HBo HB2 HO2
      by_cases hkl : k < l.length
      · have i0 : (0 : Int) ≤ k := by omega
        have i1 : (k : Int) < l.length := by omega
        have i2 : (k : Int) ≤ 64 := by omega
        obtain ⟨off, rfl, hlt, hdi⟩ := HR.out.dd hkl
        obtain ⟨e0, e1, e2, e3⟩ := hdi
        have gi := gt_eq hkl
        rw [← gi] at e0 e1 e2 e3
        have hor := or_shl64 (ovTo l k) k (ovTo_lt l k (by omega)) (show k < 10 by omega)
        have HV : Hid (ovTo l (k + 1) = if (gt l k).e = -1 then ovTo l k else ovTo l k ||| 1 <<< k) := Lib.hid rfl
        have hHx := At.new wr 30 #[.int .i64 (gt l k).k, .int .i64 (gt l k).v, .int .i64 (gt l k).b, .int .i64 (gt l k).e]
        have hBx := HBo'.out.alloc (.cells #[.int .i64 (gt l k).k, .int .i64 (gt l k).v, .int .i64 (gt l k).b, .int .i64 (gt l k).e] 30)
        have hBl := HB.out.alloc (.cells #[.int .i64 (gt l k).k, .int .i64 (gt l k).v, .int .i64 (gt l k).b, .int .i64 (gt l k).e] 30)
        have hOx := HO.out.alloc (.cells #[.int .i64 (gt l k).k, .int .i64 (gt l k).v, .int .i64 (gt l k).b, .int .i64 (gt l k).e] 30)
        have b0 := hBx.cell 0
        have b1 := hBx.frozen 0
        have HBx := Lib.hid hBx
        have HBl := Lib.hid hBl
        have HOx := Lib.hid hOx
        simp at b0
        clear hHx hBx hBl hOx gi HB HO HR HBo'
        by_cases he : (gt l k).e = -1
        · have t1 : ((gt l k).e == -1) = true := by simp [he]
          have t2 : ((gt l k).e != -1) = false := by simp [he]
          have HV' := Lib.hid (HV.out.trans (if_pos he))
          clear he HV
          go_wp2
          go_roundw
          case rel => exact ⟨k + 1, by omega, by simp, by rw [HV'.out]; exact HBx.out, HBl.out, HOx.out⟩
          case measure => simp [intOf]; omega
        · have t1 : ((gt l k).e == -1) = false := by simp [he]
          have t2 : ((gt l k).e != -1) = true := by simp [he]
          have HV' := Lib.hid (HV.out.trans (if_neg he))
          clear he HV
          go_wp2
          go_region
          go_wp2
          go_roundw
          case rel => exact ⟨k + 1, by omega, by simp, by rw [HV'.out]; exact (HBx.out.set 0 _).drew, (HBl.out.far (by show w.heap.size ≠ bo; omega) _).drew, (HOx.out.setCell (p := ⟨bo, 0, none⟩) (fun h => by simp at h; omega) _).drew⟩
          case measure => simp [intOf]; omega
      · obtain rfl : k = l.length := by omega
        have i1 : ¬ (l.length : Int) < l.length := by omega
        have hmk := fun w => run_makeMap (P := Try.prog) 40 w
        go_wp2_with (fail)
        obtain ⟨g', hr', hg'⟩ : ∃ g', Rd wr g' A (dv l) ∧ g' ≠ wr.heap.size + 1 := by
          by_cases h0 : dv l = []
          · exact ⟨wr.heap.size, .inl h0, by omega⟩
          · obtain ⟨_, _, hlt, _⟩ := HR.out.at h0
            exact ⟨g, HR.out, by omega⟩
        have hsz2 : w.heap.size ≤ wr.heap.size := HO.out.size
        have hA1 := At.new wr 39 #[.func (.func 14) #[] #[.pointer (some ⟨w.heap.size, 0, none⟩)]]
        have hO1 := (Only.refl (fun _ => False) wr).alloc (.cells #[.func (.func 14) #[] #[.pointer (some ⟨w.heap.size, 0, none⟩)]] 39)
        have hM1 := MapAt.new (wr.alloc (.cells #[.func (.func 14) #[] #[.pointer (some ⟨w.heap.size, 0, none⟩)]] 39))
        have hsa : (wr.alloc (.cells #[.func (.func 14) #[] #[.pointer (some ⟨w.heap.size, 0, none⟩)]] 39)).heap.size = wr.heap.size + 1 := by simp
        rw [hsa] at hM1
        generalize wr.alloc (.cells #[.func (.func 14) #[] #[.pointer (some ⟨w.heap.size, 0, none⟩)]] 39) = W1 at *
        have hA2 := hA1.alloc (.map #[] 0)
        have hO2 := hO1.alloc (.map #[] 0)
        have hsb : (W1.alloc (.map #[] 0)).heap.size = wr.heap.size + 1 + 1 := by simp [hsa]
        generalize W1.alloc (.map #[] 0) = W2 at *
        have hA3 := hA2.alloc (.cells #[.map (some (wr.heap.size + 1))] 40)
        have hM3 := hM1.only ((Only.refl (fun _ => False) W2).alloc (.cells #[.map (some (wr.heap.size + 1))] 40)) id
        have hS3 := At.new' hsb.symm 40 #[.map (some (wr.heap.size + 1))]
        have hO3 := hO2.alloc (.cells #[.map (some (wr.heap.size + 1))] 40)
        have hsc : (W2.alloc (.cells #[.map (some (wr.heap.size + 1))] 40)).heap.size = wr.heap.size + 1 + 1 + 1 := by simp [hsb]
        generalize W2.alloc (.cells #[.map (some (wr.heap.size + 1))] 40) = W3 at *
        have hq := At.new' hsc.symm 41 #[.func (.func 15) #[] #[.pointer (some ⟨bo, 0, none⟩), .pointer (some ⟨wr.heap.size + 1 + 1, 0, none⟩), .pointer (some ⟨w.heap.size, 0, none⟩), .pointer (some ⟨wr.heap.size, 0, none⟩), .pointer (some ⟨wr.heap.size + 1 + 1 + 1, 0, none⟩)]]
        have hOq := (Only.refl (fun _ => False) W3).alloc (.cells #[.func (.func 15) #[] #[.pointer (some ⟨bo, 0, none⟩), .pointer (some ⟨wr.heap.size + 1 + 1, 0, none⟩), .pointer (some ⟨w.heap.size, 0, none⟩), .pointer (some ⟨wr.heap.size, 0, none⟩), .pointer (some ⟨wr.heap.size + 1 + 1 + 1, 0, none⟩)]] 41)
        generalize W3.alloc (.cells #[.func (.func 15) #[] #[.pointer (some ⟨bo, 0, none⟩), .pointer (some ⟨wr.heap.size + 1 + 1, 0, none⟩), .pointer (some ⟨w.heap.size, 0, none⟩), .pointer (some ⟨wr.heap.size, 0, none⟩), .pointer (some ⟨wr.heap.size + 1 + 1 + 1, 0, none⟩)]] 41) = W4 at *
        have hO4 := hO3.trans hOq
        have hE : Env W4 bo (wr.heap.size + 1 + 1) w.heap.size wr.heap.size (wr.heap.size + 1 + 1 + 1) (wr.heap.size + 1) g' c A l :=
          ⟨HBo'.out.only hO4 id, hS3.only hOq id, HB.out.only hO4 id, hA3.only hOq id, hq, hr'.only hO4 id, hg'⟩
        refine (search_any _ _ _ _ _ _ _ _ _ l hn hwf 1024 0 0 (fun _ _ => False) W4 (by omega) (by omega) (by decide) hE (hM3.only hOq id) (fun _ _ h => h.elim)).mono ?_
        rintro e w5 ⟨S', r, rfl, _, hO5, hr1, hr2⟩
        have HO5 := Lib.hid ((HO.out.trans hO4).trans' hO5 (S := fun _ => False) (fun i hi e => by omega))
        have HR : Hid (chk l = r) := Lib.hid (by
          cases r
          · have := (hr2 rfl).1
            cases h : chk l
            · rfl
            · exact absurd (HC.out.1 h) this
          · exact HC.out.2 (hr1 rfl))
        clear hr1 hr2 hO5 hE hO4 hOq hq hO3 hS3 hM3 hA3 hO2 hA2 hO1 hA1 hM1 hsa hsb hsc
        go_wp2
        go_ret2
        exact ⟨by rw [HR.out, HC2.out]; rfl, HO5.out⟩
end Go.Proofs.Ytgedinpafnfmmaa
