/- Queue: the law QueueOrder, walked. -/
import Derived.Test.YtgaikacjophngaaQ
import Derived.BigQuiet
namespace Go.Proofs.Ytgaikacjophngaa
open Go.RowKit

def ordJ (l : List Int) (i : Nat) : Jb := ⟨0, l.getD i 0, 0, i, [(i : Int)]⟩
def ordA (l : List Int) (k : Nat) : List Jb := (List.range k).map (ordJ l)
theorem ordA_succ (l : List Int) (k : Nat) : ordA l (k + 1) = ordA l k ++ [ordJ l k] := by simp [ordA, List.range_succ]
theorem ordA_len (l : List Int) (k : Nat) : (ordA l k).length = k := by simp [ordA]
theorem ordA_drop (l : List Int) (M i : Nat) (h : i < M) : (ordA l M).drop i = ordJ l i :: (ordA l M).drop (i + 1) := by
  rw [List.drop_eq_getElem_cons (by rw [ordA_len]; exact h)]
  congr 1
  simp [ordA]

theorem updA_self (a : Nat → List Jb) (n : Nat) (l : List Jb) : updA a n l n = l := by simp [updA]
theorem updA_ne (a : Nat → List Jb) (n i : Nat) (l : List Jb) (h : i ≠ n) : updA a n l i = a i := by simp [updA, h]

/-- What QueueOrder keeps. -/
structure Ord (B b : Nat) (l : List Int) (k : Nat) (w0 w : World) : Prop where
  q : ∃ a, QI B w b 4 a ∧ a 2 = ordA l k ∧ ∀ i, i < 4 → (a i).length ≤ k
  only : Only (fun _ => False) w0 w

theorem getD_lt' (l : List Int) (k : Nat) (h : k < l.length) : l.getD k 0 = l[k] := by simp [List.getD, h]

set_option maxRecDepth 100000 in
set_option maxHeartbeats 8000000 in
theorem queueOrder_walk (l : List Int) (g c : Nat) (A : Option Addr) (os : List Opq) (gA cA : Nat) (A' : Option Addr) (w : World) (hr : Rd w g A (iv l)) (hlen : l.length ≤ 9223372036854775807) (hro : Rd w gA A' (ov os)) (hok : ∀ o ∈ os, o.Ok w) (holen : os.length ≤ 9223372036854775807) :
    Calls Try.prog 3 #[.slice A l.length c, .slice A' os.length cA] w fun e w' => e = .returned (.bool true) ∧ Below w.heap.size w w' := by
  have HR := Lib.hid hr
  have HRO := Lib.hid hro
  have HOK := Lib.hid hok
  clear hr hro hok
  have HN := Lib.hid (fun (w' : World) (h : w.heap.size ≤ w'.heap.size) => (qi_new 4 (by omega) (by omega) w.heap.size w' h : Calls Try.prog 9 #[.int .i64 4] w' _))
  obtain ⟨M, hM⟩ : ∃ M, M = min l.length 100 := ⟨_, rfl⟩
  have hM1 : M ≤ l.length := by omega
  have hM2 : M ≤ 100 := by omega
  have HM := Lib.hid hM
  clear hM
  go_enter Try.func3, Try.ntmps3
  go_wp2_with (fail)
  refine (awake_any _).mono ?_
  rintro e w1 ⟨rfl, hO⟩
  have HO := Lib.hid hO
  clear hO
  go_wp2_with (fail)
  refine (HN.out _ HO.out.size).mono ?_
  rintro e w2 ⟨b, rfl, hq, hO⟩
  have HT0 : Hid (Ord w.heap.size b l 0 w w2) := Lib.hid ⟨⟨_, hq, rfl, fun i _ => by simp⟩, HO.out.trans hO⟩
  clear hq hO HO HN
  go_wp2
  go_loopw [8, 9] (fun v8 v9 wr => ∃ k : Nat, k ≤ M ∧ v9 = .int .i64 k ∧ v8 = .int .i64 k ∧ Ord w.heap.size b l k w wr) (fun v8 v9 wr => (M - intOf v9).toNat)
  case atStart => exact ⟨0, by omega, rfl, rfl, HT0.out⟩
  case round =>
    obtain ⟨k, hk, rfl, rfl, hT⟩ := hrel
    have HT := Lib.hid hT
    clear hT HT0
    by_cases hkm : k < M
    · have hkl : k < l.length := by omega
      have i1 : (k : Int) < l.length := by omega
      have i2 : (k : Int) < 100 := by omega
      have i0 : (0 : Int) ≤ k := by omega
      have hne : iv l ≠ [] := by
        intro e
        have := iv_len l
        rw [e] at this; simp at this; omega
      obtain ⟨off, rfl, hlt, hget⟩ := (HR.out.only HT.out.only id).at hne
      have ck := hget k _ (iv_get l k hkl)
      obtain ⟨a, hq, ha2, hal⟩ := HT.out.q
      have hA1 := (Only.refl (fun _ => False) wr).alloc (.cells #[.int .i64 (k : Int)] 3)
      have hrn : Rd (wr.alloc (.cells #[.int .i64 (k : Int)] 3)) wr.heap.size (some ⟨wr.heap.size, 0, none⟩) (iv [(k : Int)]) :=
        .inr ⟨0, rfl, by simp, fun j u hj => by rw [(At.new wr 3 #[.int .i64 (k : Int)]).cell]; simpa [iv] using hj⟩
      have hP := qi_put 2 (hq.quiet hA1) (Nat.le_trans HT.out.only.size hA1.size) (by omega) 0 l[k] 0 k [(k : Int)] (some ⟨wr.heap.size, 0, none⟩) 1 wr.heap.size hrn (by simp) (by have := hal 2 (by omega); omega)
      have hjj : (⟨0, l[k], 0, (k : Int), [(k : Int)]⟩ : Jb) = ordJ l k := by rw [ordJ, getD_lt' l k hkl]
      rw [hjj, ha2, ← ordA_succ] at hP
      have HP := Lib.hid hP
      have HA := Lib.hid hal
      clear hP hq ha2 hal hjj hget hrn
      generalize l[k] = z at *
      go_wp2_with (fail)
      refine HP.out.mono ?_
      rintro e w3 ⟨rfl, hq, hO⟩
      have HQ3 := Lib.hid hq
      have HO3 := Lib.hid ((HT.out.only.trans hA1).trans' hO (S := fun _ => False) (fun i hi h => by omega))
      have HT3 : Hid (Ord w.heap.size b l (k + 1) w w3) := Lib.hid ⟨⟨_, hq, updA_self _ _ _, fun i hi => by
        by_cases h2 : i = 2
        · subst h2; rw [updA_self, ordA_len]; omega
        · rw [updA_ne _ _ _ _ h2]; have := HA.out i hi; omega⟩, HO3.out⟩
      have HL3 : Hid (∀ i, i < 4 → (updA a 2 (ordA l (k + 1)) i).length ≤ k + 1) := Lib.hid (fun i hi => by
        by_cases h2 : i = 2
        · subst h2; rw [updA_self, ordA_len]; omega
        · rw [updA_ne _ _ _ _ h2]; have := HA.out i hi; omega)
      have HAL := HA
      clear hq hO HP HA ck HT hA1
      by_cases hko : k < os.length
      · obtain ⟨offo, rfl, hgA, d0, d1, d2, d3, d4, d5, d6⟩ := op_cells HRO.out HO3.out hko
        have hoo := HOK.out _ (List.getElem_mem hko)
        have hko' : (k : Int) < os.length := by omega
        generalize os[k] = o at *
        obtain ⟨d, cc, ⟨jk, jl, ju, jp, pos⟩, Ao, cap⟩ := o
        simp only at d0 d1 d2 d3 d4 d5 d6
        obtain ⟨⟨gr, hrd⟩, hpl⟩ := hoo
        simp only at hrd hpl
        have HRD := Lib.hid (hrd.only HO3.out id)
        clear hrd
        by_cases hp : pos.length ≤ 100
        · have hp' : (pos.length : Int) ≤ 100 := by omega
          by_cases hc2 : cc = 2
          · subst hc2
            have t2 : ((2 : Int) != 2) = false := rfl
            go_wp2
            go_roundw
            case rel => exact ⟨k + 1, by omega, by simp, by simp, HT3.out⟩
            case measure => simp [intOf]; omega
          · have t2 : (cc != 2) = true := by simpa using hc2
            by_cases hd : d < 2
            · have HPQ : Hid (Calls Try.prog 10 #[.pointer (some ⟨b, 0, none⟩), .int .i64 cc, .agg #[.int .i64 jk, .int .i64 jl, .int .i64 ju, .int .i64 jp, .slice Ao pos.length cap]] w3.drew fun e w' => (∃ z : Int, e = .returned (.int .i64 z)) ∧ Ord w.heap.size b l (k + 1) w w') := Lib.hid (by
                by_cases hin : cc < 0 ∨ ((4 : Nat) : Int) ≤ cc
                · refine (qi_put_out cc hin _ _ _ _ _ (HQ3.out.quiet (Only.refl _ _).drew)).mono ?_
                  rintro e w' ⟨rfl, hO⟩
                  exact ⟨⟨_, rfl⟩, ⟨_, (HQ3.out.quiet (Only.refl _ _).drew).quiet hO, updA_self _ _ _, HL3.out⟩, HO3.out.drew.trans hO⟩
                · obtain ⟨n, rfl⟩ : ∃ n : Nat, cc = n := ⟨cc.toNat, by omega⟩
                  have hn2 : n ≠ 2 := by omega
                  have hn4 : n < 4 := by omega
                  refine (qi_put n (HQ3.out.quiet (Only.refl _ _).drew) HO3.out.size (by omega) jk jl ju jp pos Ao cap gr (HRD.out.only (Only.refl (fun _ => False) _).drew id) (by omega) (by have := HL3.out n hn4; omega)).mono ?_
                  rintro e w' ⟨rfl, hq, hO⟩
                  refine ⟨⟨_, rfl⟩, ⟨_, hq, by rw [updA_ne _ _ _ _ (Ne.symm hn2), updA_self], fun i hi => ?_⟩, HO3.out.drew.trans' hO (fun i hi h => by omega)⟩
                  by_cases h2 : i = n
                  · subst h2; rw [updA_self, updA_ne _ _ _ _ hn2, List.length_append]; have := HAL.out i hi; simp; omega
                  · rw [updA_ne _ _ _ _ h2]; exact HL3.out i hi)
              go_wp2_with (fail)
              refine wp_region_held_drew (S := (fun W => (W.cell? ⟨gA, offo + k * 7 + 1, none⟩ = some (.int .i64 cc) ∧ W.cell? ⟨gA, offo + k * 7 + 2, none⟩ = some (.int .i64 jk) ∧ W.cell? ⟨gA, offo + k * 7 + 3, none⟩ = some (.int .i64 jl)) ∧ (W.cell? ⟨gA, offo + k * 7 + 4, none⟩ = some (.int .i64 ju) ∧ W.cell? ⟨gA, offo + k * 7 + 5, none⟩ = some (.int .i64 jp) ∧ W.cell? ⟨gA, offo + k * 7 + 6, none⟩ = some (.slice Ao pos.length cap)))) (by kernel_rfl) ?_ (fun hHeld => ?_)
              · exact ⟨⟨d1, d2, d3⟩, d4, d5, d6⟩
              refine wpAnyH_take (i := 0) (oi := { dst := some 77, op := Op.move (Operand.tmp 6), type := 25, pos := "law.go:100", after := #[], guard := none }) (v := ?_) rfl (by kernel_rfl) (by kernel_rfl) (by kernel_rfl) (fun _ _ _ h => h) (Or.inl ⟨by rfl, ?_⟩) (by assumption) ?_
              rotate_left
              · (intro w hSw; (try dsimp only at hSw); (try obtain ⟨hSa, hSb⟩ := hSw); go_simp; try with_reducible rfl)
              try simp only [Act.put, List.setIfInBounds_toArray, List.set_cons_zero, List.set_cons_succ]
              refine wpAnyH_take (i := 1) (oi := { dst := some 78, op := Op.move (Operand.tmp 1), type := 23, pos := "law.go:100", after := #[], guard := none }) (v := ?_) rfl (by kernel_rfl) (by kernel_rfl) (by kernel_rfl) (fun _ _ _ h => h) (Or.inl ⟨by rfl, ?_⟩) (by assumption) ?_
              rotate_left
              · (intro w hSw; (try dsimp only at hSw); (try obtain ⟨hSa, hSb⟩ := hSw); go_simp; try with_reducible rfl)
              try simp only [Act.put, List.setIfInBounds_toArray, List.set_cons_zero, List.set_cons_succ]
              refine wpAnyH_take (i := 2) (oi := { dst := some 79, op := Op.move (Operand.tmp 8), type := 3, pos := "law.go:100", after := #[], guard := none }) (v := ?_) rfl (by kernel_rfl) (by kernel_rfl) (by kernel_rfl) (fun _ _ _ h => h) (Or.inl ⟨by rfl, ?_⟩) (by assumption) ?_
              rotate_left
              · (intro w hSw; (try dsimp only at hSw); (try obtain ⟨hSa, hSb⟩ := hSw); go_simp; try with_reducible rfl)
              try simp only [Act.put, List.setIfInBounds_toArray, List.set_cons_zero, List.set_cons_succ]
              refine wpAnyH_take (i := 3) (oi := { dst := some 80, op := Op.indexAddr 23 (Operand.tmp 78) (Operand.tmp 79), type := 0, pos := "law.go:100", after := #[{ on := 1, ground := Ground.data }, { on := 2, ground := Ground.data }], guard := none }) (v := ?_) rfl (by kernel_rfl) (by kernel_rfl) (by kernel_rfl) (fun _ _ _ h => h) (Or.inl ⟨by rfl, ?_⟩) (by assumption) ?_
              rotate_left
              · (intro w hSw; (try dsimp only at hSw); (try obtain ⟨hSa, hSb⟩ := hSw); go_simp; try with_reducible rfl)
              try simp only [Act.put, List.setIfInBounds_toArray, List.set_cons_zero, List.set_cons_succ]
              refine wpAnyH_take (i := 4) (oi := { dst := some 81, op := Op.fieldAddr 33 (Operand.tmp 80) 1, type := 0, pos := "law.go:100", after := #[{ on := 3, ground := Ground.data }], guard := none }) (v := ?_) rfl (by kernel_rfl) (by kernel_rfl) (by kernel_rfl) (fun _ _ _ h => h) (Or.inl ⟨by rfl, ?_⟩) (by assumption) ?_
              rotate_left
              · (intro w hSw; (try dsimp only at hSw); (try obtain ⟨hSa, hSb⟩ := hSw); go_simp; try with_reducible rfl)
              try simp only [Act.put, List.setIfInBounds_toArray, List.set_cons_zero, List.set_cons_succ]
              refine wpAnyH_take (i := 5) (oi := { dst := some 82, op := Op.load 3 (Operand.tmp 81), type := 3, pos := "law.go:100", after := #[{ on := 4, ground := Ground.data }], guard := none }) (v := ?_) rfl (by kernel_rfl) (by kernel_rfl) (by kernel_rfl) (fun _ _ _ h => h) (Or.inl ⟨by rfl, ?_⟩) (by assumption) ?_
              rotate_left
              · (intro w hSw; (try dsimp only at hSw); (try obtain ⟨hSa, hSb⟩ := hSw); go_simp; try with_reducible rfl)
              try simp only [Act.put, List.setIfInBounds_toArray, List.set_cons_zero, List.set_cons_succ]
              refine wpAnyH_take (i := 6) (oi := { dst := some 83, op := Op.move (Operand.tmp 1), type := 23, pos := "law.go:100", after := #[], guard := none }) (v := ?_) rfl (by kernel_rfl) (by kernel_rfl) (by kernel_rfl) (fun _ _ _ h => h) (Or.inl ⟨by rfl, ?_⟩) (by assumption) ?_
              rotate_left
              · (intro w hSw; (try dsimp only at hSw); (try obtain ⟨hSa, hSb⟩ := hSw); go_simp; try with_reducible rfl)
              try simp only [Act.put, List.setIfInBounds_toArray, List.set_cons_zero, List.set_cons_succ]
              refine wpAnyH_take (i := 7) (oi := { dst := some 84, op := Op.move (Operand.tmp 8), type := 3, pos := "law.go:100", after := #[], guard := none }) (v := ?_) rfl (by kernel_rfl) (by kernel_rfl) (by kernel_rfl) (fun _ _ _ h => h) (Or.inl ⟨by rfl, ?_⟩) (by assumption) ?_
              rotate_left
              · (intro w hSw; (try dsimp only at hSw); (try obtain ⟨hSa, hSb⟩ := hSw); go_simp; try with_reducible rfl)
              try simp only [Act.put, List.setIfInBounds_toArray, List.set_cons_zero, List.set_cons_succ]
              refine wpAnyH_take (i := 8) (oi := { dst := some 85, op := Op.indexAddr 23 (Operand.tmp 83) (Operand.tmp 84), type := 0, pos := "law.go:100", after := #[{ on := 6, ground := Ground.data }, { on := 7, ground := Ground.data }], guard := none }) (v := ?_) rfl (by kernel_rfl) (by kernel_rfl) (by kernel_rfl) (fun _ _ _ h => h) (Or.inl ⟨by rfl, ?_⟩) (by assumption) ?_
              rotate_left
              · (intro w hSw; (try dsimp only at hSw); (try obtain ⟨hSa, hSb⟩ := hSw); go_simp; try with_reducible rfl)
              try simp only [Act.put, List.setIfInBounds_toArray, List.set_cons_zero, List.set_cons_succ]
              refine wpAnyH_take (i := 9) (oi := { dst := some 86, op := Op.fieldAddr 33 (Operand.tmp 85) 2, type := 0, pos := "law.go:100", after := #[{ on := 8, ground := Ground.data }], guard := none }) (v := ?_) rfl (by kernel_rfl) (by kernel_rfl) (by kernel_rfl) (fun _ _ _ h => h) (Or.inl ⟨by rfl, ?_⟩) (by assumption) ?_
              rotate_left
              · (intro w hSw; (try dsimp only at hSw); (try obtain ⟨hSa, hSb⟩ := hSw); go_simp; try with_reducible rfl)
              try simp only [Act.put, List.setIfInBounds_toArray, List.set_cons_zero, List.set_cons_succ]
              refine wpAnyH_take (i := 10) (oi := { dst := some 87, op := Op.load 31 (Operand.tmp 86), type := 31, pos := "law.go:100", after := #[{ on := 9, ground := Ground.data }], guard := none }) (v := ?_) rfl (by kernel_rfl) (by kernel_rfl) (by kernel_rfl) (fun _ _ _ h => h) (Or.inl ⟨by rfl, ?_⟩) (by assumption) ?_
              rotate_left
              · (intro w hSw; (try dsimp only at hSw); (try obtain ⟨hSa, hSb⟩ := hSw); go_simp; try with_reducible rfl)
              try simp only [Act.put, List.setIfInBounds_toArray, List.set_cons_zero, List.set_cons_succ]
              refine wpAnyH_ready (rs := [11]) (by kernel_rfl) (by simp) ?_
              refine AllReadyH.cons (o := { dst := some 88, op := Op.call { callee := Callee.value (Operand.func 10), args := #[Operand.tmp 77, Operand.tmp 82, Operand.tmp 87], argTypes := #[25, 3, 31] }, type := 26, pos := "law.go:100", after := #[{ on := 0, ground := Ground.data }, { on := 5, ground := Ground.data }, { on := 10, ground := Ground.data }], guard := none }) rfl (fun K hK => ?_) AllReadyH.nil
              go_simp
              (go_at_call 10; refine HPQ.out.mono ?_; rintro e wy ⟨⟨zr, rfl⟩, hT4⟩; have HKC := Lib.hid (fun i => ((hT4.only.cell (p := ⟨gA, i, none⟩) hgA id).trans (HO3.out.cell (p := ⟨gA, i, none⟩) hgA id).symm : wy.cell? ⟨gA, i, none⟩ = w3.cell? ⟨gA, i, none⟩)); have HT4 := Lib.hid hT4; clear hT4; try simp only [])
              refine hK.out _ _ ?_ (fun hHeld => ?_)
              · exact ⟨⟨(HKC.out _).trans d1, (HKC.out _).trans d2, (HKC.out _).trans d3⟩, (HKC.out _).trans d4, (HKC.out _).trans d5, (HKC.out _).trans d6⟩
              clear hK K
              try simp only [Act.put, List.setIfInBounds_toArray, List.set_cons_zero, List.set_cons_succ]
              refine wpAnyH_done (by kernel_rfl) ?_ _
              go_wp2
              have HT3 := HT4
              go_roundw
              case rel => exact ⟨k + 1, by omega, by simp, by simp, HT3.out⟩
              case measure => simp [intOf]; omega
            · have HPP : Hid (Calls Try.prog 11 #[.pointer (some ⟨b, 0, none⟩), .int .i64 cc] w3 fun e w' => (∃ v : Value, e = .returned v) ∧ Ord w.heap.size b l (k + 1) w w') := Lib.hid (by
                by_cases hin : isInA 4 (updA a 2 (ordA l (k + 1))) cc
                · obtain ⟨h0, h4, hnn⟩ := hin
                  obtain ⟨n, rfl⟩ : ∃ n : Nat, cc = n := ⟨cc.toNat, by omega⟩
                  have hn2 : n ≠ 2 := by omega
                  have hn4 : n < 4 := by omega
                  simp only [Int.toNat_natCast] at hnn
                  rcases hj : updA a 2 (ordA l (k + 1)) n with _ | ⟨j, r⟩
                  · exact absurd hj hnn
                  · refine (qi_pop n HQ3.out (by omega) j r hj (by have := HL3.out n hn4; omega)).mono ?_
                    rintro e w' ⟨Aj, cj, gp, rfl, _, _, _, hq, hO⟩
                    refine ⟨⟨_, rfl⟩, ⟨_, hq, by rw [updA_ne _ _ _ _ (Ne.symm hn2), updA_self], fun i hi => ?_⟩, HO3.out.trans' hO (fun i hi h => by omega)⟩
                    by_cases h2 : i = n
                    · subst h2; rw [updA_self]; have := HL3.out i hi; rw [hj] at this; simp at this; omega
                    · rw [updA_ne _ _ _ _ h2]; exact HL3.out i hi
                · refine (qi_pop_none cc HQ3.out hin).mono ?_
                  rintro e w' ⟨rfl, hO⟩
                  exact ⟨⟨_, rfl⟩, ⟨_, HQ3.out.quiet hO, updA_self _ _ _, HL3.out⟩, HO3.out.trans hO⟩)
              go_wp2_with (fail)
              refine HPP.out.mono ?_
              rintro e w4 ⟨⟨v, rfl⟩, hT4⟩
              have HT3 := Lib.hid hT4
              clear hT4
              go_wp2
              go_roundw
              case rel => exact ⟨k + 1, by omega, by simp, by simp, HT3.out⟩
              case measure => simp [intOf]; omega
        · have hp' : decide ((pos.length : Int) ≤ 100) = false := by simp; omega
          go_wp2
          go_roundw
          case rel => exact ⟨k + 1, by omega, by simp, by simp, HT3.out⟩
          case measure => simp [intOf]; omega
      · have hko' : decide ((k : Int) < os.length) = false := by simp; omega
        go_wp2
        go_roundw
        case rel => exact ⟨k + 1, by omega, by simp, by simp, HT3.out⟩
        case measure => simp [intOf]; omega
    · have hkM : M = k := by omega
      subst hkM
      have hs : M = l.length ∨ (M = 100 ∧ 100 < l.length) := by have := HM.out; omega
      have hmin : min (l.length : Int) 100 = M := by have := HM.out; omega
      obtain ⟨a, hq, ha2, hal⟩ := HT.out.q
      have HQ2 := Lib.hid hq
      have HA2 := Lib.hid ha2
      have HAL := Lib.hid hal
      have HO := Lib.hid HT.out.only
      clear hq ha2 hal HT
      rcases hs with hs | ⟨hs, hs2⟩
      · have d4 : ¬ (100 : Int) < l.length := by omega
        have d1 : decide ((M : Int) < l.length) = false := by simp; omega
        have d2 : decide (M < l.length) = false := by simp; omega
        have d3 : True := trivial
        have HS := Lib.hid hs
        clear hs
        go_wp2
        try simp only [d1, d2, d3]
        obtain ⟨wo, rfl⟩ : ∃ wo : World, wo = wr := ⟨_, rfl⟩
        go_loopw [11] (fun v wr => ∃ (i : Nat) (a : Nat → List Jb), i ≤ M ∧ v = .int .i64 i ∧ QI w.heap.size wr b 4 a ∧ a 2 = (ordA l M).drop i ∧ Only (fun _ => False) w wr) (fun v wr => (M - intOf v).toNat)
        case atStart => exact ⟨0, a, by omega, rfl, HQ2.out, by rw [HA2.out]; rfl, HO.out⟩
        case round =>
          obtain ⟨i, a, hi, rfl, hq, ha, hO⟩ := hrel
          have HQ := Lib.hid hq
          have HO := Lib.hid hO
          have HAi := Lib.hid ha
          clear hq hO HQ2 HA2 HAL ha
          have hal : (a 2).length = M - i := by rw [HAi.out, List.length_drop, ordA_len]
          by_cases hiM : i < M
          · have hil : i < l.length := by omega
            have j1 : (i : Int) < l.length := by omega
            have j2 : (i : Int) < 100 := by omega
            have j0 : (0 : Int) ≤ i := by omega
            have hne : iv l ≠ [] := by
              intro e
              have := iv_len l
              rw [e] at this; simp at this; omega
            obtain ⟨off, hA, hlt, hget⟩ := HR.out.at hne
            have HCK := Lib.hid (fun (w3 : World) (hO : Only (fun _ => False) w w3) => ((hO.cell (p := ⟨g, off + i, none⟩) hlt id).trans (hget i _ (iv_get l i hil)) : w3.cell? ⟨g, off + i, none⟩ = some (.int .i64 l[i])))
            have HL := Lib.hid (qi_len 2 HQ.out (by omega) : Calls Try.prog 12 #[.pointer (some ⟨b, 0, none⟩), .int .i64 2] _ _)
            rw [hal, show ((M - i : Nat) : Int) = (M : Int) - i by omega] at HL
            have hh := (HAi.out).trans (ordA_drop l M i hiM)
            have hP := qi_pop 2 HQ.out (by omega) (ordJ l i) _ hh (by rw [hal]; omega)
            have hjj : ordJ l i = ⟨0, l[i], 0, (i : Int), [(i : Int)]⟩ := by rw [ordJ, getD_lt' l i hil]
            rw [hjj] at hP
            have HP := Lib.hid hP
            have tm : (((M : Int) - i) != ((M : Int) - i)) = false := by simp
            have tmx : (((M : Int) - i) != ((l.length : Int) - i)) = false := by have := HS.out; simp; omega
            have ti : ((i : Int) != (i : Int)) = false := by simp
            have HAA := Lib.hid hA
            rw [hA]
            clear hget hh hP hjj hA hal
            generalize l[i] = z at *
            have tz : (z != z) = false := by simp
            go_wp2_with (fail)
            refine HL.out.mono ?_
            rintro e w5 ⟨rfl, rfl⟩
            go_wp2_with (fail)
            refine HP.out.mono ?_
            rintro e w6 ⟨Aj, cj, gp, rfl, hrow, hAj, hgp, hq6, hO6⟩
            have HO7 := Lib.hid ((HO.out.trans' hO6 (S := fun _ => False) (fun i hi h => by omega)).alloc (.cells #[.int .i64 0, .int .i64 z, .int .i64 0, .int .i64 (i : Int), .slice Aj 1 cj] 31))
            have HQ7 := Lib.hid (hq6.quiet ((Only.refl _ _).alloc (.cells #[.int .i64 0, .int .i64 z, .int .i64 0, .int .i64 (i : Int), .slice Aj 1 cj] 31)))
            have HX7 := At.new w6 31 #[.int .i64 0, .int .i64 z, .int .i64 0, .int .i64 (i : Int), .slice Aj 1 cj]
            have y1 : (w6.alloc (.cells #[.int .i64 0, .int .i64 z, .int .i64 0, .int .i64 (i : Int), .slice Aj 1 cj] 31)).cell? ⟨w6.heap.size, 1, none⟩ = some (.int .i64 z) := HX7.cell 1
            have y3 : (w6.alloc (.cells #[.int .i64 0, .int .i64 z, .int .i64 0, .int .i64 (i : Int), .slice Aj 1 cj] 31)).cell? ⟨w6.heap.size, 3, none⟩ = some (.int .i64 (i : Int)) := HX7.cell 3
            have ck := HCK.out _ HO7.out
            obtain ⟨offj, rfl, cj0, _⟩ := row_cell (m := 0) (hrow.only ((Only.refl (fun _ => False) w6).alloc (.cells #[.int .i64 0, .int .i64 z, .int .i64 0, .int .i64 (i : Int), .slice Aj 1 cj] 31)) (fun _ => id)) (by simp)
            have y4 : (w6.alloc (.cells #[.int .i64 0, .int .i64 z, .int .i64 0, .int .i64 (i : Int), .slice (some ⟨gp, offj, none⟩) 1 cj] 31)).cell? ⟨w6.heap.size, 4, none⟩ = some (.slice (some ⟨gp, offj, none⟩) 1 cj) := HX7.cell 4
            simp only [Nat.add_zero, List.getElem_cons_zero] at cj0
            simp only [List.length_cons, List.length_nil, Nat.zero_add]
            clear hrow hq6 hO6 HP HX7
            go_wp2_with (fail)
            go_quiet (fail)
            go_wp2
            go_roundw
            case rel => exact ⟨i + 1, _, by omega, by simp, HQ7.out.quiet ((Only.refl _ _).drewN _), by simp [updA], HO7.out.drewN _⟩
            case measure => simp [intOf]; omega
          · obtain rfl : i = M := by omega
            have hnone : ¬ isInA 4 a 2 := fun ⟨_, _, h⟩ => h (by
              have : (a 2).length = 0 := by rw [hal]; omega
              exact List.eq_nil_of_length_eq_zero this)
            have HPN := Lib.hid (qi_pop_none 2 HQ.out hnone)
            clear hnone
            go_wp2_with (fail)
            refine HPN.out.mono ?_
            rintro e w5 ⟨rfl, hO5⟩
            have HO5 := Lib.hid ((HO.out.trans hO5).alloc (.cells #[.int .i64 0, .int .i64 0, .int .i64 0, .int .i64 0, .slice none 0 0] 31))
            clear hO5
            simp only [zeroJob]
            go_wp2
            go_ret
            exact ⟨rfl, HO5.out.below (Nat.le_refl _) (fun i hi h => h)⟩
      · have d4 : (100 : Int) < l.length := by omega
        have d0 : (M : Int) < l.length := by omega
        have d1 : decide ((M : Int) < 100) = false := by simp; omega
        have d2 : decide (M < 100) = false := by simp; omega
        have d3 : True := trivial
        have HS := Lib.hid (And.intro hs hs2)
        clear hs hs2
        go_wp2
        try simp only [d1, d2, d3]
        obtain ⟨wo, rfl⟩ : ∃ wo : World, wo = wr := ⟨_, rfl⟩
        go_loopw [11] (fun v wr => ∃ (i : Nat) (a : Nat → List Jb), i ≤ M ∧ v = .int .i64 i ∧ QI w.heap.size wr b 4 a ∧ a 2 = (ordA l M).drop i ∧ Only (fun _ => False) w wr) (fun v wr => (M - intOf v).toNat)
        case atStart => exact ⟨0, a, by omega, rfl, HQ2.out, by rw [HA2.out]; rfl, HO.out⟩
        case round =>
          obtain ⟨i, a, hi, rfl, hq, ha, hO⟩ := hrel
          have HQ := Lib.hid hq
          have HO := Lib.hid hO
          have HAi := Lib.hid ha
          clear hq hO HQ2 HA2 HAL ha
          have hal : (a 2).length = M - i := by rw [HAi.out, List.length_drop, ordA_len]
          by_cases hiM : i < M
          · have hil : i < l.length := by omega
            have j1 : (i : Int) < l.length := by omega
            have j2 : (i : Int) < 100 := by omega
            have j0 : (0 : Int) ≤ i := by omega
            have hne : iv l ≠ [] := by
              intro e
              have := iv_len l
              rw [e] at this; simp at this; omega
            obtain ⟨off, hA, hlt, hget⟩ := HR.out.at hne
            have HCK := Lib.hid (fun (w3 : World) (hO : Only (fun _ => False) w w3) => ((hO.cell (p := ⟨g, off + i, none⟩) hlt id).trans (hget i _ (iv_get l i hil)) : w3.cell? ⟨g, off + i, none⟩ = some (.int .i64 l[i])))
            have HL := Lib.hid (qi_len 2 HQ.out (by omega) : Calls Try.prog 12 #[.pointer (some ⟨b, 0, none⟩), .int .i64 2] _ _)
            rw [hal, show ((M - i : Nat) : Int) = (M : Int) - i by omega] at HL
            have hh := (HAi.out).trans (ordA_drop l M i hiM)
            have hP := qi_pop 2 HQ.out (by omega) (ordJ l i) _ hh (by rw [hal]; omega)
            have hjj : ordJ l i = ⟨0, l[i], 0, (i : Int), [(i : Int)]⟩ := by rw [ordJ, getD_lt' l i hil]
            rw [hjj] at hP
            have HP := Lib.hid hP
            have tm : (((M : Int) - i) != ((M : Int) - i)) = false := by simp
            have tmx : (((M : Int) - i) != ((100 : Int) - i)) = false := by have := HS.out; simp; omega
            have ti : ((i : Int) != (i : Int)) = false := by simp
            have HAA := Lib.hid hA
            rw [hA]
            clear hget hh hP hjj hA hal
            generalize l[i] = z at *
            have tz : (z != z) = false := by simp
            go_wp2_with (fail)
            refine HL.out.mono ?_
            rintro e w5 ⟨rfl, rfl⟩
            go_wp2_with (fail)
            refine HP.out.mono ?_
            rintro e w6 ⟨Aj, cj, gp, rfl, hrow, hAj, hgp, hq6, hO6⟩
            have HO7 := Lib.hid ((HO.out.trans' hO6 (S := fun _ => False) (fun i hi h => by omega)).alloc (.cells #[.int .i64 0, .int .i64 z, .int .i64 0, .int .i64 (i : Int), .slice Aj 1 cj] 31))
            have HQ7 := Lib.hid (hq6.quiet ((Only.refl _ _).alloc (.cells #[.int .i64 0, .int .i64 z, .int .i64 0, .int .i64 (i : Int), .slice Aj 1 cj] 31)))
            have HX7 := At.new w6 31 #[.int .i64 0, .int .i64 z, .int .i64 0, .int .i64 (i : Int), .slice Aj 1 cj]
            have y1 : (w6.alloc (.cells #[.int .i64 0, .int .i64 z, .int .i64 0, .int .i64 (i : Int), .slice Aj 1 cj] 31)).cell? ⟨w6.heap.size, 1, none⟩ = some (.int .i64 z) := HX7.cell 1
            have y3 : (w6.alloc (.cells #[.int .i64 0, .int .i64 z, .int .i64 0, .int .i64 (i : Int), .slice Aj 1 cj] 31)).cell? ⟨w6.heap.size, 3, none⟩ = some (.int .i64 (i : Int)) := HX7.cell 3
            have ck := HCK.out _ HO7.out
            obtain ⟨offj, rfl, cj0, _⟩ := row_cell (m := 0) (hrow.only ((Only.refl (fun _ => False) w6).alloc (.cells #[.int .i64 0, .int .i64 z, .int .i64 0, .int .i64 (i : Int), .slice Aj 1 cj] 31)) (fun _ => id)) (by simp)
            have y4 : (w6.alloc (.cells #[.int .i64 0, .int .i64 z, .int .i64 0, .int .i64 (i : Int), .slice (some ⟨gp, offj, none⟩) 1 cj] 31)).cell? ⟨w6.heap.size, 4, none⟩ = some (.slice (some ⟨gp, offj, none⟩) 1 cj) := HX7.cell 4
            simp only [Nat.add_zero, List.getElem_cons_zero] at cj0
            simp only [List.length_cons, List.length_nil, Nat.zero_add]
            clear hrow hq6 hO6 HP HX7
            go_wp2_with (fail)
            go_quiet (fail)
            go_wp2
            go_roundw
            case rel => exact ⟨i + 1, _, by omega, by simp, HQ7.out.quiet ((Only.refl _ _).drewN _), by simp [updA], HO7.out.drewN _⟩
            case measure => simp [intOf]; omega
          · obtain rfl : i = M := by omega
            have hnone : ¬ isInA 4 a 2 := fun ⟨_, _, h⟩ => h (by
              have : (a 2).length = 0 := by rw [hal]; omega
              exact List.eq_nil_of_length_eq_zero this)
            have HPN := Lib.hid (qi_pop_none 2 HQ.out hnone)
            clear hnone
            go_wp2_with (fail)
            refine HPN.out.mono ?_
            rintro e w5 ⟨rfl, hO5⟩
            have HO5 := Lib.hid ((HO.out.trans hO5).alloc (.cells #[.int .i64 0, .int .i64 0, .int .i64 0, .int .i64 0, .slice none 0 0] 31))
            clear hO5
            simp only [zeroJob]
            go_wp2
            go_ret
            exact ⟨rfl, HO5.out.below (Nat.le_refl _) (fun i hi h => h)⟩
end Go.Proofs.Ytgaikacjophngaa
