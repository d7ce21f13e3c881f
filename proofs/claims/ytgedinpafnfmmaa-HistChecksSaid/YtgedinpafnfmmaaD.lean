/- Hist: the search. -/
import Derived.Test.YtgedinpafnfmmaaC
namespace Go.Proofs.Ytgedinpafnfmmaa
open Go.RowKit

/-- The operations that are over, as bits, of the first k. -/
def ovTo (l : List Dd) : Nat → Nat
  | 0 => 0
  | k + 1 => if (gt l k).e = -1 then ovTo l k else ovTo l k ||| 1 <<< k
def over (l : List Dd) : Nat := ovTo l l.length
theorem ovTo_lt (l : List Dd) (k : Nat) (hk : k ≤ 10) : ovTo l k < 2 ^ 10 := by
  induction k with
  | zero => simp [ovTo]
  | succ k ih =>
    simp only [ovTo]
    split
    · exact ih (by omega)
    · refine Nat.or_lt_two_pow (ih (by omega)) ?_
      rw [Nat.one_shiftLeft]
      exact Nat.pow_lt_pow_right (by omega) (by omega)
theorem ovTo_bit (l : List Dd) (k j : Nat) : (ovTo l k).testBit j = (decide (j < k) && !((gt l j).e == -1)) := by
  induction k with
  | zero => simp [ovTo]
  | succ k ih =>
    simp only [ovTo]
    by_cases hj : j = k
    · subst hj
      split
      · rename_i h; rw [ih]; simp [h]
      · rename_i h; rw [Nat.testBit_or, ih]; simp [h]
    · have hjk : decide (j < k + 1) = decide (j < k) := by apply decide_eq_decide.2; omega
      split
      · rw [ih, hjk]
      · rw [Nat.testBit_or, ih, hjk]
        have : (1 <<< k).testBit j = false := by
          rw [Nat.one_shiftLeft, Nat.testBit_two_pow]; simp; omega
        simp [this]

/-- Can what was not done follow, if the sector has a value? -/
inductive Can (l : List Dd) : Nat → Int → Prop
  | done {d : Nat} {v : Int} : d &&& over l = over l → Can l d v
  | step {d : Nat} {v : Int} (i : Nat) : i < l.length → nxt l d v i = true → Can l (d ||| 1 <<< i) (gt l i).v → Can l d v

theorem nxt_bit {l : List Dd} {d i : Nat} {v : Int} (h : nxt l d v i = true) : d.testBit i = false := by
  simp [nxt] at h
  exact h.2.1
theorem or_gt {d i : Nat} (h : d.testBit i = false) : d < d ||| 1 <<< i := by
  have h1 : d ≤ d ||| 1 <<< i := Nat.left_le_or
  have h2 : d ≠ d ||| 1 <<< i := by
    intro e
    have := congrArg (·.testBit i) e
    simp [Nat.testBit_or, h] at this
  omega
theorem or_lt {d i : Nat} (hd : d < 1024) (hi : i < 10) : d ||| 1 <<< i < 1024 := by
  refine Nat.or_lt_two_pow (n := 10) hd ?_
  rw [Nat.one_shiftLeft]
  exact Nat.pow_lt_pow_right (by omega) hi

/-- The search's surroundings. -/
structure Env (w : World) (bo bs bl bn bq mb g c : Nat) (A : Option Addr) (l : List Dd) : Prop where
  o : At w bo 3 #[.int .i64 (over l)]
  s : At w bs 40 #[.map (some mb)]
  la : At w bl 22 #[.slice A l.length c]
  n : At w bn 39 #[.func (.func 14) #[] #[.pointer (some ⟨bl, 0, none⟩)]]
  q : At w bq 41 #[.func (.func 15) #[] #[.pointer (some ⟨bo, 0, none⟩), .pointer (some ⟨bs, 0, none⟩), .pointer (some ⟨bl, 0, none⟩), .pointer (some ⟨bn, 0, none⟩), .pointer (some ⟨bq, 0, none⟩)]]
  rd : Rd w g A (dv l)
  hg : g ≠ mb

theorem At.neMap {w : World} {g b : Nat} {t : TypeId} {cs : Array Value} {S : Int → Int → Prop} (h : At w g t cs) (m : MapAt w b S) : g ≠ b := by
  rintro rfl
  obtain ⟨es, cl, hm, _⟩ := m
  unfold At at h
  rw [h] at hm
  injection hm with hm
  cases hm

theorem Env.only {w w' : World} {bo bs bl bn bq mb g c : Nat} {A : Option Addr} {l : List Dd} {S : Int → Int → Prop} (E : Env w bo bs bl bn bq mb g c A l) (m : MapAt w mb S) (k : Only (fun i => i = mb) w w') :
    Env w' bo bs bl bn bq mb g c A l :=
  ⟨E.o.only k (E.o.neMap m), E.s.only k (E.s.neMap m), E.la.only k (E.la.neMap m), E.n.only k (E.n.neMap m), E.q.only k (E.q.neMap m), E.rd.only k E.hg, E.hg⟩
theorem Env.quiet {w w' : World} {bo bs bl bn bq mb g c : Nat} {A : Option Addr} {l : List Dd} (E : Env w bo bs bl bn bq mb g c A l) (k : Only (fun _ => False) w w') :
    Env w' bo bs bl bn bq mb g c A l :=
  ⟨E.o.only k id, E.s.only k id, E.la.only k id, E.n.only k id, E.q.only k id, E.rd.only k id, E.hg⟩

def SearchPost (l : List Dd) (mb d : Nat) (v : Int) (S : Int → Int → Prop) (w : World) (e : Ending) (w' : World) : Prop :=
  ∃ (S' : Int → Int → Prop) (r : Bool), e = .returned (.bool r) ∧ MapAt w' mb S' ∧ Only (fun i => i = mb) w w' ∧
    (r = true → Can l d v) ∧ (r = false → ¬ Can l d v ∧ ∀ (d' : Nat) v', S' d' v' → S d' v' ∨ ¬ Can l d' v')

def wfL (l : List Dd) : Prop := ∀ i, i < l.length → (Lit.int .i64 (gt l i).v).wf = true
theorem wf_nat (d : Nat) (h : d < 1024) : (Lit.int .i64 (d : Int)).wf = true := by
  apply WalkArith.wf_i64 <;> omega

theorem or_shl (d i : Nat) (hd : d < 1024) (hi : i < 10) : bits .or .i64 (d : Int) (IntKind.i64.wrap (2 ^ i)) = ((d ||| 1 <<< i : Nat) : Int) := by
  have h1 : (2 : Int) ^ i = ((1 <<< i : Nat) : Int) := by rw [Nat.one_shiftLeft]; simp
  have h2 : 1 <<< i < 1024 := by rw [Nat.one_shiftLeft]; exact (Nat.pow_lt_pow_right (by omega) hi : 2 ^ i < 2 ^ 10)
  rw [h1, wrap_nat _ (by omega), i64_or _ _ (by omega) (by omega)]

set_option maxRecDepth 100000 in
set_option maxHeartbeats 8000000 in
theorem search_any (bo bs bl bn bq mb g c : Nat) (A : Option Addr) (l : List Dd) (hn : l.length ≤ 10) (hwf : wfL l) : ∀ (m d : Nat) (v : Int) (S : Int → Int → Prop) (w : World),
    1024 - d ≤ m → d < 1024 → (Lit.int .i64 v).wf = true → Env w bo bs bl bn bq mb g c A l → MapAt w mb S → (∀ (d' : Nat) v', S d' v' → d ≤ d' → ¬ Can l d' v') →
    Calls Try.prog 15 #[kv d v, .pointer (some ⟨bo, 0, none⟩), .pointer (some ⟨bs, 0, none⟩), .pointer (some ⟨bl, 0, none⟩), .pointer (some ⟨bn, 0, none⟩), .pointer (some ⟨bq, 0, none⟩)] w (SearchPost l mb d v S w) := by
  intro m
  induction m with
  | zero => intro d v S w hm hd; omega
  | succ m ih =>
    intro d v S w hm hd hv hE hM hI
    have HI := Lib.hid hI
    have hO0 := (Only.refl (fun _ => False) w).alloc (.cells #[.int .i64 d, .int .i64 v] 38)
    have hE0 := hE.quiet hO0
    have hM0 := hM.only hO0 id
    have co := hE0.o.cell 0
    have cs := hE0.s.cell 0
    have ho := i64_and d (over l) (by omega) (by have := ovTo_lt l l.length hn; unfold over; omega)
    have HE0 := Lib.hid hE0
    have HM0 := Lib.hid hM0
    have HO0 := Lib.hid hO0
    simp at co cs
    clear hI hE hM hE0 hM0 hO0
    by_cases hdn : d &&& over l = over l
    · have HC : Hid (Can l d v) := Lib.hid (.done hdn)
      rw [hdn] at ho
      have t1 : ((over l : Int) == (over l : Int)) = true := by simp
      unfold kv
      go_enter Try.func15, Try.ntmps15
      go_wp2
      go_ret
      exact ⟨S, true, rfl, HM0.out, HO0.out.mono (fun _ _ h => h.elim), fun _ => HC.out, fun h => (by cases h)⟩
    · have t1 : (((d &&& over l : Nat) : Int) == ((over l : Nat) : Int)) = false := by
        apply beq_false_of_ne
        intro e; exact hdn (by omega)
      rcases look HM0.out d v (wf_nat d hd) hv with ⟨hs, hl⟩ | ⟨hs, hl⟩
      · unfold kv at hl
        have HS := Lib.hid hs
        obtain ⟨w1, hp, hO1, hM1⟩ := put_new HM0.out d v (wf_nat d hd) hv hs
        unfold kv at hp
        have HO1 := Lib.hid hO1
        have HM1 := Lib.hid hM1
        have hE1 := HE0.out.only HM0.out hO1
        have cl := hE1.la.cell 0
        have HE1 := Lib.hid hE1
        have hmb : mb ≠ w.heap.size := by
          intro e
          have := hM1
          have h2 := (At.new w 38 #[.int .i64 d, .int .i64 v]).neMap HM0.out
          exact h2 e.symm
        have HB1 := Lib.hid ((At.new w 38 #[.int .i64 d, .int .i64 v]).only hO1 (fun e => hmb e.symm))
        have HO := Lib.hid ((HO0.out.mono (T := fun i => i = mb) (fun _ _ h => h.elim)).trans hO1)
        simp at cl
        clear hs hO1 hM1 hE1
        unfold kv
        go_enter Try.func15, Try.ntmps15
        go_wp2_with (fail)
        obtain ⟨wo, rfl⟩ : ∃ wo : World, wo = w1 := ⟨_, rfl⟩
        clear hl hp cl co cs
        go_loopw [24] (fun v24 wr => ∃ (i : Nat) (S' : Int → Int → Prop), i ≤ l.length ∧ v24 = .int .i64 i ∧ Env wr bo bs bl bn bq mb g c A l ∧ MapAt wr mb S' ∧ At wr w.heap.size 38 #[.int .i64 d, .int .i64 v] ∧
          Only (fun i => i = mb) w wr ∧ (∀ (d' : Nat) v', S' d' v' → S d' v' ∨ (d' = d ∧ v' = v) ∨ ¬ Can l d' v') ∧ (∀ j, j < i → nxt l d v j = true → ¬ Can l (d ||| 1 <<< j) (gt l j).v)) (fun v24 wr => (l.length - intOf v24).toNat)
        case atStart => exact ⟨0, _, by omega, rfl, HE1.out, HM1.out, HB1.out, HO.out, fun d' v' h => by
            rcases h with h | ⟨h1, h2⟩
            · exact .inl h
            · exact .inr (.inl ⟨by omega, h2⟩), fun j h => by omega⟩
        case round =>
          obtain ⟨i, S', hi, rfl, hE, hM, hB, hO, hS', hJ⟩ := hrel
          have HE := Lib.hid hE
          have HM := Lib.hid hM
          have HB := Lib.hid hB
          have HOr := Lib.hid hO
          have HS' := Lib.hid hS'
          have HJ := Lib.hid hJ
          clear hE hM hB hO hS' hJ HE1 HM1 HB1 HO
          by_cases hil : i < l.length
          · have i0 : (0 : Int) ≤ i := by omega
            have i1 : (i : Int) < l.length := by omega
            obtain ⟨off, rfl, hlt, hdi⟩ := HE.out.rd.dd hil
            obtain ⟨e0, e1, e2, e3⟩ := hdi
            have gi := gt_eq hil
            rw [← gi] at e0 e1 e2 e3
            have hOx := (Only.refl (fun _ => False) wr).alloc (.cells #[.int .i64 (gt l i).k, .int .i64 (gt l i).v, .int .i64 (gt l i).b, .int .i64 (gt l i).e] 30)
            have hEx := HE.out.quiet hOx
            have cn := hEx.n.cell 0
            have cq := hEx.q.cell 0
            have hBx := HB.out.only hOx id
            have b0 := hBx.cell 0
            have b1 := hBx.cell 1
            have hHx := At.new wr 30 #[.int .i64 (gt l i).k, .int .i64 (gt l i).v, .int .i64 (gt l i).b, .int .i64 (gt l i).e]
            have HN := Lib.hid (next_any bl g c _ l d v i _ hEx.la hEx.rd hil hn hd)
            have HEx := Lib.hid hEx
            have HBx := Lib.hid hBx
            have HMx := Lib.hid (HM.out.only hOx id)
            have HHx := Lib.hid hHx
            have HOx := Lib.hid (HOr.out.trans (hOx.mono (fun _ _ h => h.elim)))
            unfold kv at HN
            simp at cn cq b0 b1
            clear hOx hEx hBx hHx HE HM HB HOr gi
            go_wp2_with (fail)
            refine HN.out.mono ?_
            rintro e w2 ⟨rfl, hO2⟩
            cases hnx : nxt l d v i
            · have HJ' : Hid (∀ j, j < i + 1 → nxt l d v j = true → ¬ Can l (d ||| 1 <<< j) (gt l j).v) := Lib.hid (fun j hj hn => by
                rcases Nat.lt_succ_iff_lt_or_eq.1 hj with h | rfl
                · exact HJ.out j h hn
                · rw [hnx] at hn; cases hn)
              have HE2 := Lib.hid (HEx.out.quiet hO2)
              have HM2 := Lib.hid (HMx.out.only hO2 id)
              have HB2 := Lib.hid (HBx.out.only hO2 id)
              have HO2 := Lib.hid (HOx.out.trans (hO2.mono (fun _ _ h => h.elim)))
              clear hO2 hnx HN
              go_wp2
              go_roundw
              case rel => exact ⟨i + 1, S', by omega, by simp, HE2.out, HM2.out, HB2.out, HO2.out, HS'.out, HJ'.out⟩
              case measure => simp [intOf]; omega
            · have hbit := nxt_bit hnx
              have hgt := or_gt hbit
              have hlt2 := or_lt hd (show i < 10 by omega)
              have hor := or_shl d i hd (show i < 10 by omega)
              have hD := (Only.refl (fun _ => False) w2).drew
              have hE2 := HEx.out.quiet (hO2.trans hD)
              have hM2 := HMx.out.only (hO2.trans hD) id
              have hBo := HBx.out.only (hO2.trans hD) id
              have hHo := HHx.out.only (hO2.trans hD) id
              clear b0 b1 cq cn e0 e1 e2 e3
              have b0 : w2.drew.cell? ⟨w.heap.size, 0, none⟩ = some (.int .i64 d) := hBo.cell 0
              have cq : w2.drew.cell? ⟨bq, 0, none⟩ = some (.func (.func 15) #[] #[.pointer (some ⟨bo, 0, none⟩), .pointer (some ⟨bs, 0, none⟩), .pointer (some ⟨bl, 0, none⟩), .pointer (some ⟨bn, 0, none⟩), .pointer (some ⟨bq, 0, none⟩)]) := hE2.q.cell 0
              have y1 : w2.drew.cell? ⟨wr.heap.size, 1, none⟩ = some (.int .i64 (gt l i).v) := hHo.cell 1
              have HSr := Lib.hid (ih (d ||| 1 <<< i) (gt l i).v S' w2.drew (by omega) hlt2 (hwf i hil) hE2 hM2 (fun d' v' h1 h2 => by
                rcases HS'.out d' v' h1 with h | h | h
                · exact HI.out d' v' h (by omega)
                · omega
                · exact h))
              have HE2 := Lib.hid hE2
              have HM2 := Lib.hid hM2
              have HBo := Lib.hid hBo
              have HHo := Lib.hid hHo
              have HO2 := Lib.hid (HOx.out.trans ((hO2.trans hD).mono (fun _ _ h => h.elim)))
              have HST : Hid (Can l (d ||| 1 <<< i) (gt l i).v → Can l d v) := Lib.hid (fun h => .step i hil hnx h)
              have HJ' : Hid (¬ Can l (d ||| 1 <<< i) (gt l i).v → ∀ j, j < i + 1 → nxt l d v j = true → ¬ Can l (d ||| 1 <<< j) (gt l j).v) := Lib.hid (fun h0 j hj hn => by
                rcases Nat.lt_succ_iff_lt_or_eq.1 hj with h | rfl
                · exact HJ.out j h hn
                · exact h0)
              clear hE2 hM2 hBo hHo hO2 hD hnx HN HEx HMx HBx HHx HOx HJ hgt hlt2 hbit
              go_wp2_with (fail)
              generalize hx : gt l i = x at *
              refine wp_region_held_drew (S := (fun W => W.cell? ⟨bq, 0, none⟩ = some (.func (.func 15) #[] #[.pointer (some ⟨bo, 0, none⟩), .pointer (some ⟨bs, 0, none⟩), .pointer (some ⟨bl, 0, none⟩), .pointer (some ⟨bn, 0, none⟩), .pointer (some ⟨bq, 0, none⟩)]) ∧ (W.cell? ⟨w.heap.size, 0, none⟩ = some (.int .i64 d) ∧ W.cell? ⟨wr.heap.size, 1, none⟩ = some (.int .i64 x.v)))) (by kernel_rfl) ?_ (fun hHeld => ?_)
              · exact ⟨cq, b0, y1⟩
              refine wpAnyH_take (i := 0) (oi := { dst := some 34, op := Op.load 41 (Operand.tmp 5), type := 41, pos := "hist.go:57", after := #[], guard := none }) (v := ?_) rfl (by kernel_rfl) (by kernel_rfl) (by kernel_rfl) (fun _ _ _ h => h) (Or.inl ⟨by rfl, ?_⟩) (by assumption) ?_
              rotate_left
              · (intro w hSw; (try dsimp only at hSw); (try obtain ⟨hSa, hSb⟩ := hSw); go_simp; try with_reducible rfl)
              try simp only [Act.put, List.setIfInBounds_toArray, List.set_cons_zero, List.set_cons_succ]
              refine wpAnyH_take (i := 1) (oi := { dst := some 35, op := Op.fieldAddr 38 (Operand.tmp 6) 0, type := 0, pos := "hist.go:57", after := #[], guard := none }) (v := ?_) rfl (by kernel_rfl) (by kernel_rfl) (by kernel_rfl) (fun _ _ _ h => h) (Or.inl ⟨by rfl, ?_⟩) (by assumption) ?_
              rotate_left
              · (intro w hSw; (try dsimp only at hSw); (try obtain ⟨hSa, hSb⟩ := hSw); go_simp; try with_reducible rfl)
              try simp only [Act.put, List.setIfInBounds_toArray, List.set_cons_zero, List.set_cons_succ]
              refine wpAnyH_take (i := 2) (oi := { dst := some 36, op := Op.load 3 (Operand.tmp 35), type := 3, pos := "hist.go:57", after := #[{ on := 1, ground := Ground.data }], guard := none }) (v := ?_) rfl (by kernel_rfl) (by kernel_rfl) (by kernel_rfl) (fun _ _ _ h => h) (Or.inl ⟨by rfl, ?_⟩) (by assumption) ?_
              rotate_left
              · (intro w hSw; (try dsimp only at hSw); (try obtain ⟨hSa, hSb⟩ := hSw); go_simp; try with_reducible rfl)
              try simp only [Act.put, List.setIfInBounds_toArray, List.set_cons_zero, List.set_cons_succ]
              refine wpAnyH_take (i := 3) (oi := { dst := some 37, op := Op.move (Operand.tmp 8), type := 3, pos := "hist.go:57", after := #[], guard := none }) (v := ?_) rfl (by kernel_rfl) (by kernel_rfl) (by kernel_rfl) (fun _ _ _ h => h) (Or.inl ⟨by rfl, ?_⟩) (by assumption) ?_
              rotate_left
              · (intro w hSw; (try dsimp only at hSw); (try obtain ⟨hSa, hSb⟩ := hSw); go_simp; try with_reducible rfl)
              try simp only [Act.put, List.setIfInBounds_toArray, List.set_cons_zero, List.set_cons_succ]
              refine wpAnyH_take (i := 4) (oi := { dst := some 38, op := Op.binOp BinOp.shl 3 (Operand.const (Value.int IntKind.i64 1)) (Operand.tmp 37) 3, type := 3, pos := "hist.go:57", after := #[{ on := 3, ground := Ground.data }], guard := none }) (v := ?_) rfl (by kernel_rfl) (by kernel_rfl) (by kernel_rfl) (fun _ _ _ h => h) (Or.inl ⟨by rfl, ?_⟩) (by assumption) ?_
              rotate_left
              · (intro w hSw; (try dsimp only at hSw); (try obtain ⟨hSa, hSb⟩ := hSw); go_simp; try with_reducible rfl)
              try simp only [Act.put, List.setIfInBounds_toArray, List.set_cons_zero, List.set_cons_succ]
              refine wpAnyH_take (i := 5) (oi := { dst := some 39, op := Op.binOp BinOp.or 3 (Operand.tmp 36) (Operand.tmp 38) 3, type := 3, pos := "hist.go:57", after := #[{ on := 2, ground := Ground.data }, { on := 4, ground := Ground.data }], guard := none }) (v := ?_) rfl (by kernel_rfl) (by kernel_rfl) (by kernel_rfl) (fun _ _ _ h => h) (Or.inl ⟨by rfl, ?_⟩) (by assumption) ?_
              rotate_left
              · (intro w hSw; (try dsimp only at hSw); (try obtain ⟨hSa, hSb⟩ := hSw); go_simp; try with_reducible rfl)
              try simp only [Act.put, List.setIfInBounds_toArray, List.set_cons_zero, List.set_cons_succ]
              refine wpAnyH_take (i := 6) (oi := { dst := some 40, op := Op.fieldAddr 30 (Operand.tmp 9) 1, type := 0, pos := "hist.go:57", after := #[], guard := none }) (v := ?_) rfl (by kernel_rfl) (by kernel_rfl) (by kernel_rfl) (fun _ _ _ h => h) (Or.inl ⟨by rfl, ?_⟩) (by assumption) ?_
              rotate_left
              · (intro w hSw; (try dsimp only at hSw); (try obtain ⟨hSa, hSb⟩ := hSw); go_simp; try with_reducible rfl)
              try simp only [Act.put, List.setIfInBounds_toArray, List.set_cons_zero, List.set_cons_succ]
              refine wpAnyH_take (i := 7) (oi := { dst := some 41, op := Op.load 3 (Operand.tmp 40), type := 3, pos := "hist.go:57", after := #[{ on := 6, ground := Ground.data }], guard := none }) (v := ?_) rfl (by kernel_rfl) (by kernel_rfl) (by kernel_rfl) (fun _ _ _ h => h) (Or.inl ⟨by rfl, ?_⟩) (by assumption) ?_
              rotate_left
              · (intro w hSw; (try dsimp only at hSw); (try obtain ⟨hSa, hSb⟩ := hSw); go_simp; try with_reducible rfl)
              try simp only [Act.put, List.setIfInBounds_toArray, List.set_cons_zero, List.set_cons_succ]
              refine wpAnyH_take (i := 8) (oi := { dst := some 42, op := Op.build 38 #[(0, Operand.tmp 39), (1, Operand.tmp 41)], type := 38, pos := "hist.go:57", after := #[{ on := 5, ground := Ground.data }, { on := 7, ground := Ground.data }], guard := none }) (v := ?_) rfl (by kernel_rfl) (by kernel_rfl) (by kernel_rfl) (fun _ _ _ h => h) (Or.inl ⟨by rfl, ?_⟩) (by assumption) ?_
              rotate_left
              · (intro w hSw; (try dsimp only at hSw); (try obtain ⟨hSa, hSb⟩ := hSw); go_simp; try with_reducible rfl)
              try simp only [Act.put, List.setIfInBounds_toArray, List.set_cons_zero, List.set_cons_succ]
              refine wpAnyH_ready (rs := [9]) (by kernel_rfl) (by simp) ?_
              refine AllReadyH.cons (o := { dst := some 43, op := Op.call { callee := Callee.value (Operand.tmp 34), args := #[Operand.tmp 42], argTypes := #[38] }, type := 4, pos := "hist.go:57", after := #[{ on := 0, ground := Ground.data }, { on := 8, ground := Ground.data }], guard := none }) rfl (fun K hK => ?_) AllReadyH.nil
              go_simp
              refine HSr.out.mono ?_
              rintro e w3 ⟨S3, r, rfl, hM3, hO3, hC1, hC2⟩
              have HR := Lib.hid (And.intro hC1 hC2)
              have HE3 := Lib.hid (HE2.out.only HM2.out hO3)
              have HB3 := Lib.hid (HBo.out.only hO3 (HBo.out.neMap HM2.out))
              have HH3 := Lib.hid (HHo.out.only hO3 (HHo.out.neMap HM2.out))
              have HO3 := Lib.hid (HO2.out.trans hO3)
              have HM3 := Lib.hid hM3
              clear hM3 hO3 hC1 hC2
              dsimp only
              refine hK.out _ _ ?_ (fun hHeld => ?_)
              · exact ⟨HE3.out.q.cell 0, HB3.out.cell 0, HH3.out.cell 1⟩
              clear hK K
              try simp only [Act.put, List.setIfInBounds_toArray, List.set_cons_zero, List.set_cons_succ]
              refine wpAnyH_done (by kernel_rfl) ?_ _
              clear hHeld HSr hor HE2 HM2 HBo HHo b0 cq y1
              cases r
              · have HR' := Lib.hid (HR.out.2 rfl)
                have HJ2 := Lib.hid (HJ'.out HR'.out.1)
                have HS3 : Hid (∀ (d' : Nat) v', S3 d' v' → S d' v' ∨ (d' = d ∧ v' = v) ∨ ¬ Can l d' v') := Lib.hid (fun d' v' h => by
                  rcases HR'.out.2 d' v' h with h | h
                  · exact HS'.out d' v' h
                  · exact .inr (.inr h))
                clear HR HR' HJ' HS' HST
                go_wp2
                go_roundw
                case rel => exact ⟨i + 1, S3, by omega, by simp, HE3.out, HM3.out, HB3.out, HO3.out, HS3.out, HJ2.out⟩
                case measure => simp [intOf]; omega
              · have HC := Lib.hid (HST.out (HR.out.1 rfl))
                go_wp2
                go_ret
                exact ⟨S3, true, rfl, HM3.out, HO3.out, fun _ => HC.out, fun h => (by cases h)⟩
          · obtain rfl : i = l.length := by omega
            have i1 : ¬ (l.length : Int) < l.length := by omega
            have HC : Hid (¬ Can l d v) := Lib.hid (fun h => by
              cases h with
              | done h => exact hdn h
              | step i hi h1 h2 => exact HJ.out i hi h1 h2)
            have HF : Hid (∀ (d' : Nat) v', S' d' v' → S d' v' ∨ ¬ Can l d' v') := Lib.hid (fun d' v' h => by
              rcases HS'.out d' v' h with h | ⟨rfl, rfl⟩ | h
              · exact .inl h
              · exact .inr HC.out
              · exact .inr h)
            clear HS' HJ hi hil
            go_wp2
            go_ret
            exact ⟨S', false, rfl, HM.out, HOr.out, fun h => (by cases h), fun _ => ⟨HC.out, HF.out⟩⟩
      · have HC := Lib.hid (HI.out d v hs (Nat.le_refl _))
        unfold kv at hl
        unfold kv
        go_enter Try.func15, Try.ntmps15
        go_wp2
        go_ret
        exact ⟨S, false, rfl, HM0.out, HO0.out.mono (fun _ _ h => h.elim), fun h => (by cases h), fun _ => ⟨HC.out, fun _ _ h => .inl h⟩⟩
end Go.Proofs.Ytgedinpafnfmmaa
