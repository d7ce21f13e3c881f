/- Ring: settle, turn, Done, Back. -/
import Derived.Test.YtookghkfghdadaaD
namespace Go.Proofs.Ytookghkfghdadaa
open Go.RowKit

/-- The state of what lies at a position. -/
def stOf (l : List RC) (p : Nat) : Int := (l.getD (p % l.length) RC.zero).st
theorem stOf_lt (l : List RC) (p : Nat) (h : p % l.length < l.length) : stOf l p = l[p % l.length].st := by simp [stOf, List.getD, h]
theorem equalIn_fn (d : Nat) (f : Fn) (xs ys : Array Value) (w : World) : (Op.equalIn (d + 1) 68 (.func f xs ys) .nilFunc).run Try.prog w = .ok false w := by
  simp [Op.equalIn, run_underlying Try.underlying68]
theorem equal_fn (f : Fn) (xs ys : Array Value) (w : World) : (Op.equal 68 (.func f xs ys) .nilFunc).run Try.prog w = .ok false w := equalIn_fn 9999 f xs ys w
@[go_sem] theorem neq_fn (f : Fn) (xs ys : Array Value) (w : World) : (binOp .neq 68 (.func f xs ys) .nilFunc).run Try.prog w = .ok (.bool true) w := by
  simp only [binOp]
  simp [equal_fn]
theorem equalIn_nf (d : Nat) (w : World) : (Op.equalIn (d + 1) 68 .nilFunc .nilFunc).run Try.prog w = .ok true w := by
  simp [Op.equalIn, run_underlying Try.underlying68]
theorem equal_nf (w : World) : (Op.equal 68 .nilFunc .nilFunc).run Try.prog w = .ok true w := equalIn_nf 9999 w
@[go_sem] theorem neq_nf (w : World) : (binOp .neq 68 .nilFunc .nilFunc).run Try.prog w = .ok (.bool false) w := by
  simp only [binOp]
  simp [equal_nf]

/-- Where the tail comes to rest. -/
def setl (l : List RC) (t h : Nat) : Nat := if t < h ∧ stOf l t = 2 then setl l (t + 1) h else t
termination_by h - t
/-- One slot's state turned. -/
def setSt (l : List RC) (p : Nat) (z : Int) : List RC := l.set (p % l.length) { (l.getD (p % l.length) RC.zero) with st := z }
theorem setSt_len (l : List RC) (p : Nat) (z : Int) : (setSt l p z).length = l.length := by simp [setSt]
theorem setl_go (l : List RC) (t h : Nat) (h1 : t < h) (h2 : stOf l t = 2) : setl l t h = setl l (t + 1) h := by rw [setl, if_pos ⟨h1, h2⟩]
theorem setl_stop (l : List RC) (t h : Nat) (h1 : ¬ (t < h ∧ stOf l t = 2)) : setl l t h = t := by rw [setl, if_neg h1]

set_option maxRecDepth 100000 in
set_option maxHeartbeats 4000000 in
theorem settle_any (b g t h : Nat) (l : List RC) (w : World) (k : RgAt w b g t h l) :
    Calls Try.prog 39 #[.pointer (some ⟨b, 0, none⟩)] w fun e w' => e = .returned (.tuple #[]) ∧ RgAt w' b g (setl l t h) h l ∧ Only (fun i => i = b) w w' := by
  have HK0 := Lib.hid k
  have hh := k.pos
  have hne := k.ne
  clear k
  go_enter Try.func39, Try.ntmps39
  go_wp2_with (fail)
  go_loopw [] (fun wr => ∃ t' : Nat, setl l t' h = setl l t h ∧ RgAt wr b g t' h l ∧ Only (fun i => i = b) w wr) (fun wr => (h - intOf ((wr.cell? ⟨b, 1, none⟩).getD undef)).toNat)
  case atStart => exact ⟨t, rfl, HK0.out, Only.refl _ _⟩
  case round =>
    obtain ⟨t', hs, hk, hO⟩ := hrel
    have c1 : wr.cell? ⟨b, 1, none⟩ = some (.int .i64 t') := hk.st.cell 1
    have c2 : wr.cell? ⟨b, 2, none⟩ = some (.int .i64 h) := hk.st.cell 2
    have hp := hk.pos
    have hl := hk.len
    obtain ⟨q, hq⟩ : ∃ q, t' % l.length = q := ⟨_, rfl⟩
    have hql : q < l.length := by rw [← hq]; exact Nat.mod_lt _ (by omega)
    have hst : stOf l t' = l[q].st := by rw [stOf_lt l t' (by rw [hq]; exact hql)]; simp [hq]
    have c5 : wr.cell? ⟨g, q * 6 + 5, none⟩ = some (.int .i64 l[q].st) := hk.cell q 5 hql (by omega)
    have HAt := Lib.hid (at_any b g t' h l t' _ (hk.quiet (Only.refl _ _).drew) (by omega))
    rw [hq] at HAt
    have HK := Lib.hid hk
    have HO := Lib.hid hO
    have HS := Lib.hid hs
    have HST := Lib.hid hst
    clear hk hO hs hst hq
    generalize l[q].st = z at *
    by_cases hth : t' < h
    · have i1 : (t' : Int) < h := by omega
      go_wp2_with (fail)
      refine wp_region_held_drew (S := (fun W => W.cell? ⟨b, 1, none⟩ = some (.int .i64 t') ∧ W.cell? ⟨b, 2, none⟩ = some (.int .i64 h) ∧ W.cell? ⟨g, q * 6 + 5, none⟩ = some (.int .i64 z))) (by kernel_rfl) ?_ (fun hHeld => ?_)
      · exact ⟨c1, c2, c5⟩
      refine wpAnyH_take (i := 0) (oi := { dst := some 2, op := Op.move (Operand.tmp 0), type := 23, pos := "ring.go:81", after := #[], guard := none }) (v := ?_) rfl (by kernel_rfl) (by kernel_rfl) (by kernel_rfl) (fun _ _ _ h => h) (Or.inl ⟨by rfl, ?_⟩) (by assumption) ?_
      rotate_left
      · (intro w hSw; (try dsimp only at hSw); (try obtain ⟨hSa, hSb⟩ := hSw); go_simp; try with_reducible rfl)
      try simp only [Act.put, List.setIfInBounds_toArray, List.set_cons_zero, List.set_cons_succ]
      refine wpAnyH_take (i := 1) (oi := { dst := some 3, op := Op.nilCheck (Operand.tmp 2), type := 0, pos := "ring.go:81", after := #[{ on := 0, ground := Ground.data }], guard := none }) (v := ?_) rfl (by kernel_rfl) (by kernel_rfl) (by kernel_rfl) (fun _ _ _ h => h) (Or.inl ⟨by rfl, ?_⟩) (by assumption) ?_
      rotate_left
      · (intro w hSw; (try dsimp only at hSw); (try obtain ⟨hSa, hSb⟩ := hSw); go_simp; try with_reducible rfl)
      try simp only [Act.put, List.setIfInBounds_toArray, List.set_cons_zero, List.set_cons_succ]
      refine wpAnyH_take (i := 2) (oi := { dst := some 4, op := Op.fieldAddr 58 (Operand.tmp 3) 1, type := 0, pos := "ring.go:81", after := #[{ on := 1, ground := Ground.data }], guard := none }) (v := ?_) rfl (by kernel_rfl) (by kernel_rfl) (by kernel_rfl) (fun _ _ _ h => h) (Or.inl ⟨by rfl, ?_⟩) (by assumption) ?_
      rotate_left
      · (intro w hSw; (try dsimp only at hSw); (try obtain ⟨hSa, hSb⟩ := hSw); go_simp; try with_reducible rfl)
      try simp only [Act.put, List.setIfInBounds_toArray, List.set_cons_zero, List.set_cons_succ]
      refine wpAnyH_take (i := 3) (oi := { dst := some 5, op := Op.load 3 (Operand.tmp 4), type := 3, pos := "ring.go:81", after := #[{ on := 2, ground := Ground.data }], guard := none }) (v := ?_) rfl (by kernel_rfl) (by kernel_rfl) (by kernel_rfl) (fun _ _ _ h => h) (Or.inl ⟨by rfl, ?_⟩) (by assumption) ?_
      rotate_left
      · (intro w hSw; (try dsimp only at hSw); (try obtain ⟨hSa, hSb⟩ := hSw); go_simp; try with_reducible rfl)
      try simp only [Act.put, List.setIfInBounds_toArray, List.set_cons_zero, List.set_cons_succ]
      refine wpAnyH_take (i := 4) (oi := { dst := some 6, op := Op.move (Operand.tmp 0), type := 23, pos := "ring.go:81", after := #[], guard := none }) (v := ?_) rfl (by kernel_rfl) (by kernel_rfl) (by kernel_rfl) (fun _ _ _ h => h) (Or.inl ⟨by rfl, ?_⟩) (by assumption) ?_
      rotate_left
      · (intro w hSw; (try dsimp only at hSw); (try obtain ⟨hSa, hSb⟩ := hSw); go_simp; try with_reducible rfl)
      try simp only [Act.put, List.setIfInBounds_toArray, List.set_cons_zero, List.set_cons_succ]
      refine wpAnyH_take (i := 5) (oi := { dst := some 7, op := Op.nilCheck (Operand.tmp 6), type := 0, pos := "ring.go:81", after := #[{ on := 4, ground := Ground.data }], guard := none }) (v := ?_) rfl (by kernel_rfl) (by kernel_rfl) (by kernel_rfl) (fun _ _ _ h => h) (Or.inl ⟨by rfl, ?_⟩) (by assumption) ?_
      rotate_left
      · (intro w hSw; (try dsimp only at hSw); (try obtain ⟨hSa, hSb⟩ := hSw); go_simp; try with_reducible rfl)
      try simp only [Act.put, List.setIfInBounds_toArray, List.set_cons_zero, List.set_cons_succ]
      refine wpAnyH_take (i := 6) (oi := { dst := some 8, op := Op.fieldAddr 58 (Operand.tmp 7) 2, type := 0, pos := "ring.go:81", after := #[{ on := 5, ground := Ground.data }], guard := none }) (v := ?_) rfl (by kernel_rfl) (by kernel_rfl) (by kernel_rfl) (fun _ _ _ h => h) (Or.inl ⟨by rfl, ?_⟩) (by assumption) ?_
      rotate_left
      · (intro w hSw; (try dsimp only at hSw); (try obtain ⟨hSa, hSb⟩ := hSw); go_simp; try with_reducible rfl)
      try simp only [Act.put, List.setIfInBounds_toArray, List.set_cons_zero, List.set_cons_succ]
      refine wpAnyH_take (i := 7) (oi := { dst := some 9, op := Op.load 3 (Operand.tmp 8), type := 3, pos := "ring.go:81", after := #[{ on := 6, ground := Ground.data }], guard := none }) (v := ?_) rfl (by kernel_rfl) (by kernel_rfl) (by kernel_rfl) (fun _ _ _ h => h) (Or.inl ⟨by rfl, ?_⟩) (by assumption) ?_
      rotate_left
      · (intro w hSw; (try dsimp only at hSw); (try obtain ⟨hSa, hSb⟩ := hSw); go_simp; try with_reducible rfl)
      try simp only [Act.put, List.setIfInBounds_toArray, List.set_cons_zero, List.set_cons_succ]
      refine wpAnyH_take (i := 8) (oi := { dst := some 10, op := Op.binOp BinOp.lss 3 (Operand.tmp 5) (Operand.tmp 9) 3, type := 4, pos := "ring.go:81", after := #[{ on := 3, ground := Ground.data }, { on := 7, ground := Ground.data }], guard := none }) (v := ?_) rfl (by kernel_rfl) (by kernel_rfl) (by kernel_rfl) (fun _ _ _ h => h) (Or.inl ⟨by rfl, ?_⟩) (by assumption) ?_
      rotate_left
      · (intro w hSw; (try dsimp only at hSw); (try obtain ⟨hSa, hSb⟩ := hSw); go_simp; try with_reducible rfl)
      try simp only [Act.put, List.setIfInBounds_toArray, List.set_cons_zero, List.set_cons_succ]
      refine wpAnyH_take (i := 9) (oi := { dst := some 11, op := Op.move (Operand.tmp 10), type := 4, pos := "ring.go:81", after := #[{ on := 8, ground := Ground.data }], guard := none }) (v := ?_) rfl (by kernel_rfl) (by kernel_rfl) (by kernel_rfl) (fun _ _ _ h => h) (Or.inl ⟨by rfl, ?_⟩) (by assumption) ?_
      rotate_left
      · (intro w hSw; (try dsimp only at hSw); (try obtain ⟨hSa, hSb⟩ := hSw); go_simp; try with_reducible rfl)
      try simp only [Act.put, List.setIfInBounds_toArray, List.set_cons_zero, List.set_cons_succ]
      refine wpAnyH_take (i := 10) (oi := { dst := some 12, op := Op.move (Operand.tmp 0), type := 23, pos := "ring.go:81", after := #[{ on := 9, ground := Ground.guard }], guard := some (9, true) }) (v := ?_) rfl (by kernel_rfl) (by kernel_rfl) (by kernel_rfl) (fun _ _ _ h => h) (Or.inl ⟨by rfl, ?_⟩) (by assumption) ?_
      rotate_left
      · (intro w hSw; (try dsimp only at hSw); (try obtain ⟨hSa, hSb⟩ := hSw); go_simp; try with_reducible rfl)
      try simp only [Act.put, List.setIfInBounds_toArray, List.set_cons_zero, List.set_cons_succ]
      refine wpAnyH_take (i := 11) (oi := { dst := some 13, op := Op.move (Operand.tmp 0), type := 23, pos := "ring.go:81", after := #[{ on := 9, ground := Ground.guard }], guard := some (9, true) }) (v := ?_) rfl (by kernel_rfl) (by kernel_rfl) (by kernel_rfl) (fun _ _ _ h => h) (Or.inl ⟨by rfl, ?_⟩) (by assumption) ?_
      rotate_left
      · (intro w hSw; (try dsimp only at hSw); (try obtain ⟨hSa, hSb⟩ := hSw); go_simp; try with_reducible rfl)
      try simp only [Act.put, List.setIfInBounds_toArray, List.set_cons_zero, List.set_cons_succ]
      refine wpAnyH_take (i := 12) (oi := { dst := some 14, op := Op.nilCheck (Operand.tmp 13), type := 0, pos := "ring.go:81", after := #[{ on := 11, ground := Ground.data }, { on := 9, ground := Ground.guard }], guard := some (9, true) }) (v := ?_) rfl (by kernel_rfl) (by kernel_rfl) (by kernel_rfl) (fun _ _ _ h => h) (Or.inl ⟨by rfl, ?_⟩) (by assumption) ?_
      rotate_left
      · (intro w hSw; (try dsimp only at hSw); (try obtain ⟨hSa, hSb⟩ := hSw); go_simp; try with_reducible rfl)
      try simp only [Act.put, List.setIfInBounds_toArray, List.set_cons_zero, List.set_cons_succ]
      refine wpAnyH_take (i := 13) (oi := { dst := some 15, op := Op.fieldAddr 58 (Operand.tmp 14) 1, type := 0, pos := "ring.go:81", after := #[{ on := 12, ground := Ground.data }, { on := 9, ground := Ground.guard }], guard := some (9, true) }) (v := ?_) rfl (by kernel_rfl) (by kernel_rfl) (by kernel_rfl) (fun _ _ _ h => h) (Or.inl ⟨by rfl, ?_⟩) (by assumption) ?_
      rotate_left
      · (intro w hSw; (try dsimp only at hSw); (try obtain ⟨hSa, hSb⟩ := hSw); go_simp; try with_reducible rfl)
      try simp only [Act.put, List.setIfInBounds_toArray, List.set_cons_zero, List.set_cons_succ]
      refine wpAnyH_take (i := 14) (oi := { dst := some 16, op := Op.load 3 (Operand.tmp 15), type := 3, pos := "ring.go:81", after := #[{ on := 13, ground := Ground.data }, { on := 9, ground := Ground.guard }], guard := some (9, true) }) (v := ?_) rfl (by kernel_rfl) (by kernel_rfl) (by kernel_rfl) (fun _ _ _ h => h) (Or.inl ⟨by rfl, ?_⟩) (by assumption) ?_
      rotate_left
      · (intro w hSw; (try dsimp only at hSw); (try obtain ⟨hSa, hSb⟩ := hSw); go_simp; try with_reducible rfl)
      try simp only [Act.put, List.setIfInBounds_toArray, List.set_cons_zero, List.set_cons_succ]
      refine wpAnyH_ready (rs := [15]) (by kernel_rfl) (by simp) ?_
      refine AllReadyH.cons (o := { dst := some 17, op := Op.call { callee := Callee.value (Operand.func 33), args := #[Operand.tmp 12, Operand.tmp 16], argTypes := #[23, 3] }, type := 64, pos := "ring.go:81", after := #[{ on := 10, ground := Ground.data }, { on := 14, ground := Ground.data }, { on := 9, ground := Ground.chain }, { on := 9, ground := Ground.guard }], guard := some (9, true) }) rfl (fun K hK => ?_) AllReadyH.nil
      go_simp
      (go_at_call 33; refine HAt.out.mono ?_; rintro e wa ⟨rfl, hOa⟩; have a1 : wa.cell? ⟨b, 1, none⟩ = some (.int .i64 t') := (hOa.cell (p := ⟨b, 1, none⟩) HK.out.lts.1 id).trans c1; have a2 : wa.cell? ⟨b, 2, none⟩ = some (.int .i64 h) := (hOa.cell (p := ⟨b, 2, none⟩) HK.out.lts.1 id).trans c2; have a5 : wa.cell? ⟨g, q * 6 + 5, none⟩ = some (.int .i64 z) := (hOa.cell (p := ⟨g, q * 6 + 5, none⟩) HK.out.lts.2.1 id).trans c5; have hKa := (HK.out.quiet (Only.refl _ _).drew).quiet hOa; have fa := hKa.st.frozen 1; have HKa := Lib.hid hKa; have HOa := Lib.hid ((Only.refl (fun _ => False) wr).drew.trans hOa); clear hOa hKa; try simp only [])
      refine hK.out _ _ ?_ (fun hHeld => ?_)
      · exact ⟨a1, a2, a5⟩
      clear hK K
      try simp only [Act.put, List.setIfInBounds_toArray, List.set_cons_zero, List.set_cons_succ]
      refine wpAnyH_take (i := 16) (oi := { dst := some 18, op := Op.nilCheck (Operand.tmp 17), type := 0, pos := "ring.go:81", after := #[{ on := 15, ground := Ground.data }, { on := 9, ground := Ground.guard }], guard := some (9, true) }) (v := ?_) rfl (by kernel_rfl) (by kernel_rfl) (by kernel_rfl) (fun _ _ _ h => h) (Or.inl ⟨by rfl, ?_⟩) (by assumption) ?_
      rotate_left
      · (intro w hSw; (try dsimp only at hSw); (try obtain ⟨hSa, hSb⟩ := hSw); go_simp; try with_reducible rfl)
      try simp only [Act.put, List.setIfInBounds_toArray, List.set_cons_zero, List.set_cons_succ]
      refine wpAnyH_take (i := 17) (oi := { dst := some 19, op := Op.fieldAddr 63 (Operand.tmp 18) 1, type := 0, pos := "ring.go:81", after := #[{ on := 16, ground := Ground.data }, { on := 9, ground := Ground.guard }], guard := some (9, true) }) (v := ?_) rfl (by kernel_rfl) (by kernel_rfl) (by kernel_rfl) (fun _ _ _ h => h) (Or.inl ⟨by rfl, ?_⟩) (by assumption) ?_
      rotate_left
      · (intro w hSw; (try dsimp only at hSw); (try obtain ⟨hSa, hSb⟩ := hSw); go_simp; try with_reducible rfl)
      try simp only [Act.put, List.setIfInBounds_toArray, List.set_cons_zero, List.set_cons_succ]
      refine wpAnyH_take (i := 18) (oi := { dst := some 20, op := Op.load 3 (Operand.tmp 19), type := 3, pos := "ring.go:81", after := #[{ on := 17, ground := Ground.data }, { on := 9, ground := Ground.guard }], guard := some (9, true) }) (v := ?_) rfl (by kernel_rfl) (by kernel_rfl) (by kernel_rfl) (fun _ _ _ h => h) (Or.inl ⟨by rfl, ?_⟩) (by assumption) ?_
      rotate_left
      · (intro w hSw; (try dsimp only at hSw); (try obtain ⟨hSa, hSb⟩ := hSw); go_simp; try with_reducible rfl)
      try simp only [Act.put, List.setIfInBounds_toArray, List.set_cons_zero, List.set_cons_succ]
      refine wpAnyH_take (i := 19) (oi := { dst := some 21, op := Op.binOp BinOp.eql 3 (Operand.tmp 20) (Operand.const (Value.int IntKind.i64 2)) 3, type := 4, pos := "ring.go:81", after := #[{ on := 18, ground := Ground.data }, { on := 9, ground := Ground.guard }], guard := some (9, true) }) (v := ?_) rfl (by kernel_rfl) (by kernel_rfl) (by kernel_rfl) (fun _ _ _ h => h) (Or.inl ⟨by rfl, ?_⟩) (by assumption) ?_
      rotate_left
      · (intro w hSw; (try dsimp only at hSw); (try obtain ⟨hSa, hSb⟩ := hSw); go_simp; try with_reducible rfl)
      try simp only [Act.put, List.setIfInBounds_toArray, List.set_cons_zero, List.set_cons_succ]
      refine wpAnyH_take (i := 20) (oi := { dst := some 22, op := Op.pick (Operand.tmp 11) (Operand.tmp 21) (Operand.const (Value.bool false)), type := 4, pos := "ring.go:81", after := #[{ on := 9, ground := Ground.data }, { on := 19, ground := Ground.data }], guard := none }) (v := ?_) rfl (by kernel_rfl) (by kernel_rfl) (by kernel_rfl) (fun _ _ _ h => h) (Or.inl ⟨by rfl, ?_⟩) (by assumption) ?_
      rotate_left
      · (intro w hSw; (try dsimp only at hSw); (try obtain ⟨hSa, hSb⟩ := hSw); go_simp; try with_reducible rfl)
      try simp only [Act.put, List.setIfInBounds_toArray, List.set_cons_zero, List.set_cons_succ]
      refine wpAnyH_done (by kernel_rfl) ?_ _
      by_cases hz : z = 2
      · subst hz
        go_wp2
        have hKf : RgAt (wa.setCell ⟨b, 1, none⟩ (.int .i64 ((t' : Int) + 1))) b g (t' + 1) h l := by
          have hOb := Only.setCell (S := fun i => i = b) (p := ⟨b, 1, none⟩) (Only.refl _ wa) (fun _ => rfl) (.int .i64 ((t' : Int) + 1))
          refine ⟨HKa.out.st.set 1 _, HKa.out.row.only hOb (Ne.symm hne), fun x hx => (HKa.out.ok x hx).only hOb (fun hA => (HKa.out.p_ne ⟨x, hx, hA, rfl⟩).1), HKa.out.len, by omega, hne⟩
        have HKf := Lib.hid hKf
        have d1 : (wa.setCell ⟨b, 1, none⟩ (.int .i64 ((t' : Int) + 1))).cell? ⟨b, 1, none⟩ = some (.int .i64 ((t' : Int) + 1)) := hKf.st.cell 1
        clear hKf
        go_roundw
        case rel =>
          exact ⟨t' + 1, by rw [← setl_go l t' h hth HST.out]; exact HS.out, HKf.out, Only.setCell (S := fun i => i = b) (p := ⟨b, 1, none⟩) (HO.out.trans (HOa.out.mono (fun _ _ e => e.elim))) (fun _ => rfl) _⟩
        case measure => rw [d1, c1]; simp [intOf]; omega
      · have hz2 : (z == 2) = false := beq_false_of_ne hz
        have hstop := setl_stop l t' h (fun e => hz (by rw [← HST.out]; exact e.2))
        have HSP := Lib.hid (hstop.symm.trans HS.out)
        clear hstop
        go_wp2
        go_end0
        rw [← HSP.out]
        exact ⟨rfl, HKa.out, HO.out.trans (HOa.out.mono (fun _ _ e => e.elim))⟩
    · have hth' : t' = h := by omega
      have hstop := setl_stop l t' h (fun e => hth e.1)
      have HSP := Lib.hid (hstop.symm.trans HS.out)
      have d1 : decide ((t' : Int) < h) = false := by simp; omega
      have HTH := Lib.hid hth'
      clear hstop hth'
      go_wp2_with (fail)
      refine wp_region_held_drew (S := (fun W => W.cell? ⟨b, 1, none⟩ = some (.int .i64 t') ∧ W.cell? ⟨b, 2, none⟩ = some (.int .i64 h) ∧ W.cell? ⟨g, q * 6 + 5, none⟩ = some (.int .i64 z))) (by kernel_rfl) ?_ (fun hHeld => ?_)
      · exact ⟨c1, c2, c5⟩
      refine wpAnyH_take (i := 0) (oi := { dst := some 2, op := Op.move (Operand.tmp 0), type := 23, pos := "ring.go:81", after := #[], guard := none }) (v := ?_) rfl (by kernel_rfl) (by kernel_rfl) (by kernel_rfl) (fun _ _ _ h => h) (Or.inl ⟨by rfl, ?_⟩) (by assumption) ?_
      rotate_left
      · (intro w hSw; (try dsimp only at hSw); (try obtain ⟨hSa, hSb⟩ := hSw); go_simp; try with_reducible rfl)
      try simp only [Act.put, List.setIfInBounds_toArray, List.set_cons_zero, List.set_cons_succ]
      refine wpAnyH_take (i := 1) (oi := { dst := some 3, op := Op.nilCheck (Operand.tmp 2), type := 0, pos := "ring.go:81", after := #[{ on := 0, ground := Ground.data }], guard := none }) (v := ?_) rfl (by kernel_rfl) (by kernel_rfl) (by kernel_rfl) (fun _ _ _ h => h) (Or.inl ⟨by rfl, ?_⟩) (by assumption) ?_
      rotate_left
      · (intro w hSw; (try dsimp only at hSw); (try obtain ⟨hSa, hSb⟩ := hSw); go_simp; try with_reducible rfl)
      try simp only [Act.put, List.setIfInBounds_toArray, List.set_cons_zero, List.set_cons_succ]
      refine wpAnyH_take (i := 2) (oi := { dst := some 4, op := Op.fieldAddr 58 (Operand.tmp 3) 1, type := 0, pos := "ring.go:81", after := #[{ on := 1, ground := Ground.data }], guard := none }) (v := ?_) rfl (by kernel_rfl) (by kernel_rfl) (by kernel_rfl) (fun _ _ _ h => h) (Or.inl ⟨by rfl, ?_⟩) (by assumption) ?_
      rotate_left
      · (intro w hSw; (try dsimp only at hSw); (try obtain ⟨hSa, hSb⟩ := hSw); go_simp; try with_reducible rfl)
      try simp only [Act.put, List.setIfInBounds_toArray, List.set_cons_zero, List.set_cons_succ]
      refine wpAnyH_take (i := 3) (oi := { dst := some 5, op := Op.load 3 (Operand.tmp 4), type := 3, pos := "ring.go:81", after := #[{ on := 2, ground := Ground.data }], guard := none }) (v := ?_) rfl (by kernel_rfl) (by kernel_rfl) (by kernel_rfl) (fun _ _ _ h => h) (Or.inl ⟨by rfl, ?_⟩) (by assumption) ?_
      rotate_left
      · (intro w hSw; (try dsimp only at hSw); (try obtain ⟨hSa, hSb⟩ := hSw); go_simp; try with_reducible rfl)
      try simp only [Act.put, List.setIfInBounds_toArray, List.set_cons_zero, List.set_cons_succ]
      refine wpAnyH_take (i := 4) (oi := { dst := some 6, op := Op.move (Operand.tmp 0), type := 23, pos := "ring.go:81", after := #[], guard := none }) (v := ?_) rfl (by kernel_rfl) (by kernel_rfl) (by kernel_rfl) (fun _ _ _ h => h) (Or.inl ⟨by rfl, ?_⟩) (by assumption) ?_
      rotate_left
      · (intro w hSw; (try dsimp only at hSw); (try obtain ⟨hSa, hSb⟩ := hSw); go_simp; try with_reducible rfl)
      try simp only [Act.put, List.setIfInBounds_toArray, List.set_cons_zero, List.set_cons_succ]
      refine wpAnyH_take (i := 5) (oi := { dst := some 7, op := Op.nilCheck (Operand.tmp 6), type := 0, pos := "ring.go:81", after := #[{ on := 4, ground := Ground.data }], guard := none }) (v := ?_) rfl (by kernel_rfl) (by kernel_rfl) (by kernel_rfl) (fun _ _ _ h => h) (Or.inl ⟨by rfl, ?_⟩) (by assumption) ?_
      rotate_left
      · (intro w hSw; (try dsimp only at hSw); (try obtain ⟨hSa, hSb⟩ := hSw); go_simp; try with_reducible rfl)
      try simp only [Act.put, List.setIfInBounds_toArray, List.set_cons_zero, List.set_cons_succ]
      refine wpAnyH_take (i := 6) (oi := { dst := some 8, op := Op.fieldAddr 58 (Operand.tmp 7) 2, type := 0, pos := "ring.go:81", after := #[{ on := 5, ground := Ground.data }], guard := none }) (v := ?_) rfl (by kernel_rfl) (by kernel_rfl) (by kernel_rfl) (fun _ _ _ h => h) (Or.inl ⟨by rfl, ?_⟩) (by assumption) ?_
      rotate_left
      · (intro w hSw; (try dsimp only at hSw); (try obtain ⟨hSa, hSb⟩ := hSw); go_simp; try with_reducible rfl)
      try simp only [Act.put, List.setIfInBounds_toArray, List.set_cons_zero, List.set_cons_succ]
      refine wpAnyH_take (i := 7) (oi := { dst := some 9, op := Op.load 3 (Operand.tmp 8), type := 3, pos := "ring.go:81", after := #[{ on := 6, ground := Ground.data }], guard := none }) (v := ?_) rfl (by kernel_rfl) (by kernel_rfl) (by kernel_rfl) (fun _ _ _ h => h) (Or.inl ⟨by rfl, ?_⟩) (by assumption) ?_
      rotate_left
      · (intro w hSw; (try dsimp only at hSw); (try obtain ⟨hSa, hSb⟩ := hSw); go_simp; try with_reducible rfl)
      try simp only [Act.put, List.setIfInBounds_toArray, List.set_cons_zero, List.set_cons_succ]
      refine wpAnyH_take (i := 8) (oi := { dst := some 10, op := Op.binOp BinOp.lss 3 (Operand.tmp 5) (Operand.tmp 9) 3, type := 4, pos := "ring.go:81", after := #[{ on := 3, ground := Ground.data }, { on := 7, ground := Ground.data }], guard := none }) (v := ?_) rfl (by kernel_rfl) (by kernel_rfl) (by kernel_rfl) (fun _ _ _ h => h) (Or.inl ⟨by rfl, ?_⟩) (by assumption) ?_
      rotate_left
      · (intro w hSw; (try dsimp only at hSw); (try obtain ⟨hSa, hSb⟩ := hSw); go_simp; try with_reducible rfl)
      try simp only [Act.put, List.setIfInBounds_toArray, List.set_cons_zero, List.set_cons_succ]
      refine wpAnyH_take (i := 9) (oi := { dst := some 11, op := Op.move (Operand.tmp 10), type := 4, pos := "ring.go:81", after := #[{ on := 8, ground := Ground.data }], guard := none }) (v := ?_) rfl (by kernel_rfl) (by kernel_rfl) (by kernel_rfl) (fun _ _ _ h => h) (Or.inl ⟨by rfl, ?_⟩) (by assumption) ?_
      rotate_left
      · (intro w hSw; (try dsimp only at hSw); (try obtain ⟨hSa, hSb⟩ := hSw); go_simp; try with_reducible rfl)
      try simp only [Act.put, List.setIfInBounds_toArray, List.set_cons_zero, List.set_cons_succ]
      refine wpAnyH_take (i := 10) (oi := { dst := some 12, op := Op.move (Operand.tmp 0), type := 23, pos := "ring.go:81", after := #[{ on := 9, ground := Ground.guard }], guard := some (9, true) }) (v := undef) rfl (by kernel_rfl) (by kernel_rfl) (by kernel_rfl) (fun _ _ _ h => h) (Or.inr ⟨by rfl, rfl⟩) (by assumption) ?_
      try simp only [Act.put, List.setIfInBounds_toArray, List.set_cons_zero, List.set_cons_succ]
      refine wpAnyH_take (i := 11) (oi := { dst := some 13, op := Op.move (Operand.tmp 0), type := 23, pos := "ring.go:81", after := #[{ on := 9, ground := Ground.guard }], guard := some (9, true) }) (v := undef) rfl (by kernel_rfl) (by kernel_rfl) (by kernel_rfl) (fun _ _ _ h => h) (Or.inr ⟨by rfl, rfl⟩) (by assumption) ?_
      try simp only [Act.put, List.setIfInBounds_toArray, List.set_cons_zero, List.set_cons_succ]
      refine wpAnyH_take (i := 12) (oi := { dst := some 14, op := Op.nilCheck (Operand.tmp 13), type := 0, pos := "ring.go:81", after := #[{ on := 11, ground := Ground.data }, { on := 9, ground := Ground.guard }], guard := some (9, true) }) (v := undef) rfl (by kernel_rfl) (by kernel_rfl) (by kernel_rfl) (fun _ _ _ h => h) (Or.inr ⟨by rfl, rfl⟩) (by assumption) ?_
      try simp only [Act.put, List.setIfInBounds_toArray, List.set_cons_zero, List.set_cons_succ]
      refine wpAnyH_take (i := 13) (oi := { dst := some 15, op := Op.fieldAddr 58 (Operand.tmp 14) 1, type := 0, pos := "ring.go:81", after := #[{ on := 12, ground := Ground.data }, { on := 9, ground := Ground.guard }], guard := some (9, true) }) (v := undef) rfl (by kernel_rfl) (by kernel_rfl) (by kernel_rfl) (fun _ _ _ h => h) (Or.inr ⟨by rfl, rfl⟩) (by assumption) ?_
      try simp only [Act.put, List.setIfInBounds_toArray, List.set_cons_zero, List.set_cons_succ]
      refine wpAnyH_take (i := 14) (oi := { dst := some 16, op := Op.load 3 (Operand.tmp 15), type := 3, pos := "ring.go:81", after := #[{ on := 13, ground := Ground.data }, { on := 9, ground := Ground.guard }], guard := some (9, true) }) (v := undef) rfl (by kernel_rfl) (by kernel_rfl) (by kernel_rfl) (fun _ _ _ h => h) (Or.inr ⟨by rfl, rfl⟩) (by assumption) ?_
      try simp only [Act.put, List.setIfInBounds_toArray, List.set_cons_zero, List.set_cons_succ]
      refine wpAnyH_take (i := 15) (oi := { dst := some 17, op := Op.call { callee := Callee.value (Operand.func 33), args := #[Operand.tmp 12, Operand.tmp 16], argTypes := #[23, 3] }, type := 64, pos := "ring.go:81", after := #[{ on := 10, ground := Ground.data }, { on := 14, ground := Ground.data }, { on := 9, ground := Ground.chain }, { on := 9, ground := Ground.guard }], guard := some (9, true) }) (v := undef) rfl (by kernel_rfl) (by kernel_rfl) (by kernel_rfl) (fun _ _ _ h => h) (Or.inr ⟨by rfl, rfl⟩) (by assumption) ?_
      try simp only [Act.put, List.setIfInBounds_toArray, List.set_cons_zero, List.set_cons_succ]
      refine wpAnyH_take (i := 16) (oi := { dst := some 18, op := Op.nilCheck (Operand.tmp 17), type := 0, pos := "ring.go:81", after := #[{ on := 15, ground := Ground.data }, { on := 9, ground := Ground.guard }], guard := some (9, true) }) (v := undef) rfl (by kernel_rfl) (by kernel_rfl) (by kernel_rfl) (fun _ _ _ h => h) (Or.inr ⟨by rfl, rfl⟩) (by assumption) ?_
      try simp only [Act.put, List.setIfInBounds_toArray, List.set_cons_zero, List.set_cons_succ]
      refine wpAnyH_take (i := 17) (oi := { dst := some 19, op := Op.fieldAddr 63 (Operand.tmp 18) 1, type := 0, pos := "ring.go:81", after := #[{ on := 16, ground := Ground.data }, { on := 9, ground := Ground.guard }], guard := some (9, true) }) (v := undef) rfl (by kernel_rfl) (by kernel_rfl) (by kernel_rfl) (fun _ _ _ h => h) (Or.inr ⟨by rfl, rfl⟩) (by assumption) ?_
      try simp only [Act.put, List.setIfInBounds_toArray, List.set_cons_zero, List.set_cons_succ]
      refine wpAnyH_take (i := 18) (oi := { dst := some 20, op := Op.load 3 (Operand.tmp 19), type := 3, pos := "ring.go:81", after := #[{ on := 17, ground := Ground.data }, { on := 9, ground := Ground.guard }], guard := some (9, true) }) (v := undef) rfl (by kernel_rfl) (by kernel_rfl) (by kernel_rfl) (fun _ _ _ h => h) (Or.inr ⟨by rfl, rfl⟩) (by assumption) ?_
      try simp only [Act.put, List.setIfInBounds_toArray, List.set_cons_zero, List.set_cons_succ]
      refine wpAnyH_take (i := 19) (oi := { dst := some 21, op := Op.binOp BinOp.eql 3 (Operand.tmp 20) (Operand.const (Value.int IntKind.i64 2)) 3, type := 4, pos := "ring.go:81", after := #[{ on := 18, ground := Ground.data }, { on := 9, ground := Ground.guard }], guard := some (9, true) }) (v := undef) rfl (by kernel_rfl) (by kernel_rfl) (by kernel_rfl) (fun _ _ _ h => h) (Or.inr ⟨by rfl, rfl⟩) (by assumption) ?_
      try simp only [Act.put, List.setIfInBounds_toArray, List.set_cons_zero, List.set_cons_succ]
      refine wpAnyH_take (i := 20) (oi := { dst := some 22, op := Op.pick (Operand.tmp 11) (Operand.tmp 21) (Operand.const (Value.bool false)), type := 4, pos := "ring.go:81", after := #[{ on := 9, ground := Ground.data }, { on := 19, ground := Ground.data }], guard := none }) (v := ?_) rfl (by kernel_rfl) (by kernel_rfl) (by kernel_rfl) (fun _ _ _ h => h) (Or.inl ⟨by rfl, ?_⟩) (by assumption) ?_
      rotate_left
      · (intro w hSw; (try dsimp only at hSw); (try obtain ⟨hSa, hSb⟩ := hSw); go_simp; try with_reducible rfl)
      try simp only [Act.put, List.setIfInBounds_toArray, List.set_cons_zero, List.set_cons_succ]
      refine wpAnyH_done (by kernel_rfl) ?_ _
      go_wp2
      go_end0
      rw [← HSP.out]
      exact ⟨rfl, HK.out.quiet (Only.refl _ _).drew, HO.out.drew⟩

set_option maxRecDepth 100000 in
set_option maxHeartbeats 2000000 in
theorem turn_no_done (b g t h : Nat) (l : List RC) (p : Int) (w : World) (k : RgAt w b g t h l) (hp : p < t ∨ h ≤ p) :
    Calls Try.prog 38 #[.pointer (some ⟨b, 0, none⟩), .int .i64 p, .agg #[.int .i64 2, .func (.func 39) #[] #[]]] w fun e w' => e = .returned (.int .i64 12) ∧ Only (fun _ => False) w w' := by
  have k1 := k.quiet ((Only.refl (fun _ => False) w).alloc (.cells #[.int .i64 2, .func (.func 39) #[] #[]] 70))
  have c1 := k1.st.cell 1
  have c2 := k1.st.cell 2
  simp at c1 c2
  have hp : p < t ∨ ((t : Int) ≤ p ∧ (h : Int) ≤ p) := by omega
  clear k k1
  rcases hp with hp | ⟨hp, hp'⟩
  all_goals
    go_enter Try.func38, Try.ntmps38
    go_wp2
    go_ret
    exact ⟨rfl, (Only.refl _ _).alloc _⟩

set_option maxRecDepth 100000 in
set_option maxHeartbeats 2000000 in
theorem turn_st_done (b g t h : Nat) (l : List RC) (p : Nat) (w : World) (k : RgAt w b g t h l) (hp : t ≤ p ∧ p < h) (hs : stOf l p ≠ 1) :
    Calls Try.prog 38 #[.pointer (some ⟨b, 0, none⟩), .int .i64 p, .agg #[.int .i64 2, .func (.func 39) #[] #[]]] w fun e w' => e = .returned (.int .i64 13) ∧ Only (fun _ => False) w w' := by
  obtain ⟨hp1, hp2⟩ := hp
  have hOB := (Only.refl (fun _ => False) w).alloc (.cells #[.int .i64 2, .func (.func 39) #[] #[]] 70)
  have HX := Lib.hid (At.new w 70 #[.int .i64 2, .func (.func 39) #[] #[]])
  have HLT := Lib.hid k.lts
  have k1 := k.quiet hOB
  have c1 := k1.st.cell 1
  have c2 := k1.st.cell 2
  simp at c1 c2
  have hl := k.len
  have hpos := k.pos
  have j1 : (t : Int) ≤ p := by omega
  have j2 : (p : Int) < h := by omega
  obtain ⟨q, hq⟩ : ∃ q, p % l.length = q := ⟨_, rfl⟩
  have hql2 : q < l.length := by rw [← hq]; exact Nat.mod_lt _ (by omega)
  have hst : stOf l p = l[q].st := by rw [stOf_lt l p (by rw [hq]; exact hql2)]; simp [hq]
  rw [hst] at hs
  have HAt := Lib.hid (at_any b g t h l p _ k1 (by omega))
  rw [hq] at HAt
  have HK := Lib.hid k1
  have HOB := Lib.hid hOB
  have hc5 : ∀ wa, Only (fun _ => False) (w.alloc (.cells #[.int .i64 2, .func (.func 39) #[] #[]] 70)) wa → wa.cell? ⟨g, q * 6 + 5, none⟩ = some (.int .i64 l[q].st) := fun wa hO => (HK.out.quiet hO).cell q 5 hql2 (by omega)
  have HC5 := Lib.hid hc5
  clear hc5 hst k k1 hOB
  generalize l[q].st = z at *
  have hz1 : (z != 1) = true := by simpa using hs
  clear hs
  go_enter Try.func38, Try.ntmps38
  go_wp2_with (fail)
  refine HAt.out.mono ?_
  rintro e wa ⟨rfl, hOa⟩
  have c5 := HC5.out wa hOa
  have HO := Lib.hid (HOB.out.trans hOa)
  clear hOa
  go_wp2
  go_ret
  exact ⟨rfl, HO.out⟩

set_option maxRecDepth 100000 in
set_option maxHeartbeats 2000000 in
theorem turn_done (b g t h : Nat) (l : List RC) (p : Nat) (w : World) (k : RgAt w b g t h l) (hp : t ≤ p ∧ p < h) (hs : stOf l p = 1) :
    Calls Try.prog 38 #[.pointer (some ⟨b, 0, none⟩), .int .i64 p, .agg #[.int .i64 2, .func (.func 39) #[] #[]]] w fun e w' => e = .returned (.int .i64 0) ∧ RgAt w' b g (setl (setSt l p 2) t h) h (setSt l p 2) ∧ Only (fun i => i = b ∨ i = g) w w' := by
  obtain ⟨hp1, hp2⟩ := hp
  have hOB := (Only.refl (fun _ => False) w).alloc (.cells #[.int .i64 2, .func (.func 39) #[] #[]] 70)
  have HX := Lib.hid (At.new w 70 #[.int .i64 2, .func (.func 39) #[] #[]])
  have HLT := Lib.hid k.lts
  have k1 := k.quiet hOB
  have c1 := k1.st.cell 1
  have c2 := k1.st.cell 2
  simp at c1 c2
  have hl := k.len
  have hpos := k.pos
  have j1 : (t : Int) ≤ p := by omega
  have j2 : (p : Int) < h := by omega
  obtain ⟨q, hq⟩ : ∃ q, p % l.length = q := ⟨_, rfl⟩
  have hql2 : q < l.length := by rw [← hq]; exact Nat.mod_lt _ (by omega)
  have hst : stOf l p = l[q].st := by rw [stOf_lt l p (by rw [hq]; exact hql2)]; simp [hq]
  rw [hst] at hs
  have HAt := Lib.hid (at_any b g t h l p _ k1 (by omega))
  rw [hq] at HAt
  have HK := Lib.hid k1
  have HOB := Lib.hid hOB
  have hc5 : ∀ wa, Only (fun _ => False) (w.alloc (.cells #[.int .i64 2, .func (.func 39) #[] #[]] 70)) wa → wa.cell? ⟨g, q * 6 + 5, none⟩ = some (.int .i64 l[q].st) := fun wa hO => (HK.out.quiet hO).cell q 5 hql2 (by omega)
  have HC5 := Lib.hid hc5
  have hset : setSt l p 2 = l.set q { l[q] with st := 2 } := by simp [setSt, hq, List.getD, hql2]
  rw [hset]
  clear hc5 hst k k1 hOB
  obtain ⟨z, hz⟩ : ∃ z, l[q].st = z := ⟨_, rfl⟩
  rw [hz] at hs HC5
  clear hz hq hset
  subst hs
  go_enter Try.func38, Try.ntmps38
  go_wp2_with (fail)
  refine HAt.out.mono ?_
  rintro e wa ⟨rfl, hOa⟩
  have c5 := HC5.out wa hOa
  have hKa := HK.out.quiet hOa
  have f5 := hKa.fr (q * 6 + 5)
  have hX := HX.out.only hOa id
  have x0 : wa.cell? ⟨w.heap.size, 0, none⟩ = some (.int .i64 2) := hX.cell 0
  have x1 : (wa.setCell ⟨g, q * 6 + 5, none⟩ (.int .i64 2)).cell? ⟨w.heap.size, 1, none⟩ = some (.func (.func 39) #[] #[]) := (hX.far (p := ⟨g, q * 6 + 5, none⟩) (by have := HLT.out.2.1; simp; omega) _).cell 1
  have hOg := Only.setCell (S := fun i => i = g) (p := ⟨g, q * 6 + 5, none⟩) (Only.refl _ wa) (fun _ => rfl) (.int .i64 2)
  have hKf : RgAt (wa.setCell ⟨g, q * 6 + 5, none⟩ (.int .i64 2)) b g t h (l.set q { l[q] with st := 2 }) := by
    refine ⟨by rw [List.length_set]; exact hKa.st.only hOg hKa.ne, ?_, fun y hy => ?_, by rw [List.length_set]; exact hKa.len, by rw [List.length_set]; exact hKa.pos, hKa.ne⟩
    · have := hKa.row.set (q * 6 + 5) (.int .i64 2)
      rw [List.setIfInBounds_toArray, rcs_set1 l q hql2] at this
      exact this
    · have hy' : ∃ y' ∈ l, y.x = y'.x ∧ y.A = y'.A ∧ y.c = y'.c ∧ y.gp = y'.gp := by
        rcases mem_set_cases hy with hy | rfl
        · exact ⟨y, hy, rfl, rfl, rfl, rfl⟩
        · exact ⟨l[q], List.getElem_mem hql2, rfl, rfl, rfl, rfl⟩
      obtain ⟨y', hm, e1, e2, e3, e4⟩ := hy'
      have := (hKa.ok y' hm).only hOg (fun hA => (hKa.p_ne ⟨y', hm, hA, rfl⟩).2)
      exact ⟨by rw [e1, e2, e3, e4]; exact this.row, by rw [e1]; exact this.len⟩
  have HKf := Lib.hid hKf
  have HO := Lib.hid (((HOB.out.trans hOa).mono (fun _ _ e => e.elim)).trans (hOg.mono (fun i _ e => (Or.inr e : i = b ∨ i = g))))
  have HSe := Lib.hid (settle_any b g t h _ _ hKf)
  clear hKa hX hOg hKf hOa
  go_wp2_with (fail)
  refine HSe.out.mono ?_
  rintro e wz ⟨rfl, hKz, hOz⟩
  have HKz := Lib.hid hKz
  have HOz := Lib.hid hOz
  clear hKz hOz
  go_wp2
  go_ret
  exact ⟨rfl, HKz.out, HO.out.trans (HOz.out.mono (fun i _ e => Or.inl e))⟩

set_option maxRecDepth 100000 in
set_option maxHeartbeats 2000000 in
theorem turn_no_back (b g t h : Nat) (l : List RC) (p : Int) (w : World) (k : RgAt w b g t h l) (hp : p < t ∨ h ≤ p) :
    Calls Try.prog 38 #[.pointer (some ⟨b, 0, none⟩), .int .i64 p, .agg #[.int .i64 0, .nilFunc]] w fun e w' => e = .returned (.int .i64 12) ∧ Only (fun _ => False) w w' := by
  have k1 := k.quiet ((Only.refl (fun _ => False) w).alloc (.cells #[.int .i64 0, .nilFunc] 70))
  have c1 := k1.st.cell 1
  have c2 := k1.st.cell 2
  simp at c1 c2
  have hp : p < t ∨ ((t : Int) ≤ p ∧ (h : Int) ≤ p) := by omega
  clear k k1
  rcases hp with hp | ⟨hp, hp'⟩
  all_goals
    go_enter Try.func38, Try.ntmps38
    go_wp2
    go_ret
    exact ⟨rfl, (Only.refl _ _).alloc _⟩

set_option maxRecDepth 100000 in
set_option maxHeartbeats 2000000 in
theorem turn_st_back (b g t h : Nat) (l : List RC) (p : Nat) (w : World) (k : RgAt w b g t h l) (hp : t ≤ p ∧ p < h) (hs : stOf l p ≠ 1) :
    Calls Try.prog 38 #[.pointer (some ⟨b, 0, none⟩), .int .i64 p, .agg #[.int .i64 0, .nilFunc]] w fun e w' => e = .returned (.int .i64 13) ∧ Only (fun _ => False) w w' := by
  obtain ⟨hp1, hp2⟩ := hp
  have hOB := (Only.refl (fun _ => False) w).alloc (.cells #[.int .i64 0, .nilFunc] 70)
  have HX := Lib.hid (At.new w 70 #[.int .i64 0, .nilFunc])
  have HLT := Lib.hid k.lts
  have k1 := k.quiet hOB
  have c1 := k1.st.cell 1
  have c2 := k1.st.cell 2
  simp at c1 c2
  have hl := k.len
  have hpos := k.pos
  have j1 : (t : Int) ≤ p := by omega
  have j2 : (p : Int) < h := by omega
  obtain ⟨q, hq⟩ : ∃ q, p % l.length = q := ⟨_, rfl⟩
  have hql2 : q < l.length := by rw [← hq]; exact Nat.mod_lt _ (by omega)
  have hst : stOf l p = l[q].st := by rw [stOf_lt l p (by rw [hq]; exact hql2)]; simp [hq]
  rw [hst] at hs
  have HAt := Lib.hid (at_any b g t h l p _ k1 (by omega))
  rw [hq] at HAt
  have HK := Lib.hid k1
  have HOB := Lib.hid hOB
  have hc5 : ∀ wa, Only (fun _ => False) (w.alloc (.cells #[.int .i64 0, .nilFunc] 70)) wa → wa.cell? ⟨g, q * 6 + 5, none⟩ = some (.int .i64 l[q].st) := fun wa hO => (HK.out.quiet hO).cell q 5 hql2 (by omega)
  have HC5 := Lib.hid hc5
  clear hc5 hst k k1 hOB
  generalize l[q].st = z at *
  have hz1 : (z != 1) = true := by simpa using hs
  clear hs
  go_enter Try.func38, Try.ntmps38
  go_wp2_with (fail)
  refine HAt.out.mono ?_
  rintro e wa ⟨rfl, hOa⟩
  have c5 := HC5.out wa hOa
  have HO := Lib.hid (HOB.out.trans hOa)
  clear hOa
  go_wp2
  go_ret
  exact ⟨rfl, HO.out⟩

set_option maxRecDepth 100000 in
set_option maxHeartbeats 2000000 in
theorem turn_back (b g t h : Nat) (l : List RC) (p : Nat) (w : World) (k : RgAt w b g t h l) (hp : t ≤ p ∧ p < h) (hs : stOf l p = 1) :
    Calls Try.prog 38 #[.pointer (some ⟨b, 0, none⟩), .int .i64 p, .agg #[.int .i64 0, .nilFunc]] w fun e w' => e = .returned (.int .i64 0) ∧ RgAt w' b g t h (setSt l p 0) ∧ Only (fun i => i = b ∨ i = g) w w' := by
  obtain ⟨hp1, hp2⟩ := hp
  have hOB := (Only.refl (fun _ => False) w).alloc (.cells #[.int .i64 0, .nilFunc] 70)
  have HX := Lib.hid (At.new w 70 #[.int .i64 0, .nilFunc])
  have HLT := Lib.hid k.lts
  have k1 := k.quiet hOB
  have c1 := k1.st.cell 1
  have c2 := k1.st.cell 2
  simp at c1 c2
  have hl := k.len
  have hpos := k.pos
  have j1 : (t : Int) ≤ p := by omega
  have j2 : (p : Int) < h := by omega
  obtain ⟨q, hq⟩ : ∃ q, p % l.length = q := ⟨_, rfl⟩
  have hql2 : q < l.length := by rw [← hq]; exact Nat.mod_lt _ (by omega)
  have hst : stOf l p = l[q].st := by rw [stOf_lt l p (by rw [hq]; exact hql2)]; simp [hq]
  rw [hst] at hs
  have HAt := Lib.hid (at_any b g t h l p _ k1 (by omega))
  rw [hq] at HAt
  have HK := Lib.hid k1
  have HOB := Lib.hid hOB
  have hc5 : ∀ wa, Only (fun _ => False) (w.alloc (.cells #[.int .i64 0, .nilFunc] 70)) wa → wa.cell? ⟨g, q * 6 + 5, none⟩ = some (.int .i64 l[q].st) := fun wa hO => (HK.out.quiet hO).cell q 5 hql2 (by omega)
  have HC5 := Lib.hid hc5
  have hset : setSt l p 0 = l.set q { l[q] with st := 0 } := by simp [setSt, hq, List.getD, hql2]
  rw [hset]
  clear hc5 hst k k1 hOB
  obtain ⟨z, hz⟩ : ∃ z, l[q].st = z := ⟨_, rfl⟩
  rw [hz] at hs HC5
  clear hz hq hset
  subst hs
  go_enter Try.func38, Try.ntmps38
  go_wp2_with (fail)
  refine HAt.out.mono ?_
  rintro e wa ⟨rfl, hOa⟩
  have c5 := HC5.out wa hOa
  have hKa := HK.out.quiet hOa
  have f5 := hKa.fr (q * 6 + 5)
  have hX := HX.out.only hOa id
  have x0 : wa.cell? ⟨w.heap.size, 0, none⟩ = some (.int .i64 0) := hX.cell 0
  have x1 : (wa.setCell ⟨g, q * 6 + 5, none⟩ (.int .i64 0)).cell? ⟨w.heap.size, 1, none⟩ = some (.nilFunc) := (hX.far (p := ⟨g, q * 6 + 5, none⟩) (by have := HLT.out.2.1; simp; omega) _).cell 1
  have hOg := Only.setCell (S := fun i => i = g) (p := ⟨g, q * 6 + 5, none⟩) (Only.refl _ wa) (fun _ => rfl) (.int .i64 0)
  have hKf : RgAt (wa.setCell ⟨g, q * 6 + 5, none⟩ (.int .i64 0)) b g t h (l.set q { l[q] with st := 0 }) := by
    refine ⟨by rw [List.length_set]; exact hKa.st.only hOg hKa.ne, ?_, fun y hy => ?_, by rw [List.length_set]; exact hKa.len, by rw [List.length_set]; exact hKa.pos, hKa.ne⟩
    · have := hKa.row.set (q * 6 + 5) (.int .i64 0)
      rw [List.setIfInBounds_toArray, rcs_set1 l q hql2] at this
      exact this
    · have hy' : ∃ y' ∈ l, y.x = y'.x ∧ y.A = y'.A ∧ y.c = y'.c ∧ y.gp = y'.gp := by
        rcases mem_set_cases hy with hy | rfl
        · exact ⟨y, hy, rfl, rfl, rfl, rfl⟩
        · exact ⟨l[q], List.getElem_mem hql2, rfl, rfl, rfl, rfl⟩
      obtain ⟨y', hm, e1, e2, e3, e4⟩ := hy'
      have := (hKa.ok y' hm).only hOg (fun hA => (hKa.p_ne ⟨y', hm, hA, rfl⟩).2)
      exact ⟨by rw [e1, e2, e3, e4]; exact this.row, by rw [e1]; exact this.len⟩
  have HKf := Lib.hid hKf
  have HO := Lib.hid (((HOB.out.trans hOa).mono (fun _ _ e => e.elim)).trans (hOg.mono (fun i _ e => (Or.inr e : i = b ∨ i = g))))
  clear hKa hX hOg hKf hOa
  go_wp2
  go_ret
  exact ⟨rfl, HKf.out, HO.out⟩

/-- What Done answers. -/
def turnE (l : List RC) (t h : Nat) (p : Int) : Int := if p < t ∨ (h : Int) ≤ p then 12 else if stOf l p.toNat = 1 then 0 else 13

set_option maxHeartbeats 1000000 in
theorem done_no (b g t h : Nat) (l : List RC) (p : Int) (w : World) (k : RgAt w b g t h l) (hE : turnE l t h p ≠ 0) :
    Calls Try.prog 22 #[.pointer (some ⟨b, 0, none⟩), .int .i64 p] w fun e w' => e = .returned (.int .i64 (turnE l t h p)) ∧ Only (fun _ => False) w w' := by
  by_cases hp : p < t ∨ (h : Int) ≤ p
  · have HT := Lib.hid (turn_no_done b g t h l p w k hp)
    have e : turnE l t h p = 12 := by simp [turnE, hp]
    rw [e]
    clear hE e hp k
    go_enter Try.func22, Try.ntmps22
    go_wp2_with (fail)
    refine HT.out.mono ?_
    rintro e w1 ⟨rfl, hO⟩
    have HO := Lib.hid hO
    clear hO
    go_wp2
    go_ret
    exact ⟨rfl, HO.out⟩
  · obtain ⟨n, rfl⟩ : ∃ n : Nat, p = n := ⟨p.toNat, by omega⟩
    have hs : stOf l n ≠ 1 := fun e => hE (by unfold turnE; rw [if_neg hp, Int.toNat_natCast, if_pos e])
    have HT := Lib.hid (turn_st_done b g t h l n w k (by omega) hs)
    have e : turnE l t h n = 13 := by unfold turnE; rw [if_neg hp, Int.toNat_natCast, if_neg hs]
    rw [e]
    clear hE e hp k hs
    go_enter Try.func22, Try.ntmps22
    go_wp2_with (fail)
    refine HT.out.mono ?_
    rintro e w1 ⟨rfl, hO⟩
    have HO := Lib.hid hO
    clear hO
    go_wp2
    go_ret
    exact ⟨rfl, HO.out⟩

set_option maxHeartbeats 1000000 in
theorem done_ok (b g t h : Nat) (l : List RC) (p : Nat) (w : World) (k : RgAt w b g t h l) (hp : t ≤ p ∧ p < h) (hs : stOf l p = 1) :
    Calls Try.prog 22 #[.pointer (some ⟨b, 0, none⟩), .int .i64 p] w fun e w' => e = .returned (.int .i64 0) ∧ RgAt w' b g (setl (setSt l p 2) t h) h (setSt l p 2) ∧ Only (fun i => i = b ∨ i = g) w w' := by
  have HT := Lib.hid (turn_done b g t h l p w k hp hs)
  clear k hp hs
  go_enter Try.func22, Try.ntmps22
  go_wp2_with (fail)
  refine HT.out.mono ?_
  rintro e w1 ⟨rfl, hK, hO⟩
  have HO := Lib.hid hO
  have HK := Lib.hid hK
  clear hO hK
  go_wp2
  go_ret
  exact ⟨rfl, HK.out, HO.out⟩

set_option maxHeartbeats 1000000 in
theorem back_no (b g t h : Nat) (l : List RC) (p : Int) (w : World) (k : RgAt w b g t h l) (hE : turnE l t h p ≠ 0) :
    Calls Try.prog 19 #[.pointer (some ⟨b, 0, none⟩), .int .i64 p] w fun e w' => e = .returned (.int .i64 (turnE l t h p)) ∧ Only (fun _ => False) w w' := by
  by_cases hp : p < t ∨ (h : Int) ≤ p
  · have HT := Lib.hid (turn_no_back b g t h l p w k hp)
    have e : turnE l t h p = 12 := by simp [turnE, hp]
    rw [e]
    clear hE e hp k
    go_enter Try.func19, Try.ntmps19
    go_wp2_with (fail)
    refine HT.out.mono ?_
    rintro e w1 ⟨rfl, hO⟩
    have HO := Lib.hid hO
    clear hO
    go_wp2
    go_ret
    exact ⟨rfl, HO.out⟩
  · obtain ⟨n, rfl⟩ : ∃ n : Nat, p = n := ⟨p.toNat, by omega⟩
    have hs : stOf l n ≠ 1 := fun e => hE (by unfold turnE; rw [if_neg hp, Int.toNat_natCast, if_pos e])
    have HT := Lib.hid (turn_st_back b g t h l n w k (by omega) hs)
    have e : turnE l t h n = 13 := by unfold turnE; rw [if_neg hp, Int.toNat_natCast, if_neg hs]
    rw [e]
    clear hE e hp k hs
    go_enter Try.func19, Try.ntmps19
    go_wp2_with (fail)
    refine HT.out.mono ?_
    rintro e w1 ⟨rfl, hO⟩
    have HO := Lib.hid hO
    clear hO
    go_wp2
    go_ret
    exact ⟨rfl, HO.out⟩

set_option maxHeartbeats 1000000 in
theorem back_ok (b g t h : Nat) (l : List RC) (p : Nat) (w : World) (k : RgAt w b g t h l) (hp : t ≤ p ∧ p < h) (hs : stOf l p = 1) :
    Calls Try.prog 19 #[.pointer (some ⟨b, 0, none⟩), .int .i64 p] w fun e w' => e = .returned (.int .i64 0) ∧ RgAt w' b g t h (setSt l p 0) ∧ Only (fun i => i = b ∨ i = g) w w' := by
  have HT := Lib.hid (turn_back b g t h l p w k hp hs)
  clear k hp hs
  go_enter Try.func19, Try.ntmps19
  go_wp2_with (fail)
  refine HT.out.mono ?_
  rintro e w1 ⟨rfl, hK, hO⟩
  have HO := Lib.hid hO
  have HK := Lib.hid hK
  clear hO hK
  go_wp2
  go_ret
  exact ⟨rfl, HK.out, HO.out⟩
end Go.Proofs.Ytookghkfghdadaa
