/- Top: what is kept in four shards. -/
import Derived.Test.YtjobaplioidogaaGreatU
namespace Go.Proofs.YtjobaplioidogaaGreat
open Go.RowKit

/-- A shard: its slice, and the block in which it lies. -/
structure Sh where
  A : Option Addr
  n : Nat
  c : Nat
  g : Nat
def Sh.v (x : Sh) : Value := .slice x.A x.n x.c
def shv (sh : Nat → Sh) : List Value := [(sh 0).v, (sh 1).v, (sh 2).v, (sh 3).v]
def upd' {α : Type} (f : Nat → α) (s : Nat) (v : α) : Nat → α := fun t => if t = s then v else f t
theorem shv_get (sh : Nat → Sh) (s : Nat) (hs : s < 4) : (shv sh)[s]? = some (sh s).v := by
  have h : s = 0 ∨ s = 1 ∨ s = 2 ∨ s = 3 := by omega
  rcases h with rfl | rfl | rfl | rfl <;> rfl
theorem shv_set (sh : Nat → Sh) (s : Nat) (hs : s < 4) (x : Sh) : (shv sh).set s x.v = shv (upd' sh s x) := by
  have h : s = 0 ∨ s = 1 ∨ s = 2 ∨ s = 3 := by omega
  rcases h with rfl | rfl | rfl | rfl <;> rfl
/-- What is kept: block kb of type T, its shards' rows of elements e (of so many cells). -/
structure KAt (w : World) (kb : Nat) (T e : TypeId) (sz : Nat) (sh : Nat → Sh) (xs : Nat → List Value) (lo : Nat) : Prop where
  st : At w kb T (shv sh).toArray
  row : ∀ s, s < 4 → RowAt w (sh s).A (sh s).n (sh s).c (sh s).g e sz (xs s)
  ne : ∀ s t, s < 4 → t < 4 → s ≠ t → (sh s).A ≠ none → (sh t).A ≠ none → (sh s).g ≠ (sh t).g
  ge : ∀ s, s < 4 → (sh s).A ≠ none → lo ≤ (sh s).g
section
variable {S : Nat → Prop} {w w' w8 : World} {kb : Nat} {T e : TypeId} {sz lo : Nat} {sh : Nat → Sh} {xs : Nat → List Value}
theorem KAt.only (k : KAt w kb T e sz sh xs lo) (o : Only S w w') (h1 : ¬ S kb) (h2 : ∀ i, lo ≤ i → i < w.heap.size → ¬ S i) : KAt w' kb T e sz sh xs lo :=
  ⟨k.st.only o h1, fun s hs => (k.row s hs).only o (fun hA => h2 _ (k.ge s hs hA) ((k.row s hs).lt hA)), k.ne, k.ge⟩
theorem KAt.quiet (k : KAt w kb T e sz sh xs lo) (o : Only (fun _ => False) w w') : KAt w' kb T e sz sh xs lo := k.only o id (fun _ _ _ => id)
theorem KAt.cell (k : KAt w kb T e sz sh xs lo) (s : Nat) (hs : s < 4) : w.cell? ⟨kb, s, none⟩ = some (.slice (sh s).A (sh s).n (sh s).c) := by
  rw [k.st.cell, List.getElem?_toArray, shv_get sh s hs]; rfl
theorem KAt.push (k : KAt w kb T e sz sh xs lo) (hTe : e ≠ T) (s : Nat) (hs : s < 4) (A' : Option Addr) (n' c' g' : Nat) (ys : List Value)
    (o : Only (fun i => (sh s).A ≠ none ∧ i = (sh s).g) w w8) (hr : RowAt w8 A' n' c' g' e sz ys) (hA : A' ≠ none ∧ ((sh s).A ≠ none ∧ g' = (sh s).g ∨ w.heap.size ≤ g')) (hlo : lo ≤ w.heap.size) :
    KAt (w8.setCell ⟨kb, s, none⟩ (.slice A' n' c')) kb T e sz (upd' sh s ⟨A', n', c', g'⟩) (upd' xs s ys) lo := by
  have hne : ∀ t, t < 4 → (sh t).A ≠ none → (sh t).g ≠ kb := fun t ht h => (k.row t ht).neAt k.st h hTe
  have hst : At w8 kb T (shv sh).toArray := k.st.only o (fun h => hne s hs h.1 h.2.symm)
  have hgk : g' ≠ kb := hr.neAt hst hA.1 hTe
  have o2 := (Only.refl (fun i => i = kb) w8).setCell (p := ⟨kb, s, none⟩) (fun _ => rfl) (.slice A' n' c')
  refine ⟨?_, ?_, ?_, ?_⟩
  · have := hst.set s (.slice A' n' c')
    rw [List.setIfInBounds_toArray] at this
    rw [← shv_set sh s hs]
    exact this
  · intro t ht
    by_cases h : t = s
    · subst h
      simp only [upd', if_true]
      exact hr.only o2 (fun _ => hgk)
    · simp only [upd', if_neg h]
      exact ((k.row t ht).only o (fun hA1 h1 => k.ne t s ht hs h hA1 h1.1 h1.2)).only o2 (fun hA1 => hne t ht hA1)
  · intro a b ha hb hab hAa hAb
    simp only [upd'] at hAa hAb ⊢
    by_cases h1 : a = s
    · have h2 : ¬ b = s := fun h => hab (h1.trans h.symm)
      simp only [if_pos h1, if_neg h2] at hAa hAb ⊢
      rcases hA.2 with ⟨q1, q2⟩ | q2
      · rw [q2]; exact fun e => k.ne b s hb hs h2 hAb q1 e.symm
      · have := (k.row b hb).lt hAb; omega
    · by_cases h2 : b = s
      · simp only [if_neg h1, if_pos h2] at hAa hAb ⊢
        rcases hA.2 with ⟨q1, q2⟩ | q2
        · rw [q2]; exact k.ne a s ha hs h1 hAa q1
        · have := (k.row a ha).lt hAa; omega
      · simp only [if_neg h1, if_neg h2] at hAa hAb ⊢
        exact k.ne a b ha hb hab hAa hAb
  · intro t ht hAt
    simp only [upd'] at hAt ⊢
    by_cases h : t = s
    · simp only [if_pos h] at hAt ⊢
      rcases hA.2 with ⟨q1, q2⟩ | q2
      · rw [q2]; exact k.ge s hs q1
      · omega
    · simp only [if_neg h] at hAt ⊢
      exact k.ge t ht hAt
theorem KAt.weak (k : KAt w kb T e sz sh xs lo) {lo' : Nat} (h : lo' ≤ lo) : KAt w kb T e sz sh xs lo' := ⟨k.st, k.row, k.ne, fun s hs hA => Nat.le_trans h (k.ge s hs hA)⟩
end
/-- So many elements, all the same. -/
def flat (el : List Value) (n : Nat) : List Value := (List.replicate n el).flatten
theorem flat_succ (el : List Value) (n : Nat) : flat el (n + 1) = flat el n ++ el := by
  rw [flat, List.replicate_succ', List.flatten_append]; simp [flat]
theorem flat_len (el : List Value) (n : Nat) : (flat el n).length = n * el.length := by
  simp [flat, List.length_flatten]

theorem upd_flat (el : List Value) (sh : Nat → Sh) (s : Nat) (x : Sh) (m : Nat) (h : x.n = m + 1) : upd' (fun s => flat el (sh s).n) s (flat el m ++ el) = fun t => flat el (upd' sh s x t).n := by
  funext t
  by_cases ht : t = s
  · subst ht; simp only [upd', if_true]; rw [h, flat_succ]
  · simp only [upd', if_neg ht]
theorem upd_cnt (sh : Nat → Sh) (s i : Nat) (x : Sh) (hc : ∀ s, s < 4 → (sh s).n = (i + 3 - s) / 4) (hs : s = i % 4) (hx : x.n = (sh s).n + 1) : ∀ t, t < 4 → (upd' sh s x t).n = (i + 1 + 3 - t) / 4 := by
  intro t ht
  have h1 := hc t ht
  by_cases h : t = s
  · subst h; simp only [upd', if_true]; omega
  · simp only [upd', if_neg h]; rw [h1]; omega

def GrownP (T e : TypeId) (sz : Nat) (el : List Value) (n : Nat) (w : World) (ee : Ending) (w' : World) : Prop :=
  ∃ kb sh, ee = .returned (.pointer (some ⟨kb, 0, none⟩)) ∧ KAt w' kb T e sz sh (fun s => flat el (sh s).n) w.heap.size ∧ (∀ s, s < 4 → (sh s).n = (n + 3 - s) / 4) ∧ w.heap.size ≤ kb ∧ Only (fun _ => False) w w'

set_option maxRecDepth 100000 in
set_option maxHeartbeats 8000000 in
theorem grownE_any (xa xs xk : Int) (n : Nat) (hn : n ≤ 100000) (w : World) :
    Calls Tryz.prog 102 #[.int .i64 n, .agg #[.int .i64 xa, .int .i64 xs, .int .i64 xk]] w (GrownP 256 163 3 [.int .i64 xa, .int .i64 xs, .int .i64 xk] n w) := by
  obtain ⟨i0, hi⟩ : ∃ i, Tryz.prog.info? 163 = some i := ⟨_, rfl⟩
  have HIT := Lib.hid (And.intro hi (And.intro (show i0.zero = some (.agg #[.int .i64 0, .int .i64 0, .int .i64 0]) by cases hi; rfl) (And.intro (show i0.size = 3 by cases hi; rfl) (show i0.bytes = 24 by cases hi; rfl))))
  clear hi
  unfold GrownP
  go_enter Tryz.func102, Tryz.ntmps102
  have HB0 := Lib.hid ((At.new w 163 #[.int .i64 xa, .int .i64 xs, .int .i64 xk]).alloc (.cells #[.slice none 0 0, .slice none 0 0, .slice none 0 0, .slice none 0 0] 256))
  have HK0 : Hid (At ((w.alloc (.cells #[.int .i64 xa, .int .i64 xs, .int .i64 xk] 163)).alloc (.cells #[.slice none 0 0, .slice none 0 0, .slice none 0 0, .slice none 0 0] 256)) (w.heap.size + 1) 256 #[.slice none 0 0, .slice none 0 0, .slice none 0 0, .slice none 0 0]) := Lib.hid (At.new' (w := (w.alloc (.cells #[.int .i64 xa, .int .i64 xs, .int .i64 xk] 163))) (by simp) 256 _)
  have HO0 := Lib.hid (((Only.refl (fun _ => False) w).alloc (.cells #[.int .i64 xa, .int .i64 xs, .int .i64 xk] 163)).alloc (.cells #[.slice none 0 0, .slice none 0 0, .slice none 0 0, .slice none 0 0] 256))
  go_wp2_with (fail)
  go_loopw [6, 10] (fun v6 v10 wr => ∃ (i : Nat) (sh : Nat → Sh), i ≤ n ∧ v10 = .int .i64 i ∧ At wr w.heap.size 163 #[.int .i64 xa, .int .i64 xs, .int .i64 xk] ∧ KAt wr (w.heap.size + 1) 256 163 3 sh (fun s => flat [.int .i64 xa, .int .i64 xs, .int .i64 xk] (sh s).n) (w.heap.size + 1) ∧ (∀ s, s < 4 → (sh s).n = (i + 3 - s) / 4) ∧ Only (fun _ => False) w wr) (fun _ v10 _ => (n - intOf v10).toNat)
  case atStart => exact ⟨0, fun _ => ⟨none, 0, 0, 0⟩, by omega, rfl, HB0.out, ⟨HK0.out, fun s hs => .inl ⟨rfl, rfl, rfl, rfl⟩, fun _ _ _ _ _ h => absurd rfl h, fun _ _ h => absurd rfl h⟩, fun s hs => by show 0 = _; omega, HO0.out⟩
  case round =>
    obtain ⟨i, sh, hi, rfl, hb, hk, hcnt, hO⟩ := hrel
    have HB := Lib.hid hb
    clear hb HB0
    have HK := Lib.hid hk
    have HC := Lib.hid hcnt
    have HO := Lib.hid hO
    clear hk hcnt hO HK0 HO0
    by_cases hin : i < n
    · have i1 : (i : Int) < n := by omega
      obtain ⟨s, hs⟩ : ∃ s, s = i % 4 := ⟨_, rfl⟩
      have HS := Lib.hid hs
      have hs4 : s < 4 := by omega
      have s0 : (0 : Int) ≤ s := by omega
      have s1 : (s : Int) < 4 := by omega
      have hsr : (i : Int).tmod 4 = s := by rw [Int.tmod_eq_emod_of_nonneg (by omega)]; omega
      have hsr2 : IntKind.i64.wrap (s : Int) = s := IntWalk.i64_in _ (by omega)
      have hsr3 : wrap64 (s : Int) = s := by rw [← IntWalk.i64_left]; exact hsr2
      have hsr4 : (i : Int) % 4 = s := by omega
      have cS := HK.out.cell s hs4
      have hrow := HK.out.row s hs4
      have hlt := HK.out.st.lt
      have HKd := Lib.hid (HK.out.quiet ((Only.refl (fun _ => False) wr).drew.alloc (.cells #[.int .i64 xa, .int .i64 xs, .int .i64 xk] 163)))
      have cS2 := HKd.out.cell s hs4
      have HPU := Lib.hid (fun (A' : Option Addr) (n' c' g' : Nat) (ys : List Value) (w8 : World) => HKd.out.push (w8 := w8) (by decide) s hs4 A' n' c' g' ys)
      have HGE := Lib.hid (HKd.out.ge s hs4)
      have HROWb := Lib.hid (HKd.out.row s hs4)
      have HN := Lib.hid (At.new wr.drew 163 #[.int .i64 xa, .int .i64 xs, .int .i64 xk])
      have HBd := Lib.hid (HB.out.only ((Only.refl (fun _ => False) wr).drew.alloc (.cells #[.int .i64 xa, .int .i64 xs, .int .i64 xk] 163)) id)
      have HOb := Lib.hid (HO.out.trans ((Only.refl (fun _ => False) wr).drew.alloc (.cells #[.int .i64 xa, .int .i64 xs, .int .i64 xk] 163)))
      have HSHS : Hid (upd' sh s = fun x t => if t = s then x else sh t) := Lib.hid rfl
      generalize hsh : sh s = x at *
      have HSH := Lib.hid hsh
      clear hsh
      obtain ⟨A, m, c, g⟩ := x
      simp only at *
      have hmb : m ≤ 100000 := by have h1 := HC.out s hs4; rw [HSH.out] at h1; simp only at h1; omega
      have hkm : m + 1 ≤ maxLen := by unfold maxLen; omega
      clear hs hrow
      go_upto_region 5 with (fail)
      refine wp_region_held_drew (S := (fun W => (W.cell? ⟨w.heap.size, 0, none⟩ = some (.int .i64 xa) ∧ W.cell? ⟨w.heap.size, 1, none⟩ = some (.int .i64 xs)) ∧ W.cell? ⟨w.heap.size, 2, none⟩ = some (.int .i64 xk))) (by kernel_rfl) ?_ (fun hHeld => ?_)
      · exact ⟨⟨HB.out.cell 0, HB.out.cell 1⟩, HB.out.cell 2⟩
      refine wpAnyH_take (i := 0) (oi := { dst := some 13, op := Op.move (Operand.tmp 5), type := 139, pos := "l2p.go:22", after := #[], guard := none }) (v := ?_) rfl (by kernel_rfl) (by kernel_rfl) (by kernel_rfl) (fun _ _ _ h => h) (Or.inl ⟨by rfl, ?_⟩) (by assumption) ?_
      rotate_left
      · (intro w hSw; (try dsimp only at hSw); (try obtain ⟨hSa, hSb⟩ := hSw); go_simp; try with_reducible rfl)
      try simp only [Act.put, List.setIfInBounds_toArray, List.set_cons_zero, List.set_cons_succ]
      refine wpAnyH_take (i := 1) (oi := { dst := some 14, op := Op.move (Operand.tmp 6), type := 3, pos := "l2p.go:22", after := #[], guard := none }) (v := ?_) rfl (by kernel_rfl) (by kernel_rfl) (by kernel_rfl) (fun _ _ _ h => h) (Or.inl ⟨by rfl, ?_⟩) (by assumption) ?_
      rotate_left
      · (intro w hSw; (try dsimp only at hSw); (try obtain ⟨hSa, hSb⟩ := hSw); go_simp; try with_reducible rfl)
      try simp only [Act.put, List.setIfInBounds_toArray, List.set_cons_zero, List.set_cons_succ]
      refine wpAnyH_take (i := 2) (oi := { dst := some 15, op := Op.binOp BinOp.rem 3 (Operand.tmp 14) (Operand.const (Value.int IntKind.i64 4)) 3, type := 3, pos := "l2p.go:22", after := #[{ on := 1, ground := Ground.data }], guard := none }) (v := ?_) rfl (by kernel_rfl) (by kernel_rfl) (by kernel_rfl) (fun _ _ _ h => h) (Or.inl ⟨by rfl, ?_⟩) (by assumption) ?_
      rotate_left
      · (intro w hSw; (try dsimp only at hSw); (try obtain ⟨hSa, hSb⟩ := hSw); go_simp; try with_reducible rfl)
      try simp only [Act.put, List.setIfInBounds_toArray, List.set_cons_zero, List.set_cons_succ]
      refine wpAnyH_take (i := 3) (oi := { dst := some 16, op := Op.move (Operand.tmp 5), type := 139, pos := "l2p.go:22", after := #[], guard := none }) (v := ?_) rfl (by kernel_rfl) (by kernel_rfl) (by kernel_rfl) (fun _ _ _ h => h) (Or.inl ⟨by rfl, ?_⟩) (by assumption) ?_
      rotate_left
      · (intro w hSw; (try dsimp only at hSw); (try obtain ⟨hSa, hSb⟩ := hSw); go_simp; try with_reducible rfl)
      try simp only [Act.put, List.setIfInBounds_toArray, List.set_cons_zero, List.set_cons_succ]
      refine wpAnyH_take (i := 4) (oi := { dst := some 17, op := Op.move (Operand.tmp 6), type := 3, pos := "l2p.go:22", after := #[], guard := none }) (v := ?_) rfl (by kernel_rfl) (by kernel_rfl) (by kernel_rfl) (fun _ _ _ h => h) (Or.inl ⟨by rfl, ?_⟩) (by assumption) ?_
      rotate_left
      · (intro w hSw; (try dsimp only at hSw); (try obtain ⟨hSa, hSb⟩ := hSw); go_simp; try with_reducible rfl)
      try simp only [Act.put, List.setIfInBounds_toArray, List.set_cons_zero, List.set_cons_succ]
      refine wpAnyH_take (i := 5) (oi := { dst := some 18, op := Op.binOp BinOp.rem 3 (Operand.tmp 17) (Operand.const (Value.int IntKind.i64 4)) 3, type := 3, pos := "l2p.go:22", after := #[{ on := 4, ground := Ground.data }], guard := none }) (v := ?_) rfl (by kernel_rfl) (by kernel_rfl) (by kernel_rfl) (fun _ _ _ h => h) (Or.inl ⟨by rfl, ?_⟩) (by assumption) ?_
      rotate_left
      · (intro w hSw; (try dsimp only at hSw); (try obtain ⟨hSa, hSb⟩ := hSw); go_simp; try with_reducible rfl)
      try simp only [Act.put, List.setIfInBounds_toArray, List.set_cons_zero, List.set_cons_succ]
      refine wpAnyH_take (i := 6) (oi := { dst := some 19, op := Op.nilCheck (Operand.tmp 16), type := 0, pos := "l2p.go:22", after := #[{ on := 3, ground := Ground.data }], guard := none }) (v := ?_) rfl (by kernel_rfl) (by kernel_rfl) (by kernel_rfl) (fun _ _ _ h => h) (Or.inl ⟨by rfl, ?_⟩) (by assumption) ?_
      rotate_left
      · (intro w hSw; (try dsimp only at hSw); (try obtain ⟨hSa, hSb⟩ := hSw); go_simp; try with_reducible rfl)
      try simp only [Act.put, List.setIfInBounds_toArray, List.set_cons_zero, List.set_cons_succ]
      refine wpAnyH_take (i := 7) (oi := { dst := some 20, op := Op.fieldAddr 256 (Operand.tmp 19) 0, type := 0, pos := "l2p.go:22", after := #[{ on := 6, ground := Ground.data }], guard := none }) (v := ?_) rfl (by kernel_rfl) (by kernel_rfl) (by kernel_rfl) (fun _ _ _ h => h) (Or.inl ⟨by rfl, ?_⟩) (by assumption) ?_
      rotate_left
      · (intro w hSw; (try dsimp only at hSw); (try obtain ⟨hSa, hSb⟩ := hSw); go_simp; try with_reducible rfl)
      try simp only [Act.put, List.setIfInBounds_toArray, List.set_cons_zero, List.set_cons_succ]
      refine wpAnyH_take (i := 8) (oi := { dst := some 21, op := Op.indexAddr 254 (Operand.tmp 20) (Operand.tmp 18), type := 0, pos := "l2p.go:22", after := #[{ on := 7, ground := Ground.data }, { on := 5, ground := Ground.data }], guard := none }) (v := ?_) rfl (by kernel_rfl) (by kernel_rfl) (by kernel_rfl) (fun _ _ _ h => h) (Or.inl ⟨by rfl, ?_⟩) (by assumption) ?_
      rotate_left
      · (intro w hSw; (try dsimp only at hSw); (try obtain ⟨hSa, hSb⟩ := hSw); go_simp; try with_reducible rfl)
      try simp only [Act.put, List.setIfInBounds_toArray, List.set_cons_zero, List.set_cons_succ]
      refine wpAnyH_take (i := 9) (oi := { dst := some 22, op := Op.fieldAddr 253 (Operand.tmp 21) 0, type := 0, pos := "l2p.go:22", after := #[{ on := 8, ground := Ground.data }], guard := none }) (v := ?_) rfl (by kernel_rfl) (by kernel_rfl) (by kernel_rfl) (fun _ _ _ h => h) (Or.inl ⟨by rfl, ?_⟩) (by assumption) ?_
      rotate_left
      · (intro w hSw; (try dsimp only at hSw); (try obtain ⟨hSa, hSb⟩ := hSw); go_simp; try with_reducible rfl)
      try simp only [Act.put, List.setIfInBounds_toArray, List.set_cons_zero, List.set_cons_succ]
      refine wpAnyH_take (i := 11) (oi := { dst := some 24, op := Op.load 163 (Operand.tmp 3), type := 163, pos := "l2p.go:22", after := #[], guard := none }) (v := ?_) rfl (by kernel_rfl) (by kernel_rfl) (by kernel_rfl) (fun _ _ _ h => h) (Or.inl ⟨by rfl, ?_⟩) (by assumption) ?_
      rotate_left
      · (intro w hSw; (try dsimp only at hSw); (try obtain ⟨hSa, hSb⟩ := hSw); go_simp; try with_reducible rfl)
      try simp only [Act.put, List.setIfInBounds_toArray, List.set_cons_zero, List.set_cons_succ]
      refine wpAnyH_take (i := 14) (oi := { dst := some 27, op := Op.nilCheck (Operand.tmp 13), type := 0, pos := "l2p.go:22", after := #[{ on := 0, ground := Ground.data }], guard := none }) (v := ?_) rfl (by kernel_rfl) (by kernel_rfl) (by kernel_rfl) (fun _ _ _ h => h) (Or.inl ⟨by rfl, ?_⟩) (by assumption) ?_
      rotate_left
      · (intro w hSw; (try dsimp only at hSw); (try obtain ⟨hSa, hSb⟩ := hSw); go_simp; try with_reducible rfl)
      try simp only [Act.put, List.setIfInBounds_toArray, List.set_cons_zero, List.set_cons_succ]
      refine wpAnyH_take (i := 15) (oi := { dst := some 28, op := Op.fieldAddr 256 (Operand.tmp 27) 0, type := 0, pos := "l2p.go:22", after := #[{ on := 14, ground := Ground.data }], guard := none }) (v := ?_) rfl (by kernel_rfl) (by kernel_rfl) (by kernel_rfl) (fun _ _ _ h => h) (Or.inl ⟨by rfl, ?_⟩) (by assumption) ?_
      rotate_left
      · (intro w hSw; (try dsimp only at hSw); (try obtain ⟨hSa, hSb⟩ := hSw); go_simp; try with_reducible rfl)
      try simp only [Act.put, List.setIfInBounds_toArray, List.set_cons_zero, List.set_cons_succ]
      refine wpAnyH_ready (rs := [10, 12]) (by kernel_rfl) (by simp) ?_
      refine AllReadyH.cons (o := { dst := some 23, op := Op.load 130 (Operand.tmp 22), type := 130, pos := "l2p.go:22", after := #[{ on := 9, ground := Ground.data }], guard := none }) rfl (fun K hK => ?_) (AllReadyH.cons (o := { dst := some 25, op := Op.buildSlice 130 1 #[(0, Operand.tmp 24)], type := 130, pos := "l2p.go:22", after := #[{ on := 11, ground := Ground.data }], guard := none }) rfl (fun K hK => ?_) AllReadyH.nil)
      · skip
        go_simp
        refine hK.out _ _ ?_ (fun hHeld => ?_)
        · exact ⟨⟨HB.out.cell 0, HB.out.cell 1⟩, HB.out.cell 2⟩
        clear hK K
        try simp only [Act.put, List.setIfInBounds_toArray, List.set_cons_zero, List.set_cons_succ]
        refine wpAnyH_ready (rs := [12]) (by kernel_rfl) (by simp) ?_
        refine AllReadyH.cons (o := { dst := some 25, op := Op.buildSlice 130 1 #[(0, Operand.tmp 24)], type := 130, pos := "l2p.go:22", after := #[{ on := 11, ground := Ground.data }], guard := none }) rfl (fun K hK => ?_) AllReadyH.nil
        go_simp
        refine hK.out _ _ ?_ (fun hHeld => ?_)
        · exact ⟨⟨HBd.out.cell 0, HBd.out.cell 1⟩, HBd.out.cell 2⟩
        clear hK K
        try simp only [Act.put, List.setIfInBounds_toArray, List.set_cons_zero, List.set_cons_succ]
        refine wpAnyH_ready (rs := [13]) (by kernel_rfl) (by simp) ?_
        refine AllReadyH.cons (o := { dst := some 26, op := Op.call { callee := Callee.builtin Builtin.append, args := #[Operand.tmp 23, Operand.tmp 25], argTypes := #[130, 130] }, type := 130, pos := "l2p.go:22", after := #[{ on := 10, ground := Ground.data }, { on := 12, ground := Ground.data }], guard := none }) rfl (fun K hK => ?_) AllReadyH.nil
        refine step_append_row rfl (.tmp 23) (.tmp 25) 130 rfl 163 i0 (.agg #[.int .i64 0, .int .i64 0, .int .i64 0]) 3 24 Tryz.underlying130 HIT.out.1 HIT.out.2.1 HIT.out.2.2.1 HIT.out.2.2.2 rfl (by decide) A m c g (flat [.int .i64 xa, .int .i64 xs, .int .i64 xk] m) rfl HROWb.out ⟨wr.heap.size, 0, none⟩ [.int .i64 xa, .int .i64 xs, .int .i64 xk] 1 rfl rfl (fun j u hj => At.reads HN.out j u hj) (by simp [Value.oneCell']) hkm (by omega) ?_
        intro A3 c3 g3 w8 hrow3 hO3 hA3
        have HA3 := Lib.hid hA3
        have hKn := HPU.out A3 (m + 1) c3 g3 _ w8 hO3 hrow3 hA3 (by have h2 := HKd.out.st.lt; omega)
        have HKN := Lib.hid hKn
        have hst8 := HKd.out.st.only hO3 (fun h => HROWb.out.neAt HKd.out.st h.1 (by decide) h.2.symm)
        have f8 := hst8.frozen s
        have c8 := (hst8.cell s).trans (by rw [List.getElem?_toArray, shv_get sh s hs4, HSH.out])
        have HB8 := Lib.hid (HBd.out.only hO3 (fun h => by have := HGE.out h.1; omega))
        have HB9 := Lib.hid (HB8.out.only ((Only.refl (fun i => i = (w.heap.size + 1)) w8).setCell (p := ⟨(w.heap.size + 1), s, none⟩) (fun _ => rfl) (.slice A3 (m + 1) c3)) (by omega))
        have HO8 := Lib.hid (HOb.out.trans' hO3 (fun i hi e => by have := HGE.out e.1; omega))
        clear hrow3 hO3 hA3 hKn hst8
        refine hK.out _ _ ?_ (fun hHeld => ?_)
        · exact ⟨⟨HB8.out.cell 0, HB8.out.cell 1⟩, HB8.out.cell 2⟩
        clear hK K
        try simp only [Act.put, List.setIfInBounds_toArray, List.set_cons_zero, List.set_cons_succ]
        refine wpAnyH_take (i := 16) (oi := { dst := some 29, op := Op.indexAddr 254 (Operand.tmp 28) (Operand.tmp 15), type := 0, pos := "l2p.go:22", after := #[{ on := 15, ground := Ground.data }, { on := 2, ground := Ground.data }, { on := 0, ground := Ground.phase }, { on := 1, ground := Ground.phase }, { on := 2, ground := Ground.phase }, { on := 3, ground := Ground.phase }, { on := 4, ground := Ground.phase }, { on := 5, ground := Ground.phase }, { on := 6, ground := Ground.phase }, { on := 7, ground := Ground.phase }, { on := 8, ground := Ground.phase }, { on := 9, ground := Ground.phase }, { on := 10, ground := Ground.phase }, { on := 11, ground := Ground.phase }, { on := 12, ground := Ground.phase }, { on := 13, ground := Ground.phase }], guard := none }) (v := ?_) rfl (by kernel_rfl) (by kernel_rfl) (by kernel_rfl) (fun _ _ _ h => h) (Or.inl ⟨by rfl, ?_⟩) (by assumption) ?_
        rotate_left
        · (intro w hSw; (try dsimp only at hSw); (try obtain ⟨hSa, hSb⟩ := hSw); go_simp; try with_reducible rfl)
        try simp only [Act.put, List.setIfInBounds_toArray, List.set_cons_zero, List.set_cons_succ]
        refine wpAnyH_take (i := 17) (oi := { dst := some 30, op := Op.fieldAddr 253 (Operand.tmp 29) 0, type := 0, pos := "l2p.go:22", after := #[{ on := 16, ground := Ground.data }, { on := 0, ground := Ground.phase }, { on := 1, ground := Ground.phase }, { on := 2, ground := Ground.phase }, { on := 3, ground := Ground.phase }, { on := 4, ground := Ground.phase }, { on := 5, ground := Ground.phase }, { on := 6, ground := Ground.phase }, { on := 7, ground := Ground.phase }, { on := 8, ground := Ground.phase }, { on := 9, ground := Ground.phase }, { on := 10, ground := Ground.phase }, { on := 11, ground := Ground.phase }, { on := 12, ground := Ground.phase }, { on := 13, ground := Ground.phase }], guard := none }) (v := ?_) rfl (by kernel_rfl) (by kernel_rfl) (by kernel_rfl) (fun _ _ _ h => h) (Or.inl ⟨by rfl, ?_⟩) (by assumption) ?_
        rotate_left
        · (intro w hSw; (try dsimp only at hSw); (try obtain ⟨hSa, hSb⟩ := hSw); go_simp; try with_reducible rfl)
        try simp only [Act.put, List.setIfInBounds_toArray, List.set_cons_zero, List.set_cons_succ]
        refine wpAnyH_ready (rs := [18]) (by kernel_rfl) (by simp) ?_
        refine AllReadyH.cons (o := { dst := none, op := Op.store 130 (Operand.tmp 30) (Operand.tmp 26), type := 0, pos := "l2p.go:22", after := #[{ on := 17, ground := Ground.data }, { on := 13, ground := Ground.data }, { on := 13, ground := Ground.chain }, { on := 0, ground := Ground.phase }, { on := 1, ground := Ground.phase }, { on := 2, ground := Ground.phase }, { on := 3, ground := Ground.phase }, { on := 4, ground := Ground.phase }, { on := 5, ground := Ground.phase }, { on := 6, ground := Ground.phase }, { on := 7, ground := Ground.phase }, { on := 8, ground := Ground.phase }, { on := 9, ground := Ground.phase }, { on := 10, ground := Ground.phase }, { on := 11, ground := Ground.phase }, { on := 12, ground := Ground.phase }, { on := 13, ground := Ground.phase }], guard := none }) rfl (fun K hK => ?_) AllReadyH.nil
        go_simp
        refine hK.out _ _ ?_ (fun hHeld => ?_)
        · exact ⟨⟨HB9.out.cell 0, HB9.out.cell 1⟩, HB9.out.cell 2⟩
        clear hK K
        try simp only [Act.put, List.setIfInBounds_toArray, List.set_cons_zero, List.set_cons_succ]
        refine wpAnyH_done (by kernel_rfl) ?_ _
        have HOz := Lib.hid (HO8.out.setCell (p := ⟨(w.heap.size + 1), s, none⟩) (fun h => by simp at h; omega) (.slice A3 (m + 1) c3))
        go_wp2_with (fail)
        go_roundw
        case rel =>
          refine ⟨i + 1, upd' sh s ⟨A3, m + 1, c3, g3⟩, by omega, by simp, HB9.out, ?_, ?_, HOz.out⟩
          · rw [← upd_flat [.int .i64 xa, .int .i64 xs, .int .i64 xk] sh s ⟨A3, m + 1, c3, g3⟩ m rfl]
            exact HKN.out
          · exact upd_cnt sh s i _ HC.out HS.out (by rw [HSH.out])
        case measure => simp [intOf]; omega
      · skip
        go_simp
        refine hK.out _ _ ?_ (fun hHeld => ?_)
        · exact ⟨⟨HBd.out.cell 0, HBd.out.cell 1⟩, HBd.out.cell 2⟩
        clear hK K
        try simp only [Act.put, List.setIfInBounds_toArray, List.set_cons_zero, List.set_cons_succ]
        refine wpAnyH_ready (rs := [10]) (by kernel_rfl) (by simp) ?_
        refine AllReadyH.cons (o := { dst := some 23, op := Op.load 130 (Operand.tmp 22), type := 130, pos := "l2p.go:22", after := #[{ on := 9, ground := Ground.data }], guard := none }) rfl (fun K hK => ?_) AllReadyH.nil
        go_simp
        refine hK.out _ _ ?_ (fun hHeld => ?_)
        · exact ⟨⟨HBd.out.cell 0, HBd.out.cell 1⟩, HBd.out.cell 2⟩
        clear hK K
        try simp only [Act.put, List.setIfInBounds_toArray, List.set_cons_zero, List.set_cons_succ]
        refine wpAnyH_ready (rs := [13]) (by kernel_rfl) (by simp) ?_
        refine AllReadyH.cons (o := { dst := some 26, op := Op.call { callee := Callee.builtin Builtin.append, args := #[Operand.tmp 23, Operand.tmp 25], argTypes := #[130, 130] }, type := 130, pos := "l2p.go:22", after := #[{ on := 10, ground := Ground.data }, { on := 12, ground := Ground.data }], guard := none }) rfl (fun K hK => ?_) AllReadyH.nil
        refine step_append_row rfl (.tmp 23) (.tmp 25) 130 rfl 163 i0 (.agg #[.int .i64 0, .int .i64 0, .int .i64 0]) 3 24 Tryz.underlying130 HIT.out.1 HIT.out.2.1 HIT.out.2.2.1 HIT.out.2.2.2 rfl (by decide) A m c g (flat [.int .i64 xa, .int .i64 xs, .int .i64 xk] m) rfl HROWb.out ⟨wr.heap.size, 0, none⟩ [.int .i64 xa, .int .i64 xs, .int .i64 xk] 1 rfl rfl (fun j u hj => At.reads HN.out j u hj) (by simp [Value.oneCell']) hkm (by omega) ?_
        intro A3 c3 g3 w8 hrow3 hO3 hA3
        have HA3 := Lib.hid hA3
        have hKn := HPU.out A3 (m + 1) c3 g3 _ w8 hO3 hrow3 hA3 (by have h2 := HKd.out.st.lt; omega)
        have HKN := Lib.hid hKn
        have hst8 := HKd.out.st.only hO3 (fun h => HROWb.out.neAt HKd.out.st h.1 (by decide) h.2.symm)
        have f8 := hst8.frozen s
        have c8 := (hst8.cell s).trans (by rw [List.getElem?_toArray, shv_get sh s hs4, HSH.out])
        have HB8 := Lib.hid (HBd.out.only hO3 (fun h => by have := HGE.out h.1; omega))
        have HB9 := Lib.hid (HB8.out.only ((Only.refl (fun i => i = (w.heap.size + 1)) w8).setCell (p := ⟨(w.heap.size + 1), s, none⟩) (fun _ => rfl) (.slice A3 (m + 1) c3)) (by omega))
        have HO8 := Lib.hid (HOb.out.trans' hO3 (fun i hi e => by have := HGE.out e.1; omega))
        clear hrow3 hO3 hA3 hKn hst8
        refine hK.out _ _ ?_ (fun hHeld => ?_)
        · exact ⟨⟨HB8.out.cell 0, HB8.out.cell 1⟩, HB8.out.cell 2⟩
        clear hK K
        try simp only [Act.put, List.setIfInBounds_toArray, List.set_cons_zero, List.set_cons_succ]
        refine wpAnyH_take (i := 16) (oi := { dst := some 29, op := Op.indexAddr 254 (Operand.tmp 28) (Operand.tmp 15), type := 0, pos := "l2p.go:22", after := #[{ on := 15, ground := Ground.data }, { on := 2, ground := Ground.data }, { on := 0, ground := Ground.phase }, { on := 1, ground := Ground.phase }, { on := 2, ground := Ground.phase }, { on := 3, ground := Ground.phase }, { on := 4, ground := Ground.phase }, { on := 5, ground := Ground.phase }, { on := 6, ground := Ground.phase }, { on := 7, ground := Ground.phase }, { on := 8, ground := Ground.phase }, { on := 9, ground := Ground.phase }, { on := 10, ground := Ground.phase }, { on := 11, ground := Ground.phase }, { on := 12, ground := Ground.phase }, { on := 13, ground := Ground.phase }], guard := none }) (v := ?_) rfl (by kernel_rfl) (by kernel_rfl) (by kernel_rfl) (fun _ _ _ h => h) (Or.inl ⟨by rfl, ?_⟩) (by assumption) ?_
        rotate_left
        · (intro w hSw; (try dsimp only at hSw); (try obtain ⟨hSa, hSb⟩ := hSw); go_simp; try with_reducible rfl)
        try simp only [Act.put, List.setIfInBounds_toArray, List.set_cons_zero, List.set_cons_succ]
        refine wpAnyH_take (i := 17) (oi := { dst := some 30, op := Op.fieldAddr 253 (Operand.tmp 29) 0, type := 0, pos := "l2p.go:22", after := #[{ on := 16, ground := Ground.data }, { on := 0, ground := Ground.phase }, { on := 1, ground := Ground.phase }, { on := 2, ground := Ground.phase }, { on := 3, ground := Ground.phase }, { on := 4, ground := Ground.phase }, { on := 5, ground := Ground.phase }, { on := 6, ground := Ground.phase }, { on := 7, ground := Ground.phase }, { on := 8, ground := Ground.phase }, { on := 9, ground := Ground.phase }, { on := 10, ground := Ground.phase }, { on := 11, ground := Ground.phase }, { on := 12, ground := Ground.phase }, { on := 13, ground := Ground.phase }], guard := none }) (v := ?_) rfl (by kernel_rfl) (by kernel_rfl) (by kernel_rfl) (fun _ _ _ h => h) (Or.inl ⟨by rfl, ?_⟩) (by assumption) ?_
        rotate_left
        · (intro w hSw; (try dsimp only at hSw); (try obtain ⟨hSa, hSb⟩ := hSw); go_simp; try with_reducible rfl)
        try simp only [Act.put, List.setIfInBounds_toArray, List.set_cons_zero, List.set_cons_succ]
        refine wpAnyH_ready (rs := [18]) (by kernel_rfl) (by simp) ?_
        refine AllReadyH.cons (o := { dst := none, op := Op.store 130 (Operand.tmp 30) (Operand.tmp 26), type := 0, pos := "l2p.go:22", after := #[{ on := 17, ground := Ground.data }, { on := 13, ground := Ground.data }, { on := 13, ground := Ground.chain }, { on := 0, ground := Ground.phase }, { on := 1, ground := Ground.phase }, { on := 2, ground := Ground.phase }, { on := 3, ground := Ground.phase }, { on := 4, ground := Ground.phase }, { on := 5, ground := Ground.phase }, { on := 6, ground := Ground.phase }, { on := 7, ground := Ground.phase }, { on := 8, ground := Ground.phase }, { on := 9, ground := Ground.phase }, { on := 10, ground := Ground.phase }, { on := 11, ground := Ground.phase }, { on := 12, ground := Ground.phase }, { on := 13, ground := Ground.phase }], guard := none }) rfl (fun K hK => ?_) AllReadyH.nil
        go_simp
        refine hK.out _ _ ?_ (fun hHeld => ?_)
        · exact ⟨⟨HB9.out.cell 0, HB9.out.cell 1⟩, HB9.out.cell 2⟩
        clear hK K
        try simp only [Act.put, List.setIfInBounds_toArray, List.set_cons_zero, List.set_cons_succ]
        refine wpAnyH_done (by kernel_rfl) ?_ _
        have HOz := Lib.hid (HO8.out.setCell (p := ⟨(w.heap.size + 1), s, none⟩) (fun h => by simp at h; omega) (.slice A3 (m + 1) c3))
        go_wp2_with (fail)
        go_roundw
        case rel =>
          refine ⟨i + 1, upd' sh s ⟨A3, m + 1, c3, g3⟩, by omega, by simp, HB9.out, ?_, ?_, HOz.out⟩
          · rw [← upd_flat [.int .i64 xa, .int .i64 xs, .int .i64 xk] sh s ⟨A3, m + 1, c3, g3⟩ m rfl]
            exact HKN.out
          · exact upd_cnt sh s i _ HC.out HS.out (by rw [HSH.out])
        case measure => simp [intOf]; omega
    · obtain rfl : i = n := by omega
      have i1 : decide ((i : Int) < i) = false := by simp
      have HL : Hid (w.heap.size ≤ (w.heap.size + 1)) := Lib.hid (by omega)
      go_wp2
      go_ret
      exact ⟨(w.heap.size + 1), sh, rfl, HK.out.weak (by omega), HC.out, HL.out, HO.out⟩

set_option maxRecDepth 100000 in
set_option maxHeartbeats 8000000 in
theorem grownI_any (z : Int) (n : Nat) (hn : n ≤ 100000) (w : World) :
    Calls Tryz.prog 103 #[.int .i64 n, .int .i64 z] w (GrownP 261 3 1 [.int .i64 z] n w) := by
  obtain ⟨i0, hi⟩ : ∃ i, Tryz.prog.info? 3 = some i := ⟨_, rfl⟩
  have HIT := Lib.hid (And.intro hi (And.intro (show i0.zero = some (.int .i64 0) by cases hi; rfl) (And.intro (show i0.size = 1 by cases hi; rfl) (show i0.bytes = 8 by cases hi; rfl))))
  clear hi
  unfold GrownP
  go_enter Tryz.func103, Tryz.ntmps103
  have HK0 : Hid (At (w.alloc (.cells #[.slice none 0 0, .slice none 0 0, .slice none 0 0, .slice none 0 0] 261)) w.heap.size 261 #[.slice none 0 0, .slice none 0 0, .slice none 0 0, .slice none 0 0]) := Lib.hid (At.new' (w := w) (by simp) 261 _)
  have HO0 := Lib.hid ((Only.refl (fun _ => False) w).alloc (.cells #[.slice none 0 0, .slice none 0 0, .slice none 0 0, .slice none 0 0] 261))
  go_wp2_with (fail)
  go_loopw [6, 10] (fun v6 v10 wr => ∃ (i : Nat) (sh : Nat → Sh), i ≤ n ∧ v10 = .int .i64 i ∧ KAt wr w.heap.size 261 3 1 sh (fun s => flat [.int .i64 z] (sh s).n) (w.heap.size + 1) ∧ (∀ s, s < 4 → (sh s).n = (i + 3 - s) / 4) ∧ Only (fun _ => False) w wr) (fun _ v10 _ => (n - intOf v10).toNat)
  case atStart => exact ⟨0, fun _ => ⟨none, 0, 0, 0⟩, by omega, rfl, ⟨HK0.out, fun s hs => .inl ⟨rfl, rfl, rfl, rfl⟩, fun _ _ _ _ _ h => absurd rfl h, fun _ _ h => absurd rfl h⟩, fun s hs => by show 0 = _; omega, HO0.out⟩
  case round =>
    obtain ⟨i, sh, hi, rfl, hk, hcnt, hO⟩ := hrel
    have HK := Lib.hid hk
    have HC := Lib.hid hcnt
    have HO := Lib.hid hO
    clear hk hcnt hO HK0 HO0
    by_cases hin : i < n
    · have i1 : (i : Int) < n := by omega
      obtain ⟨s, hs⟩ : ∃ s, s = i % 4 := ⟨_, rfl⟩
      have HS := Lib.hid hs
      have hs4 : s < 4 := by omega
      have s0 : (0 : Int) ≤ s := by omega
      have s1 : (s : Int) < 4 := by omega
      have hsr : (i : Int).tmod 4 = s := by rw [Int.tmod_eq_emod_of_nonneg (by omega)]; omega
      have hsr2 : IntKind.i64.wrap (s : Int) = s := IntWalk.i64_in _ (by omega)
      have hsr3 : wrap64 (s : Int) = s := by rw [← IntWalk.i64_left]; exact hsr2
      have hsr4 : (i : Int) % 4 = s := by omega
      have cS := HK.out.cell s hs4
      have hrow := HK.out.row s hs4
      have hlt := HK.out.st.lt
      have HKd := Lib.hid (HK.out.quiet ((Only.refl (fun _ => False) wr).drew.alloc (.cells #[.int .i64 z] 3)))
      have cS2 := HKd.out.cell s hs4
      have HPU := Lib.hid (fun (A' : Option Addr) (n' c' g' : Nat) (ys : List Value) (w8 : World) => HKd.out.push (w8 := w8) (by decide) s hs4 A' n' c' g' ys)
      have HGE := Lib.hid (HKd.out.ge s hs4)
      have HROWb := Lib.hid (HKd.out.row s hs4)
      have HN := Lib.hid (At.new wr.drew 3 #[.int .i64 z])
      have HOb := Lib.hid (HO.out.trans ((Only.refl (fun _ => False) wr).drew.alloc (.cells #[.int .i64 z] 3)))
      have HSHS : Hid (upd' sh s = fun x t => if t = s then x else sh t) := Lib.hid rfl
      generalize hsh : sh s = x at *
      have HSH := Lib.hid hsh
      clear hsh
      obtain ⟨A, m, c, g⟩ := x
      simp only at *
      have hmb : m ≤ 100000 := by have h1 := HC.out s hs4; rw [HSH.out] at h1; simp only at h1; omega
      have hkm : m + 1 ≤ maxLen := by unfold maxLen; omega
      clear hs hrow
      go_upto_region 5 with (fail)
      refine wp_region_held_drew (S := (fun _ => True)) (by kernel_rfl) ?_ (fun hHeld => ?_)
      · trivial
      refine wpAnyH_take (i := 0) (oi := { dst := some 13, op := Op.move (Operand.tmp 5), type := 140, pos := "l2p.go:22", after := #[], guard := none }) (v := ?_) rfl (by kernel_rfl) (by kernel_rfl) (by kernel_rfl) (fun _ _ _ h => h) (Or.inl ⟨by rfl, ?_⟩) (by assumption) ?_
      rotate_left
      · (intro w hSw; (try dsimp only at hSw); (try obtain ⟨hSa, hSb⟩ := hSw); go_simp; try with_reducible rfl)
      try simp only [Act.put, List.setIfInBounds_toArray, List.set_cons_zero, List.set_cons_succ]
      refine wpAnyH_take (i := 1) (oi := { dst := some 14, op := Op.move (Operand.tmp 6), type := 3, pos := "l2p.go:22", after := #[], guard := none }) (v := ?_) rfl (by kernel_rfl) (by kernel_rfl) (by kernel_rfl) (fun _ _ _ h => h) (Or.inl ⟨by rfl, ?_⟩) (by assumption) ?_
      rotate_left
      · (intro w hSw; (try dsimp only at hSw); (try obtain ⟨hSa, hSb⟩ := hSw); go_simp; try with_reducible rfl)
      try simp only [Act.put, List.setIfInBounds_toArray, List.set_cons_zero, List.set_cons_succ]
      refine wpAnyH_take (i := 2) (oi := { dst := some 15, op := Op.binOp BinOp.rem 3 (Operand.tmp 14) (Operand.const (Value.int IntKind.i64 4)) 3, type := 3, pos := "l2p.go:22", after := #[{ on := 1, ground := Ground.data }], guard := none }) (v := ?_) rfl (by kernel_rfl) (by kernel_rfl) (by kernel_rfl) (fun _ _ _ h => h) (Or.inl ⟨by rfl, ?_⟩) (by assumption) ?_
      rotate_left
      · (intro w hSw; (try dsimp only at hSw); (try obtain ⟨hSa, hSb⟩ := hSw); go_simp; try with_reducible rfl)
      try simp only [Act.put, List.setIfInBounds_toArray, List.set_cons_zero, List.set_cons_succ]
      refine wpAnyH_take (i := 3) (oi := { dst := some 16, op := Op.move (Operand.tmp 5), type := 140, pos := "l2p.go:22", after := #[], guard := none }) (v := ?_) rfl (by kernel_rfl) (by kernel_rfl) (by kernel_rfl) (fun _ _ _ h => h) (Or.inl ⟨by rfl, ?_⟩) (by assumption) ?_
      rotate_left
      · (intro w hSw; (try dsimp only at hSw); (try obtain ⟨hSa, hSb⟩ := hSw); go_simp; try with_reducible rfl)
      try simp only [Act.put, List.setIfInBounds_toArray, List.set_cons_zero, List.set_cons_succ]
      refine wpAnyH_take (i := 4) (oi := { dst := some 17, op := Op.move (Operand.tmp 6), type := 3, pos := "l2p.go:22", after := #[], guard := none }) (v := ?_) rfl (by kernel_rfl) (by kernel_rfl) (by kernel_rfl) (fun _ _ _ h => h) (Or.inl ⟨by rfl, ?_⟩) (by assumption) ?_
      rotate_left
      · (intro w hSw; (try dsimp only at hSw); (try obtain ⟨hSa, hSb⟩ := hSw); go_simp; try with_reducible rfl)
      try simp only [Act.put, List.setIfInBounds_toArray, List.set_cons_zero, List.set_cons_succ]
      refine wpAnyH_take (i := 5) (oi := { dst := some 18, op := Op.binOp BinOp.rem 3 (Operand.tmp 17) (Operand.const (Value.int IntKind.i64 4)) 3, type := 3, pos := "l2p.go:22", after := #[{ on := 4, ground := Ground.data }], guard := none }) (v := ?_) rfl (by kernel_rfl) (by kernel_rfl) (by kernel_rfl) (fun _ _ _ h => h) (Or.inl ⟨by rfl, ?_⟩) (by assumption) ?_
      rotate_left
      · (intro w hSw; (try dsimp only at hSw); (try obtain ⟨hSa, hSb⟩ := hSw); go_simp; try with_reducible rfl)
      try simp only [Act.put, List.setIfInBounds_toArray, List.set_cons_zero, List.set_cons_succ]
      refine wpAnyH_take (i := 6) (oi := { dst := some 19, op := Op.nilCheck (Operand.tmp 16), type := 0, pos := "l2p.go:22", after := #[{ on := 3, ground := Ground.data }], guard := none }) (v := ?_) rfl (by kernel_rfl) (by kernel_rfl) (by kernel_rfl) (fun _ _ _ h => h) (Or.inl ⟨by rfl, ?_⟩) (by assumption) ?_
      rotate_left
      · (intro w hSw; (try dsimp only at hSw); (try obtain ⟨hSa, hSb⟩ := hSw); go_simp; try with_reducible rfl)
      try simp only [Act.put, List.setIfInBounds_toArray, List.set_cons_zero, List.set_cons_succ]
      refine wpAnyH_take (i := 7) (oi := { dst := some 20, op := Op.fieldAddr 261 (Operand.tmp 19) 0, type := 0, pos := "l2p.go:22", after := #[{ on := 6, ground := Ground.data }], guard := none }) (v := ?_) rfl (by kernel_rfl) (by kernel_rfl) (by kernel_rfl) (fun _ _ _ h => h) (Or.inl ⟨by rfl, ?_⟩) (by assumption) ?_
      rotate_left
      · (intro w hSw; (try dsimp only at hSw); (try obtain ⟨hSa, hSb⟩ := hSw); go_simp; try with_reducible rfl)
      try simp only [Act.put, List.setIfInBounds_toArray, List.set_cons_zero, List.set_cons_succ]
      refine wpAnyH_take (i := 8) (oi := { dst := some 21, op := Op.indexAddr 259 (Operand.tmp 20) (Operand.tmp 18), type := 0, pos := "l2p.go:22", after := #[{ on := 7, ground := Ground.data }, { on := 5, ground := Ground.data }], guard := none }) (v := ?_) rfl (by kernel_rfl) (by kernel_rfl) (by kernel_rfl) (fun _ _ _ h => h) (Or.inl ⟨by rfl, ?_⟩) (by assumption) ?_
      rotate_left
      · (intro w hSw; (try dsimp only at hSw); (try obtain ⟨hSa, hSb⟩ := hSw); go_simp; try with_reducible rfl)
      try simp only [Act.put, List.setIfInBounds_toArray, List.set_cons_zero, List.set_cons_succ]
      refine wpAnyH_take (i := 9) (oi := { dst := some 22, op := Op.fieldAddr 258 (Operand.tmp 21) 0, type := 0, pos := "l2p.go:22", after := #[{ on := 8, ground := Ground.data }], guard := none }) (v := ?_) rfl (by kernel_rfl) (by kernel_rfl) (by kernel_rfl) (fun _ _ _ h => h) (Or.inl ⟨by rfl, ?_⟩) (by assumption) ?_
      rotate_left
      · (intro w hSw; (try dsimp only at hSw); (try obtain ⟨hSa, hSb⟩ := hSw); go_simp; try with_reducible rfl)
      try simp only [Act.put, List.setIfInBounds_toArray, List.set_cons_zero, List.set_cons_succ]
      refine wpAnyH_take (i := 11) (oi := { dst := some 24, op := Op.move (Operand.tmp 1), type := 3, pos := "l2p.go:22", after := #[], guard := none }) (v := ?_) rfl (by kernel_rfl) (by kernel_rfl) (by kernel_rfl) (fun _ _ _ h => h) (Or.inl ⟨by rfl, ?_⟩) (by assumption) ?_
      rotate_left
      · (intro w hSw; (try dsimp only at hSw); (try obtain ⟨hSa, hSb⟩ := hSw); go_simp; try with_reducible rfl)
      try simp only [Act.put, List.setIfInBounds_toArray, List.set_cons_zero, List.set_cons_succ]
      refine wpAnyH_take (i := 14) (oi := { dst := some 27, op := Op.nilCheck (Operand.tmp 13), type := 0, pos := "l2p.go:22", after := #[{ on := 0, ground := Ground.data }], guard := none }) (v := ?_) rfl (by kernel_rfl) (by kernel_rfl) (by kernel_rfl) (fun _ _ _ h => h) (Or.inl ⟨by rfl, ?_⟩) (by assumption) ?_
      rotate_left
      · (intro w hSw; (try dsimp only at hSw); (try obtain ⟨hSa, hSb⟩ := hSw); go_simp; try with_reducible rfl)
      try simp only [Act.put, List.setIfInBounds_toArray, List.set_cons_zero, List.set_cons_succ]
      refine wpAnyH_take (i := 15) (oi := { dst := some 28, op := Op.fieldAddr 261 (Operand.tmp 27) 0, type := 0, pos := "l2p.go:22", after := #[{ on := 14, ground := Ground.data }], guard := none }) (v := ?_) rfl (by kernel_rfl) (by kernel_rfl) (by kernel_rfl) (fun _ _ _ h => h) (Or.inl ⟨by rfl, ?_⟩) (by assumption) ?_
      rotate_left
      · (intro w hSw; (try dsimp only at hSw); (try obtain ⟨hSa, hSb⟩ := hSw); go_simp; try with_reducible rfl)
      try simp only [Act.put, List.setIfInBounds_toArray, List.set_cons_zero, List.set_cons_succ]
      refine wpAnyH_ready (rs := [10, 12]) (by kernel_rfl) (by simp) ?_
      refine AllReadyH.cons (o := { dst := some 23, op := Op.load 26 (Operand.tmp 22), type := 26, pos := "l2p.go:22", after := #[{ on := 9, ground := Ground.data }], guard := none }) rfl (fun K hK => ?_) (AllReadyH.cons (o := { dst := some 25, op := Op.buildSlice 26 1 #[(0, Operand.tmp 24)], type := 26, pos := "l2p.go:22", after := #[{ on := 11, ground := Ground.data }], guard := none }) rfl (fun K hK => ?_) AllReadyH.nil)
      · skip
        go_simp
        refine hK.out _ _ ?_ (fun hHeld => ?_)
        · trivial
        clear hK K
        try simp only [Act.put, List.setIfInBounds_toArray, List.set_cons_zero, List.set_cons_succ]
        refine wpAnyH_ready (rs := [12]) (by kernel_rfl) (by simp) ?_
        refine AllReadyH.cons (o := { dst := some 25, op := Op.buildSlice 26 1 #[(0, Operand.tmp 24)], type := 26, pos := "l2p.go:22", after := #[{ on := 11, ground := Ground.data }], guard := none }) rfl (fun K hK => ?_) AllReadyH.nil
        go_simp
        refine hK.out _ _ ?_ (fun hHeld => ?_)
        · trivial
        clear hK K
        try simp only [Act.put, List.setIfInBounds_toArray, List.set_cons_zero, List.set_cons_succ]
        refine wpAnyH_ready (rs := [13]) (by kernel_rfl) (by simp) ?_
        refine AllReadyH.cons (o := { dst := some 26, op := Op.call { callee := Callee.builtin Builtin.append, args := #[Operand.tmp 23, Operand.tmp 25], argTypes := #[26, 26] }, type := 26, pos := "l2p.go:22", after := #[{ on := 10, ground := Ground.data }, { on := 12, ground := Ground.data }], guard := none }) rfl (fun K hK => ?_) AllReadyH.nil
        refine step_append_row rfl (.tmp 23) (.tmp 25) 26 rfl 3 i0 (.int .i64 0) 1 8 Tryz.underlying26 HIT.out.1 HIT.out.2.1 HIT.out.2.2.1 HIT.out.2.2.2 rfl (by decide) A m c g (flat [.int .i64 z] m) rfl HROWb.out ⟨wr.heap.size, 0, none⟩ [.int .i64 z] 1 rfl rfl (fun j u hj => At.reads HN.out j u hj) (by simp [Value.oneCell']) hkm (by omega) ?_
        intro A3 c3 g3 w8 hrow3 hO3 hA3
        have HA3 := Lib.hid hA3
        have hKn := HPU.out A3 (m + 1) c3 g3 _ w8 hO3 hrow3 hA3 (by have h2 := HKd.out.st.lt; omega)
        have HKN := Lib.hid hKn
        have hst8 := HKd.out.st.only hO3 (fun h => HROWb.out.neAt HKd.out.st h.1 (by decide) h.2.symm)
        have f8 := hst8.frozen s
        have c8 := (hst8.cell s).trans (by rw [List.getElem?_toArray, shv_get sh s hs4, HSH.out])
        have HO8 := Lib.hid (HOb.out.trans' hO3 (fun i hi e => by have := HGE.out e.1; omega))
        clear hrow3 hO3 hA3 hKn hst8
        refine hK.out _ _ ?_ (fun hHeld => ?_)
        · trivial
        clear hK K
        try simp only [Act.put, List.setIfInBounds_toArray, List.set_cons_zero, List.set_cons_succ]
        refine wpAnyH_take (i := 16) (oi := { dst := some 29, op := Op.indexAddr 259 (Operand.tmp 28) (Operand.tmp 15), type := 0, pos := "l2p.go:22", after := #[{ on := 15, ground := Ground.data }, { on := 2, ground := Ground.data }, { on := 0, ground := Ground.phase }, { on := 1, ground := Ground.phase }, { on := 2, ground := Ground.phase }, { on := 3, ground := Ground.phase }, { on := 4, ground := Ground.phase }, { on := 5, ground := Ground.phase }, { on := 6, ground := Ground.phase }, { on := 7, ground := Ground.phase }, { on := 8, ground := Ground.phase }, { on := 9, ground := Ground.phase }, { on := 10, ground := Ground.phase }, { on := 11, ground := Ground.phase }, { on := 12, ground := Ground.phase }, { on := 13, ground := Ground.phase }], guard := none }) (v := ?_) rfl (by kernel_rfl) (by kernel_rfl) (by kernel_rfl) (fun _ _ _ h => h) (Or.inl ⟨by rfl, ?_⟩) (by assumption) ?_
        rotate_left
        · (intro w hSw; (try dsimp only at hSw); (try obtain ⟨hSa, hSb⟩ := hSw); go_simp; try with_reducible rfl)
        try simp only [Act.put, List.setIfInBounds_toArray, List.set_cons_zero, List.set_cons_succ]
        refine wpAnyH_take (i := 17) (oi := { dst := some 30, op := Op.fieldAddr 258 (Operand.tmp 29) 0, type := 0, pos := "l2p.go:22", after := #[{ on := 16, ground := Ground.data }, { on := 0, ground := Ground.phase }, { on := 1, ground := Ground.phase }, { on := 2, ground := Ground.phase }, { on := 3, ground := Ground.phase }, { on := 4, ground := Ground.phase }, { on := 5, ground := Ground.phase }, { on := 6, ground := Ground.phase }, { on := 7, ground := Ground.phase }, { on := 8, ground := Ground.phase }, { on := 9, ground := Ground.phase }, { on := 10, ground := Ground.phase }, { on := 11, ground := Ground.phase }, { on := 12, ground := Ground.phase }, { on := 13, ground := Ground.phase }], guard := none }) (v := ?_) rfl (by kernel_rfl) (by kernel_rfl) (by kernel_rfl) (fun _ _ _ h => h) (Or.inl ⟨by rfl, ?_⟩) (by assumption) ?_
        rotate_left
        · (intro w hSw; (try dsimp only at hSw); (try obtain ⟨hSa, hSb⟩ := hSw); go_simp; try with_reducible rfl)
        try simp only [Act.put, List.setIfInBounds_toArray, List.set_cons_zero, List.set_cons_succ]
        refine wpAnyH_ready (rs := [18]) (by kernel_rfl) (by simp) ?_
        refine AllReadyH.cons (o := { dst := none, op := Op.store 26 (Operand.tmp 30) (Operand.tmp 26), type := 0, pos := "l2p.go:22", after := #[{ on := 17, ground := Ground.data }, { on := 13, ground := Ground.data }, { on := 13, ground := Ground.chain }, { on := 0, ground := Ground.phase }, { on := 1, ground := Ground.phase }, { on := 2, ground := Ground.phase }, { on := 3, ground := Ground.phase }, { on := 4, ground := Ground.phase }, { on := 5, ground := Ground.phase }, { on := 6, ground := Ground.phase }, { on := 7, ground := Ground.phase }, { on := 8, ground := Ground.phase }, { on := 9, ground := Ground.phase }, { on := 10, ground := Ground.phase }, { on := 11, ground := Ground.phase }, { on := 12, ground := Ground.phase }, { on := 13, ground := Ground.phase }], guard := none }) rfl (fun K hK => ?_) AllReadyH.nil
        go_simp
        refine hK.out _ _ ?_ (fun hHeld => ?_)
        · trivial
        clear hK K
        try simp only [Act.put, List.setIfInBounds_toArray, List.set_cons_zero, List.set_cons_succ]
        refine wpAnyH_done (by kernel_rfl) ?_ _
        have HOz := Lib.hid (HO8.out.setCell (p := ⟨w.heap.size, s, none⟩) (fun h => by simp at h) (.slice A3 (m + 1) c3))
        go_wp2_with (fail)
        go_roundw
        case rel =>
          refine ⟨i + 1, upd' sh s ⟨A3, m + 1, c3, g3⟩, by omega, by simp, ?_, ?_, HOz.out⟩
          · rw [← upd_flat [.int .i64 z] sh s ⟨A3, m + 1, c3, g3⟩ m rfl]
            exact HKN.out
          · exact upd_cnt sh s i _ HC.out HS.out (by rw [HSH.out])
        case measure => simp [intOf]; omega
      · skip
        go_simp
        refine hK.out _ _ ?_ (fun hHeld => ?_)
        · trivial
        clear hK K
        try simp only [Act.put, List.setIfInBounds_toArray, List.set_cons_zero, List.set_cons_succ]
        refine wpAnyH_ready (rs := [10]) (by kernel_rfl) (by simp) ?_
        refine AllReadyH.cons (o := { dst := some 23, op := Op.load 26 (Operand.tmp 22), type := 26, pos := "l2p.go:22", after := #[{ on := 9, ground := Ground.data }], guard := none }) rfl (fun K hK => ?_) AllReadyH.nil
        go_simp
        refine hK.out _ _ ?_ (fun hHeld => ?_)
        · trivial
        clear hK K
        try simp only [Act.put, List.setIfInBounds_toArray, List.set_cons_zero, List.set_cons_succ]
        refine wpAnyH_ready (rs := [13]) (by kernel_rfl) (by simp) ?_
        refine AllReadyH.cons (o := { dst := some 26, op := Op.call { callee := Callee.builtin Builtin.append, args := #[Operand.tmp 23, Operand.tmp 25], argTypes := #[26, 26] }, type := 26, pos := "l2p.go:22", after := #[{ on := 10, ground := Ground.data }, { on := 12, ground := Ground.data }], guard := none }) rfl (fun K hK => ?_) AllReadyH.nil
        refine step_append_row rfl (.tmp 23) (.tmp 25) 26 rfl 3 i0 (.int .i64 0) 1 8 Tryz.underlying26 HIT.out.1 HIT.out.2.1 HIT.out.2.2.1 HIT.out.2.2.2 rfl (by decide) A m c g (flat [.int .i64 z] m) rfl HROWb.out ⟨wr.heap.size, 0, none⟩ [.int .i64 z] 1 rfl rfl (fun j u hj => At.reads HN.out j u hj) (by simp [Value.oneCell']) hkm (by omega) ?_
        intro A3 c3 g3 w8 hrow3 hO3 hA3
        have HA3 := Lib.hid hA3
        have hKn := HPU.out A3 (m + 1) c3 g3 _ w8 hO3 hrow3 hA3 (by have h2 := HKd.out.st.lt; omega)
        have HKN := Lib.hid hKn
        have hst8 := HKd.out.st.only hO3 (fun h => HROWb.out.neAt HKd.out.st h.1 (by decide) h.2.symm)
        have f8 := hst8.frozen s
        have c8 := (hst8.cell s).trans (by rw [List.getElem?_toArray, shv_get sh s hs4, HSH.out])
        have HO8 := Lib.hid (HOb.out.trans' hO3 (fun i hi e => by have := HGE.out e.1; omega))
        clear hrow3 hO3 hA3 hKn hst8
        refine hK.out _ _ ?_ (fun hHeld => ?_)
        · trivial
        clear hK K
        try simp only [Act.put, List.setIfInBounds_toArray, List.set_cons_zero, List.set_cons_succ]
        refine wpAnyH_take (i := 16) (oi := { dst := some 29, op := Op.indexAddr 259 (Operand.tmp 28) (Operand.tmp 15), type := 0, pos := "l2p.go:22", after := #[{ on := 15, ground := Ground.data }, { on := 2, ground := Ground.data }, { on := 0, ground := Ground.phase }, { on := 1, ground := Ground.phase }, { on := 2, ground := Ground.phase }, { on := 3, ground := Ground.phase }, { on := 4, ground := Ground.phase }, { on := 5, ground := Ground.phase }, { on := 6, ground := Ground.phase }, { on := 7, ground := Ground.phase }, { on := 8, ground := Ground.phase }, { on := 9, ground := Ground.phase }, { on := 10, ground := Ground.phase }, { on := 11, ground := Ground.phase }, { on := 12, ground := Ground.phase }, { on := 13, ground := Ground.phase }], guard := none }) (v := ?_) rfl (by kernel_rfl) (by kernel_rfl) (by kernel_rfl) (fun _ _ _ h => h) (Or.inl ⟨by rfl, ?_⟩) (by assumption) ?_
        rotate_left
        · (intro w hSw; (try dsimp only at hSw); (try obtain ⟨hSa, hSb⟩ := hSw); go_simp; try with_reducible rfl)
        try simp only [Act.put, List.setIfInBounds_toArray, List.set_cons_zero, List.set_cons_succ]
        refine wpAnyH_take (i := 17) (oi := { dst := some 30, op := Op.fieldAddr 258 (Operand.tmp 29) 0, type := 0, pos := "l2p.go:22", after := #[{ on := 16, ground := Ground.data }, { on := 0, ground := Ground.phase }, { on := 1, ground := Ground.phase }, { on := 2, ground := Ground.phase }, { on := 3, ground := Ground.phase }, { on := 4, ground := Ground.phase }, { on := 5, ground := Ground.phase }, { on := 6, ground := Ground.phase }, { on := 7, ground := Ground.phase }, { on := 8, ground := Ground.phase }, { on := 9, ground := Ground.phase }, { on := 10, ground := Ground.phase }, { on := 11, ground := Ground.phase }, { on := 12, ground := Ground.phase }, { on := 13, ground := Ground.phase }], guard := none }) (v := ?_) rfl (by kernel_rfl) (by kernel_rfl) (by kernel_rfl) (fun _ _ _ h => h) (Or.inl ⟨by rfl, ?_⟩) (by assumption) ?_
        rotate_left
        · (intro w hSw; (try dsimp only at hSw); (try obtain ⟨hSa, hSb⟩ := hSw); go_simp; try with_reducible rfl)
        try simp only [Act.put, List.setIfInBounds_toArray, List.set_cons_zero, List.set_cons_succ]
        refine wpAnyH_ready (rs := [18]) (by kernel_rfl) (by simp) ?_
        refine AllReadyH.cons (o := { dst := none, op := Op.store 26 (Operand.tmp 30) (Operand.tmp 26), type := 0, pos := "l2p.go:22", after := #[{ on := 17, ground := Ground.data }, { on := 13, ground := Ground.data }, { on := 13, ground := Ground.chain }, { on := 0, ground := Ground.phase }, { on := 1, ground := Ground.phase }, { on := 2, ground := Ground.phase }, { on := 3, ground := Ground.phase }, { on := 4, ground := Ground.phase }, { on := 5, ground := Ground.phase }, { on := 6, ground := Ground.phase }, { on := 7, ground := Ground.phase }, { on := 8, ground := Ground.phase }, { on := 9, ground := Ground.phase }, { on := 10, ground := Ground.phase }, { on := 11, ground := Ground.phase }, { on := 12, ground := Ground.phase }, { on := 13, ground := Ground.phase }], guard := none }) rfl (fun K hK => ?_) AllReadyH.nil
        go_simp
        refine hK.out _ _ ?_ (fun hHeld => ?_)
        · trivial
        clear hK K
        try simp only [Act.put, List.setIfInBounds_toArray, List.set_cons_zero, List.set_cons_succ]
        refine wpAnyH_done (by kernel_rfl) ?_ _
        have HOz := Lib.hid (HO8.out.setCell (p := ⟨w.heap.size, s, none⟩) (fun h => by simp at h) (.slice A3 (m + 1) c3))
        go_wp2_with (fail)
        go_roundw
        case rel =>
          refine ⟨i + 1, upd' sh s ⟨A3, m + 1, c3, g3⟩, by omega, by simp, ?_, ?_, HOz.out⟩
          · rw [← upd_flat [.int .i64 z] sh s ⟨A3, m + 1, c3, g3⟩ m rfl]
            exact HKN.out
          · exact upd_cnt sh s i _ HC.out HS.out (by rw [HSH.out])
        case measure => simp [intOf]; omega
    · obtain rfl : i = n := by omega
      have i1 : decide ((i : Int) < i) = false := by simp
      have HL : Hid (w.heap.size ≤ w.heap.size) := Lib.hid (by omega)
      go_wp2
      go_ret
      exact ⟨w.heap.size, sh, rfl, HK.out.weak (by omega), HC.out, HL.out, HO.out⟩
end Go.Proofs.YtjobaplioidogaaGreat
