/- Victim: the insertion sort of a run. -/
import Derived.Test.YtbcjpchjidgpeaaI
namespace Go.Proofs.Ytbcjpchjidgpeaa
open Go.RowKit

theorem nrow_cells {w : World} {c g off n : Nat} {d : List Nat} (h : RowAt w (some ⟨g, off, none⟩) n c g 3 1 (nv d)) :
    ∀ m, m < d.length → w.cell? ⟨g, off + m, none⟩ = some (.int .i64 (ix d m : Int)) ∧ w.frozen? ⟨g, off + m, none⟩ = false := by
  intro m hm
  obtain ⟨off', hA, hc⟩ := nrow_at h (by omega)
  injection hA with hA
  injection hA with _ hA _
  subst hA
  exact hc m hm

/-- Sorted from a to b. -/
def So (l : List Ln) (d : List Nat) (a b : Nat) : Prop := ∀ p q, a ≤ p → p < q → q < b → lt l (ix d p) (ix d q)
/-- Ascending numbers from a to b. -/
def Asc (d : List Nat) (a b : Nat) : Prop := ∀ p q, a ≤ p → p < q → q < b → ix d p < ix d q
/-- All are numbers of lines. -/
def Bd (l : List Ln) (d : List Nat) : Prop := ∀ e ∈ d, e < l.length
/-- Between a and b the same have changed places. -/
structure Fr (d d' : List Nat) (a b : Nat) : Prop where
  out : ∀ p, p < a ∨ b ≤ p → ix d' p = ix d p
  inn : ∀ p, a ≤ p → p < b → ∃ q, a ≤ q ∧ q < b ∧ ix d' p = ix d q
  perm : d'.Perm d
theorem Fr.refl (d : List Nat) (a b : Nat) : Fr d d a b := ⟨fun _ _ => rfl, fun p h1 h2 => ⟨p, h1, h2, rfl⟩, List.Perm.refl _⟩
theorem Fr.trans {d d' d'' : List Nat} {a b : Nat} (h : Fr d d' a b) (h' : Fr d' d'' a b) : Fr d d'' a b :=
  ⟨fun p hp => (h'.out p hp).trans (h.out p hp), fun p h1 h2 => by
    obtain ⟨q, q1, q2, q3⟩ := h'.inn p h1 h2
    obtain ⟨r, r1, r2, r3⟩ := h.inn q q1 q2
    exact ⟨r, r1, r2, q3.trans r3⟩, h'.perm.trans h.perm⟩
theorem Fr.widen {d d' : List Nat} {a b a' b' : Nat} (h : Fr d d' a b) (h1 : a' ≤ a) (h2 : b ≤ b') : Fr d d' a' b' :=
  ⟨fun p hp => h.out p (by omega), fun p p1 p2 => by
    by_cases hp : a ≤ p ∧ p < b
    · obtain ⟨q, q1, q2, q3⟩ := h.inn p hp.1 hp.2
      exact ⟨q, by omega, by omega, q3⟩
    · exact ⟨p, p1, p2, h.out p (by omega)⟩, h.perm⟩
theorem Fr.len {d d' : List Nat} {a b : Nat} (h : Fr d d' a b) : d'.length = d.length := h.perm.length_eq
theorem Bd.fr {l : List Ln} {d d' : List Nat} {a b : Nat} (h : Bd l d) (f : Fr d d' a b) : Bd l d' := fun e he => h e (f.perm.mem_iff.1 he)
theorem Bd.ix {l : List Ln} {d : List Nat} (h : Bd l d) (p : Nat) (hp : p < d.length) : ix d p < l.length := by
  refine h _ ?_
  simp only [Proofs.Ytbcjpchjidgpeaa.ix, List.getD, List.getElem?_eq_getElem hp, Option.getD_some]
  exact List.getElem_mem hp
theorem sw_fr (d : List Nat) (i j a b : Nat) (hi : a ≤ i ∧ i < b) (hj : a ≤ j ∧ j < b) (hb : b ≤ d.length) : Fr d (sw d i j) a b := by
  have h := fun p => sw_ix d i j p (by omega) (by omega)
  refine ⟨fun p hp => ?_, fun p h1 h2 => ?_, sw_perm d i j (by omega) (by omega)⟩
  · rw [h, if_neg (by omega), if_neg (by omega)]
  · rw [h]
    split
    · exact ⟨i, hi.1, hi.2, rfl⟩
    · split
      · exact ⟨j, hj.1, hj.2, rfl⟩
      · exact ⟨p, h1, h2, rfl⟩

/-- An insertion under way: v, which stood at i in d, stands at j in e. -/
structure Ins (l : List Ln) (d e : List Nat) (a i j : Nat) : Prop where
  fr : Fr d e a (i + 1)
  rg : a ≤ j ∧ j ≤ i
  v : ix e j = ix d i
  oth : ∀ p, a ≤ p → p ≤ i → p ≠ j → ∃ q, a ≤ q ∧ q < i ∧ ix e p = ix d q
  so : ∀ p q, a ≤ p → p < q → q ≤ i → p ≠ j → q ≠ j → lt l (ix e p) (ix e q)
  gt : ∀ q, j < q → q ≤ i → lt l (ix d i) (ix e q)
theorem Ins.start {l : List Ln} {d : List Nat} {a i : Nat} (h : So l d a i) (ha : a ≤ i) : Ins l d d a i i :=
  ⟨Fr.refl _ _ _, ⟨ha, Nat.le_refl _⟩, rfl, fun p h1 h2 h3 => ⟨p, h1, by omega, rfl⟩, fun p q h1 h2 h3 h4 h5 => h p q h1 h2 (by omega), fun q h1 h2 => by omega⟩
theorem Ins.step {l : List Ln} {d e : List Nat} {a i k : Nat} (h : Ins l d e a i (k + 1)) (ha : a ≤ k) (hi : i < d.length) (hlt : lt l (ix d i) (ix e k)) : Ins l d (sw e (k + 1) k) a i k := by
  have hel := h.fr.len
  have hr := h.rg
  have hs := fun p => sw_ix e (k + 1) k p (by omega) (by omega)
  refine ⟨h.fr.trans (sw_fr e (k + 1) k a (i + 1) (by omega) (by omega) (by omega)), by omega, ?_, fun p h1 h2 h3 => ?_, fun p q h1 h2 h3 h4 h5 => ?_, fun q h1 h2 => ?_⟩
  · rw [hs, if_pos rfl]; exact h.v
  · rw [hs, if_neg h3]
    by_cases hp : p = k + 1
    · rw [if_pos hp]; exact h.oth k ha (by omega) (by omega)
    · rw [if_neg hp]; exact h.oth p h1 h2 hp
  · rw [hs, hs, if_neg h4, if_neg h5]
    by_cases hp : p = k + 1
    · subst hp
      rw [if_pos rfl, if_neg (by omega)]
      exact h.so k q ha (by omega) h3 (by omega) (by omega)
    · rw [if_neg hp]
      by_cases hq : q = k + 1
      · subst hq
        rw [if_pos rfl]
        exact h.so p k h1 (by omega) (by omega) hp (by omega)
      · rw [if_neg hq]
        exact h.so p q h1 h2 h3 hp hq
  · rw [hs, if_neg (by omega)]
    by_cases hq : q = k + 1
    · rw [if_pos hq]; exact hlt
    · rw [if_neg hq]; exact h.gt q (by omega) h2
theorem Ins.stop {l : List Ln} {d e : List Nat} {a i j : Nat} (h : Ins l d e a i j) (hlo : ∀ q, a ≤ q → q < i → ix d q < ix d i) (hs : j = a ∨ ∃ k, j = k + 1 ∧ a ≤ k ∧ ¬ lt l (ix d i) (ix e k)) : So l e a (i + 1) := by
  intro p q h1 h2 h3
  have hr := h.rg
  by_cases hp : p = j
  · subst hp
    rw [h.v]; exact h.gt q h2 (by omega)
  · by_cases hq : q = j
    · subst hq
      rcases hs with hs | ⟨k, hk, hak, hn⟩
      · omega
      · subst hk
        rw [h.v]
        obtain ⟨r, r1, r2, r3⟩ := h.oth k hak (by omega) (by omega)
        have hkv : lt l (ix e k) (ix d i) := lt_not (by rw [r3]; have := hlo r r1 r2; omega) hn
        by_cases hpk : p = k
        · subst hpk; exact hkv
        · exact lt_trans (h.so p k h1 (by omega) (by omega) hp (by omega)) hkv
    · exact h.so p q h1 h2 (by omega) hp hq

def SortP (l : List Ln) (A : Option Addr) (c g : Nat) (n : Nat) (d : List Nat) (a b : Nat) (w : World) (e : Ending) (w' : World) : Prop :=
  ∃ d' : List Nat, e = .returned (.tuple #[]) ∧ Fr d d' a b ∧ So l d' a b ∧ RowAt w' A n c g 3 1 (nv d') ∧ Only (fun i => i = g) w w'

set_option maxRecDepth 100000 in
set_option maxHeartbeats 8000000 in
theorem ins_any (l : List Ln) (x : Nat) (A : Option Addr) (c g : Nat) (d : List Nat) (a b : Nat) (n : Nat) (hn : d.length = n) (w : World) (h : RowAt w A n c g 3 1 (nv d)) (hC : Cmp l x g w) (hBd : Bd l d) (hA : Asc d a b) (h1 : a ≤ b) (h3 : b ≤ n) (h4 : n ≤ 100000) :
    Calls Try.prog 25 #[.slice A n c, .int .i64 a, .int .i64 b, .func (.func 21) #[] #[.pointer (some ⟨x, 0, none⟩)]] w (SortP l A c g n d a b w) := by
  have HR := Lib.hid h
  have HN := Lib.hid hn
  have HC := Lib.hid hC
  have HBD := Lib.hid hBd
  have HA := Lib.hid hA
  clear hn h hC hBd hA
  unfold SortP
  go_enter Try.func25, Try.ntmps25
  go_wp2_with (fail)
  go_loopw [8, 9] (fun v8 v9 wr => ∃ (i : Nat) (e : List Nat), a < i ∧ i ≤ b + 1 ∧ v8 = .int .i64 i ∧ Fr d e a (min i b) ∧ So l e a (min i b) ∧ RowAt wr A n c g 3 1 (nv e) ∧ Only (fun i => i = g) w wr) (fun v8 _ _ => (b + 1 - intOf v8).toNat)
  case atStart => exact ⟨a + 1, d, by omega, by omega, by simp, Fr.refl _ _ _, fun p q h1 h2 h3 => by omega, HR.out, Only.refl _ _⟩
  case round =>
    obtain ⟨i, e, hai, hib, rfl, hfr, hso, hrow, hO⟩ := hrel
    have HO := Lib.hid hO
    have HROW := Lib.hid hrow
    clear hO hrow
    by_cases hlt : i < b
    case neg =>
      have q1 : ¬ (i : Int) < b := by omega
      rw [show min i b = b by omega] at hfr hso
      have HF := Lib.hid (And.intro hfr hso)
      clear hfr hso
      go_wp2
      refine bodyPost_end (results_none rfl _ _ _) rfl ?_
      exact ⟨rfl, e, HF.out.1, HF.out.2, HROW.out, HO.out⟩
    have q1 : (i : Int) < b := by omega
    rw [show min i b = i by omega] at hfr hso
    have hel : e.length = n := by rw [hfr.len, HN.out]
    have hlo : ∀ q, a ≤ q → q < i → ix e q < ix e i := by
      intro q h5 h6
      obtain ⟨r, r1, r2, r3⟩ := hfr.inn q h5 h6
      rw [r3, hfr.out i (by omega)]
      exact HA.out r i r1 r2 hlt
    have HLO := Lib.hid hlo
    have HEL := Lib.hid hel
    have HB := Lib.hid (HBD.out.fr hfr)
    have HFR := Lib.hid hfr
    have HI0 := Lib.hid (Ins.start hso (by omega))
    clear hlo hel hfr hso
    go_wp2_with (fail)
    go_loopw [9] (fun v9 wr => ∃ (j : Nat) (e' : List Nat), v9 = .int .i64 j ∧ Ins l e e' a i j ∧ RowAt wr A n c g 3 1 (nv e') ∧ Only (fun i => i = g) w wr) (fun v9 _ => (intOf v9).toNat)
    case atStart => exact ⟨i, e, rfl, HI0.out, HROW.out, HO.out⟩
    case round =>
      obtain ⟨j, e', rfl, hI, hrow, hO⟩ := hrel
      have HI := Lib.hid hI
      have HO2 := Lib.hid hO
      have HROW2 := Lib.hid hrow
      have hrg := hI.rg
      clear hI hO hrow HROW HO HI0
      by_cases hja : j = a
      case pos =>
        subst hja
        have HST := Lib.hid (HI.out.stop HLO.out (.inl rfl))
        have d0 : decide ((j : Int) < j) = false := by simp
        go_wp2_with (fail)
        refine wp_region_held_drew (S := (fun _ => True)) (by kernel_rfl) ?_ (fun hHeld => ?_)
        · trivial
        refine wpAnyH_take (i := 0) (oi := { dst := some 18, op := Op.move (Operand.tmp 9), type := 3, pos := "zsortanyfunc.go:12", after := #[], guard := none }) (v := ?_) rfl (by kernel_rfl) (by kernel_rfl) (by kernel_rfl) (fun _ _ _ h => h) (Or.inl ⟨by rfl, ?_⟩) (by assumption) ?_
        rotate_left
        · (intro w hSw; (try dsimp only at hSw); (try obtain ⟨hSa, hSb⟩ := hSw); go_simp; try with_reducible rfl)
        try simp only [Act.put, List.setIfInBounds_toArray, List.set_cons_zero, List.set_cons_succ]
        refine wpAnyH_take (i := 1) (oi := { dst := some 19, op := Op.move (Operand.tmp 1), type := 3, pos := "zsortanyfunc.go:12", after := #[], guard := none }) (v := ?_) rfl (by kernel_rfl) (by kernel_rfl) (by kernel_rfl) (fun _ _ _ h => h) (Or.inl ⟨by rfl, ?_⟩) (by assumption) ?_
        rotate_left
        · (intro w hSw; (try dsimp only at hSw); (try obtain ⟨hSa, hSb⟩ := hSw); go_simp; try with_reducible rfl)
        try simp only [Act.put, List.setIfInBounds_toArray, List.set_cons_zero, List.set_cons_succ]
        refine wpAnyH_take (i := 2) (oi := { dst := some 20, op := Op.binOp BinOp.gtr 3 (Operand.tmp 18) (Operand.tmp 19) 3, type := 4, pos := "zsortanyfunc.go:12", after := #[{ on := 0, ground := Ground.data }, { on := 1, ground := Ground.data }], guard := none }) (v := ?_) rfl (by kernel_rfl) (by kernel_rfl) (by kernel_rfl) (fun _ _ _ h => h) (Or.inl ⟨by rfl, ?_⟩) (by assumption) ?_
        rotate_left
        · (intro w hSw; (try dsimp only at hSw); (try obtain ⟨hSa, hSb⟩ := hSw); go_simp; try with_reducible rfl)
        try simp only [Act.put, List.setIfInBounds_toArray, List.set_cons_zero, List.set_cons_succ]
        refine wpAnyH_take (i := 3) (oi := { dst := some 21, op := Op.move (Operand.tmp 20), type := 4, pos := "zsortanyfunc.go:12", after := #[{ on := 2, ground := Ground.data }], guard := none }) (v := ?_) rfl (by kernel_rfl) (by kernel_rfl) (by kernel_rfl) (fun _ _ _ h => h) (Or.inl ⟨by rfl, ?_⟩) (by assumption) ?_
        rotate_left
        · (intro w hSw; (try dsimp only at hSw); (try obtain ⟨hSa, hSb⟩ := hSw); go_simp; try with_reducible rfl)
        try simp only [Act.put, List.setIfInBounds_toArray, List.set_cons_zero, List.set_cons_succ]
        refine wpAnyH_take (i := 4) (oi := { dst := some 22, op := Op.move (Operand.tmp 3), type := 38, pos := "zsortanyfunc.go:12", after := #[{ on := 3, ground := Ground.guard }], guard := some (3, true) }) (v := undef) rfl (by kernel_rfl) (by kernel_rfl) (by kernel_rfl) (fun _ _ _ h => h) (Or.inr ⟨by rfl, rfl⟩) (by assumption) ?_
        try simp only [Act.put, List.setIfInBounds_toArray, List.set_cons_zero, List.set_cons_succ]
        refine wpAnyH_take (i := 5) (oi := { dst := some 23, op := Op.move (Operand.tmp 0), type := 30, pos := "zsortanyfunc.go:12", after := #[{ on := 3, ground := Ground.guard }], guard := some (3, true) }) (v := undef) rfl (by kernel_rfl) (by kernel_rfl) (by kernel_rfl) (fun _ _ _ h => h) (Or.inr ⟨by rfl, rfl⟩) (by assumption) ?_
        try simp only [Act.put, List.setIfInBounds_toArray, List.set_cons_zero, List.set_cons_succ]
        refine wpAnyH_take (i := 6) (oi := { dst := some 24, op := Op.move (Operand.tmp 9), type := 3, pos := "zsortanyfunc.go:12", after := #[{ on := 3, ground := Ground.guard }], guard := some (3, true) }) (v := undef) rfl (by kernel_rfl) (by kernel_rfl) (by kernel_rfl) (fun _ _ _ h => h) (Or.inr ⟨by rfl, rfl⟩) (by assumption) ?_
        try simp only [Act.put, List.setIfInBounds_toArray, List.set_cons_zero, List.set_cons_succ]
        refine wpAnyH_take (i := 7) (oi := { dst := some 25, op := Op.indexAddr 30 (Operand.tmp 23) (Operand.tmp 24), type := 0, pos := "zsortanyfunc.go:12", after := #[{ on := 5, ground := Ground.data }, { on := 6, ground := Ground.data }, { on := 3, ground := Ground.guard }], guard := some (3, true) }) (v := undef) rfl (by kernel_rfl) (by kernel_rfl) (by kernel_rfl) (fun _ _ _ h => h) (Or.inr ⟨by rfl, rfl⟩) (by assumption) ?_
        try simp only [Act.put, List.setIfInBounds_toArray, List.set_cons_zero, List.set_cons_succ]
        refine wpAnyH_take (i := 8) (oi := { dst := some 26, op := Op.load 3 (Operand.tmp 25), type := 3, pos := "zsortanyfunc.go:12", after := #[{ on := 7, ground := Ground.data }, { on := 3, ground := Ground.guard }], guard := some (3, true) }) (v := undef) rfl (by kernel_rfl) (by kernel_rfl) (by kernel_rfl) (fun _ _ _ h => h) (Or.inr ⟨by rfl, rfl⟩) (by assumption) ?_
        try simp only [Act.put, List.setIfInBounds_toArray, List.set_cons_zero, List.set_cons_succ]
        refine wpAnyH_take (i := 9) (oi := { dst := some 27, op := Op.move (Operand.tmp 0), type := 30, pos := "zsortanyfunc.go:12", after := #[{ on := 3, ground := Ground.guard }], guard := some (3, true) }) (v := undef) rfl (by kernel_rfl) (by kernel_rfl) (by kernel_rfl) (fun _ _ _ h => h) (Or.inr ⟨by rfl, rfl⟩) (by assumption) ?_
        try simp only [Act.put, List.setIfInBounds_toArray, List.set_cons_zero, List.set_cons_succ]
        refine wpAnyH_take (i := 10) (oi := { dst := some 28, op := Op.move (Operand.tmp 9), type := 3, pos := "zsortanyfunc.go:12", after := #[{ on := 3, ground := Ground.guard }], guard := some (3, true) }) (v := undef) rfl (by kernel_rfl) (by kernel_rfl) (by kernel_rfl) (fun _ _ _ h => h) (Or.inr ⟨by rfl, rfl⟩) (by assumption) ?_
        try simp only [Act.put, List.setIfInBounds_toArray, List.set_cons_zero, List.set_cons_succ]
        refine wpAnyH_take (i := 11) (oi := { dst := some 29, op := Op.binOp BinOp.sub 3 (Operand.tmp 28) (Operand.const (Value.int IntKind.i64 1)) 3, type := 3, pos := "zsortanyfunc.go:12", after := #[{ on := 10, ground := Ground.data }, { on := 3, ground := Ground.guard }], guard := some (3, true) }) (v := undef) rfl (by kernel_rfl) (by kernel_rfl) (by kernel_rfl) (fun _ _ _ h => h) (Or.inr ⟨by rfl, rfl⟩) (by assumption) ?_
        try simp only [Act.put, List.setIfInBounds_toArray, List.set_cons_zero, List.set_cons_succ]
        refine wpAnyH_take (i := 12) (oi := { dst := some 30, op := Op.indexAddr 30 (Operand.tmp 27) (Operand.tmp 29), type := 0, pos := "zsortanyfunc.go:12", after := #[{ on := 9, ground := Ground.data }, { on := 11, ground := Ground.data }, { on := 3, ground := Ground.guard }], guard := some (3, true) }) (v := undef) rfl (by kernel_rfl) (by kernel_rfl) (by kernel_rfl) (fun _ _ _ h => h) (Or.inr ⟨by rfl, rfl⟩) (by assumption) ?_
        try simp only [Act.put, List.setIfInBounds_toArray, List.set_cons_zero, List.set_cons_succ]
        refine wpAnyH_take (i := 13) (oi := { dst := some 31, op := Op.load 3 (Operand.tmp 30), type := 3, pos := "zsortanyfunc.go:12", after := #[{ on := 12, ground := Ground.data }, { on := 3, ground := Ground.guard }], guard := some (3, true) }) (v := undef) rfl (by kernel_rfl) (by kernel_rfl) (by kernel_rfl) (fun _ _ _ h => h) (Or.inr ⟨by rfl, rfl⟩) (by assumption) ?_
        try simp only [Act.put, List.setIfInBounds_toArray, List.set_cons_zero, List.set_cons_succ]
        refine wpAnyH_take (i := 14) (oi := { dst := some 32, op := Op.call { callee := Callee.value (Operand.tmp 22), args := #[Operand.tmp 26, Operand.tmp 31], argTypes := #[3, 3] }, type := 3, pos := "zsortanyfunc.go:12", after := #[{ on := 4, ground := Ground.data }, { on := 8, ground := Ground.data }, { on := 13, ground := Ground.data }, { on := 3, ground := Ground.chain }, { on := 3, ground := Ground.guard }], guard := some (3, true) }) (v := undef) rfl (by kernel_rfl) (by kernel_rfl) (by kernel_rfl) (fun _ _ _ h => h) (Or.inr ⟨by rfl, rfl⟩) (by assumption) ?_
        try simp only [Act.put, List.setIfInBounds_toArray, List.set_cons_zero, List.set_cons_succ]
        refine wpAnyH_take (i := 15) (oi := { dst := some 33, op := Op.binOp BinOp.lss 3 (Operand.tmp 32) (Operand.const (Value.int IntKind.i64 0)) 3, type := 4, pos := "zsortanyfunc.go:12", after := #[{ on := 14, ground := Ground.data }, { on := 3, ground := Ground.guard }], guard := some (3, true) }) (v := undef) rfl (by kernel_rfl) (by kernel_rfl) (by kernel_rfl) (fun _ _ _ h => h) (Or.inr ⟨by rfl, rfl⟩) (by assumption) ?_
        try simp only [Act.put, List.setIfInBounds_toArray, List.set_cons_zero, List.set_cons_succ]
        refine wpAnyH_take (i := 16) (oi := { dst := some 34, op := Op.pick (Operand.tmp 21) (Operand.tmp 33) (Operand.const (Value.bool false)), type := 4, pos := "zsortanyfunc.go:12", after := #[{ on := 3, ground := Ground.data }, { on := 15, ground := Ground.data }], guard := none }) (v := ?_) rfl (by kernel_rfl) (by kernel_rfl) (by kernel_rfl) (fun _ _ _ h => h) (Or.inl ⟨by rfl, ?_⟩) (by assumption) ?_
        rotate_left
        · (intro w hSw; (try dsimp only at hSw); (try obtain ⟨hSa, hSb⟩ := hSw); go_simp; try with_reducible rfl)
        try simp only [Act.put, List.setIfInBounds_toArray, List.set_cons_zero, List.set_cons_succ]
        refine wpAnyH_done (by kernel_rfl) ?_ _
        go_wp2
        go_roundw
        case rel => exact ⟨i + 1, e', by omega, by omega, by simp, by rw [show min (i + 1) b = i + 1 by omega]; exact (HFR.out.widen (by omega) (by omega)).trans HI.out.fr, by rw [show min (i + 1) b = i + 1 by omega]; exact HST.out, HROW2.out.only ((Only.refl (fun _ => False) _).drew) (fun _ => id), HO2.out.drew⟩
        case measure => simp [intOf]; omega
      obtain ⟨k, rfl⟩ : ∃ k, j = k + 1 := ⟨j - 1, by omega⟩
      have hel' : e'.length = n := by rw [HI.out.fr.len, HEL.out]
      obtain ⟨off, rfl, hc⟩ := nrow_at HROW2.out (by omega)
      obtain ⟨x1, f1⟩ := hc (k + 1) (by omega)
      obtain ⟨x2, f2⟩ := hc k (by omega)
      have hB' := HB.out.fr HI.out.fr
      have HCL := Lib.hid ((HC.out.next HO2.out).call (hB'.ix (k + 1) (by omega)) (hB'.ix k (by omega)))
      have HSTEP : Hid (lt l (ix e' (k + 1)) (ix e' k) → Ins l e (sw e' (k + 1) k) a i k) := Lib.hid (fun hl => HI.out.step (by omega) (by rw [HEL.out]; omega) (by rw [← HI.out.v]; exact hl))
      have HSTOP : Hid (¬ lt l (ix e' (k + 1)) (ix e' k) → So l e' a (i + 1)) := Lib.hid (fun hl => HI.out.stop HLO.out (.inr ⟨k, rfl, by omega, by rw [← HI.out.v]; exact hl⟩))
      have hcl : decide (cmI l (ix e' (k + 1)) (ix e' k) < 0) = true ↔ lt l (ix e' (k + 1)) (ix e' k) := by
        refine cm_lt ?_
        obtain ⟨r, r1, r2, r3⟩ := HI.out.oth k (by omega) (by omega) (by omega)
        rw [r3, HI.out.v]
        exact HLO.out r r1 r2
      have HSW : Hid (∀ W, RowAt W (some ⟨g, off, none⟩) n c g 3 1 (nv e') → RowAt ((W.setCell ⟨g, off + (k + 1), none⟩ (.int .i64 (ix e' k : Int))).setCell ⟨g, off + k, none⟩ (.int .i64 (ix e' (k + 1) : Int))) (some ⟨g, off, none⟩) n c g 3 1 (nv (sw e' (k + 1) k))) :=
        Lib.hid (fun W hW => nrow_sw hW rfl (by omega) (by omega))
      have HCS : Hid (∀ W, Only (fun _ => False) wr W → (W.cell? ⟨g, off + (k + 1), none⟩ = some (.int .i64 (ix e' (k + 1) : Int)) ∧ W.frozen? ⟨g, off + (k + 1), none⟩ = false) ∧ (W.cell? ⟨g, off + k, none⟩ = some (.int .i64 (ix e' k : Int)) ∧ W.frozen? ⟨g, off + k, none⟩ = false)) :=
        Lib.hid (fun W o => ⟨nrow_cells (HROW2.out.only o (fun _ => id)) (k + 1) (by omega), nrow_cells (HROW2.out.only o (fun _ => id)) k (by omega)⟩)
      generalize cmI l (ix e' (k + 1)) (ix e' k) = z at *
      generalize ix e' (k + 1) = y1 at *
      generalize ix e' k = y2 at *
      have j0 : (0 : Int) ≤ (k : Int) + 1 := by omega
      have j1 : (k : Int) + 1 < n := by omega
      have j2 : (0 : Int) ≤ k := by omega
      have j3 : (k : Int) < n := by omega
      have j4 : (a : Int) < (k : Int) + 1 := by omega
      have j5 : IntKind.i64.wrap ((k : Int) + 1 - 1) = k := by rw [IntWalk.i64_in _ (by omega)]; omega
      have j6 : wrap64 ((k : Int) + 1 - 1) = k := by rw [← IntWalk.i64_left]; exact j5
      have j7 : IntKind.i64.wrap (k : Int) = k := IntWalk.i64_in _ (by omega)
      have j8 : wrap64 (k : Int) = k := by rw [← IntWalk.i64_left]; exact j7
      clear hc hel' hB'
      by_cases hz : decide (z < 0) = true
      · have HIN := Lib.hid (HSTEP.out (hcl.1 hz))
        clear hcl HSTEP HSTOP
        go_wp2_with (fail)
        refine wp_region_held_drew (S := (fun W => W.cell? ⟨g, off + (k + 1), none⟩ = some (.int .i64 (y1 : Int)) ∧ W.cell? ⟨g, off + k, none⟩ = some (.int .i64 (y2 : Int)))) (by kernel_rfl) ?_ (fun hHeld => ?_)
        · exact ⟨x1, x2⟩
        refine wpAnyH_take (i := 0) (oi := { dst := some 18, op := Op.move (Operand.tmp 9), type := 3, pos := "zsortanyfunc.go:12", after := #[], guard := none }) (v := ?_) rfl (by kernel_rfl) (by kernel_rfl) (by kernel_rfl) (fun _ _ _ h => h) (Or.inl ⟨by rfl, ?_⟩) (by assumption) ?_
        rotate_left
        · (intro w hSw; (try dsimp only at hSw); (try obtain ⟨hSa, hSb⟩ := hSw); go_simp; try with_reducible rfl)
        try simp only [Act.put, List.setIfInBounds_toArray, List.set_cons_zero, List.set_cons_succ]
        refine wpAnyH_take (i := 1) (oi := { dst := some 19, op := Op.move (Operand.tmp 1), type := 3, pos := "zsortanyfunc.go:12", after := #[], guard := none }) (v := ?_) rfl (by kernel_rfl) (by kernel_rfl) (by kernel_rfl) (fun _ _ _ h => h) (Or.inl ⟨by rfl, ?_⟩) (by assumption) ?_
        rotate_left
        · (intro w hSw; (try dsimp only at hSw); (try obtain ⟨hSa, hSb⟩ := hSw); go_simp; try with_reducible rfl)
        try simp only [Act.put, List.setIfInBounds_toArray, List.set_cons_zero, List.set_cons_succ]
        refine wpAnyH_take (i := 2) (oi := { dst := some 20, op := Op.binOp BinOp.gtr 3 (Operand.tmp 18) (Operand.tmp 19) 3, type := 4, pos := "zsortanyfunc.go:12", after := #[{ on := 0, ground := Ground.data }, { on := 1, ground := Ground.data }], guard := none }) (v := ?_) rfl (by kernel_rfl) (by kernel_rfl) (by kernel_rfl) (fun _ _ _ h => h) (Or.inl ⟨by rfl, ?_⟩) (by assumption) ?_
        rotate_left
        · (intro w hSw; (try dsimp only at hSw); (try obtain ⟨hSa, hSb⟩ := hSw); go_simp; try with_reducible rfl)
        try simp only [Act.put, List.setIfInBounds_toArray, List.set_cons_zero, List.set_cons_succ]
        refine wpAnyH_take (i := 3) (oi := { dst := some 21, op := Op.move (Operand.tmp 20), type := 4, pos := "zsortanyfunc.go:12", after := #[{ on := 2, ground := Ground.data }], guard := none }) (v := ?_) rfl (by kernel_rfl) (by kernel_rfl) (by kernel_rfl) (fun _ _ _ h => h) (Or.inl ⟨by rfl, ?_⟩) (by assumption) ?_
        rotate_left
        · (intro w hSw; (try dsimp only at hSw); (try obtain ⟨hSa, hSb⟩ := hSw); go_simp; try with_reducible rfl)
        try simp only [Act.put, List.setIfInBounds_toArray, List.set_cons_zero, List.set_cons_succ]
        refine wpAnyH_take (i := 4) (oi := { dst := some 22, op := Op.move (Operand.tmp 3), type := 38, pos := "zsortanyfunc.go:12", after := #[{ on := 3, ground := Ground.guard }], guard := some (3, true) }) (v := ?_) rfl (by kernel_rfl) (by kernel_rfl) (by kernel_rfl) (fun _ _ _ h => h) (Or.inl ⟨by rfl, ?_⟩) (by assumption) ?_
        rotate_left
        · (intro w hSw; (try dsimp only at hSw); (try obtain ⟨hSa, hSb⟩ := hSw); go_simp; try with_reducible rfl)
        try simp only [Act.put, List.setIfInBounds_toArray, List.set_cons_zero, List.set_cons_succ]
        refine wpAnyH_take (i := 5) (oi := { dst := some 23, op := Op.move (Operand.tmp 0), type := 30, pos := "zsortanyfunc.go:12", after := #[{ on := 3, ground := Ground.guard }], guard := some (3, true) }) (v := ?_) rfl (by kernel_rfl) (by kernel_rfl) (by kernel_rfl) (fun _ _ _ h => h) (Or.inl ⟨by rfl, ?_⟩) (by assumption) ?_
        rotate_left
        · (intro w hSw; (try dsimp only at hSw); (try obtain ⟨hSa, hSb⟩ := hSw); go_simp; try with_reducible rfl)
        try simp only [Act.put, List.setIfInBounds_toArray, List.set_cons_zero, List.set_cons_succ]
        refine wpAnyH_take (i := 6) (oi := { dst := some 24, op := Op.move (Operand.tmp 9), type := 3, pos := "zsortanyfunc.go:12", after := #[{ on := 3, ground := Ground.guard }], guard := some (3, true) }) (v := ?_) rfl (by kernel_rfl) (by kernel_rfl) (by kernel_rfl) (fun _ _ _ h => h) (Or.inl ⟨by rfl, ?_⟩) (by assumption) ?_
        rotate_left
        · (intro w hSw; (try dsimp only at hSw); (try obtain ⟨hSa, hSb⟩ := hSw); go_simp; try with_reducible rfl)
        try simp only [Act.put, List.setIfInBounds_toArray, List.set_cons_zero, List.set_cons_succ]
        refine wpAnyH_take (i := 7) (oi := { dst := some 25, op := Op.indexAddr 30 (Operand.tmp 23) (Operand.tmp 24), type := 0, pos := "zsortanyfunc.go:12", after := #[{ on := 5, ground := Ground.data }, { on := 6, ground := Ground.data }, { on := 3, ground := Ground.guard }], guard := some (3, true) }) (v := ?_) rfl (by kernel_rfl) (by kernel_rfl) (by kernel_rfl) (fun _ _ _ h => h) (Or.inl ⟨by rfl, ?_⟩) (by assumption) ?_
        rotate_left
        · (intro w hSw; (try dsimp only at hSw); (try obtain ⟨hSa, hSb⟩ := hSw); go_simp; try with_reducible rfl)
        try simp only [Act.put, List.setIfInBounds_toArray, List.set_cons_zero, List.set_cons_succ]
        refine wpAnyH_take (i := 8) (oi := { dst := some 26, op := Op.load 3 (Operand.tmp 25), type := 3, pos := "zsortanyfunc.go:12", after := #[{ on := 7, ground := Ground.data }, { on := 3, ground := Ground.guard }], guard := some (3, true) }) (v := ?_) rfl (by kernel_rfl) (by kernel_rfl) (by kernel_rfl) (fun _ _ _ h => h) (Or.inl ⟨by rfl, ?_⟩) (by assumption) ?_
        rotate_left
        · (intro w hSw; (try dsimp only at hSw); (try obtain ⟨hSa, hSb⟩ := hSw); go_simp; try with_reducible rfl)
        try simp only [Act.put, List.setIfInBounds_toArray, List.set_cons_zero, List.set_cons_succ]
        refine wpAnyH_take (i := 9) (oi := { dst := some 27, op := Op.move (Operand.tmp 0), type := 30, pos := "zsortanyfunc.go:12", after := #[{ on := 3, ground := Ground.guard }], guard := some (3, true) }) (v := ?_) rfl (by kernel_rfl) (by kernel_rfl) (by kernel_rfl) (fun _ _ _ h => h) (Or.inl ⟨by rfl, ?_⟩) (by assumption) ?_
        rotate_left
        · (intro w hSw; (try dsimp only at hSw); (try obtain ⟨hSa, hSb⟩ := hSw); go_simp; try with_reducible rfl)
        try simp only [Act.put, List.setIfInBounds_toArray, List.set_cons_zero, List.set_cons_succ]
        refine wpAnyH_take (i := 10) (oi := { dst := some 28, op := Op.move (Operand.tmp 9), type := 3, pos := "zsortanyfunc.go:12", after := #[{ on := 3, ground := Ground.guard }], guard := some (3, true) }) (v := ?_) rfl (by kernel_rfl) (by kernel_rfl) (by kernel_rfl) (fun _ _ _ h => h) (Or.inl ⟨by rfl, ?_⟩) (by assumption) ?_
        rotate_left
        · (intro w hSw; (try dsimp only at hSw); (try obtain ⟨hSa, hSb⟩ := hSw); go_simp; try with_reducible rfl)
        try simp only [Act.put, List.setIfInBounds_toArray, List.set_cons_zero, List.set_cons_succ]
        refine wpAnyH_take (i := 11) (oi := { dst := some 29, op := Op.binOp BinOp.sub 3 (Operand.tmp 28) (Operand.const (Value.int IntKind.i64 1)) 3, type := 3, pos := "zsortanyfunc.go:12", after := #[{ on := 10, ground := Ground.data }, { on := 3, ground := Ground.guard }], guard := some (3, true) }) (v := ?_) rfl (by kernel_rfl) (by kernel_rfl) (by kernel_rfl) (fun _ _ _ h => h) (Or.inl ⟨by rfl, ?_⟩) (by assumption) ?_
        rotate_left
        · (intro w hSw; (try dsimp only at hSw); (try obtain ⟨hSa, hSb⟩ := hSw); go_simp; try with_reducible rfl)
        try simp only [Act.put, List.setIfInBounds_toArray, List.set_cons_zero, List.set_cons_succ]
        refine wpAnyH_take (i := 12) (oi := { dst := some 30, op := Op.indexAddr 30 (Operand.tmp 27) (Operand.tmp 29), type := 0, pos := "zsortanyfunc.go:12", after := #[{ on := 9, ground := Ground.data }, { on := 11, ground := Ground.data }, { on := 3, ground := Ground.guard }], guard := some (3, true) }) (v := ?_) rfl (by kernel_rfl) (by kernel_rfl) (by kernel_rfl) (fun _ _ _ h => h) (Or.inl ⟨by rfl, ?_⟩) (by assumption) ?_
        rotate_left
        · (intro w hSw; (try dsimp only at hSw); (try obtain ⟨hSa, hSb⟩ := hSw); go_simp; try with_reducible rfl)
        try simp only [Act.put, List.setIfInBounds_toArray, List.set_cons_zero, List.set_cons_succ]
        refine wpAnyH_take (i := 13) (oi := { dst := some 31, op := Op.load 3 (Operand.tmp 30), type := 3, pos := "zsortanyfunc.go:12", after := #[{ on := 12, ground := Ground.data }, { on := 3, ground := Ground.guard }], guard := some (3, true) }) (v := ?_) rfl (by kernel_rfl) (by kernel_rfl) (by kernel_rfl) (fun _ _ _ h => h) (Or.inl ⟨by rfl, ?_⟩) (by assumption) ?_
        rotate_left
        · (intro w hSw; (try dsimp only at hSw); (try obtain ⟨hSa, hSb⟩ := hSw); go_simp; try with_reducible rfl)
        try simp only [Act.put, List.setIfInBounds_toArray, List.set_cons_zero, List.set_cons_succ]
        refine wpAnyH_ready (rs := [14]) (by kernel_rfl) (by simp) ?_
        refine AllReadyH.cons (o := { dst := some 32, op := Op.call { callee := Callee.value (Operand.tmp 22), args := #[Operand.tmp 26, Operand.tmp 31], argTypes := #[3, 3] }, type := 3, pos := "zsortanyfunc.go:12", after := #[{ on := 4, ground := Ground.data }, { on := 8, ground := Ground.data }, { on := 13, ground := Ground.data }, { on := 3, ground := Ground.chain }, { on := 3, ground := Ground.guard }], guard := some (3, true) }) rfl (fun K hK => ?_) AllReadyH.nil
        go_simp
        refine (HCL.out _ ((Only.refl (fun _ => False) wr).drew)).mono ?_
        rintro e2 w1 ⟨rfl, hO1⟩
        have HO3 := Lib.hid (((Only.refl (fun _ => False) wr).drew).trans hO1)
        obtain ⟨⟨x1', f1'⟩, ⟨x2', f2'⟩⟩ := HCS.out _ HO3.out
        clear hO1
        try simp only []
        refine hK.out _ _ ?_ (fun hHeld => ?_)
        · exact ⟨x1', x2'⟩
        clear hK K
        try simp only [Act.put, List.setIfInBounds_toArray, List.set_cons_zero, List.set_cons_succ]
        refine wpAnyH_take (i := 15) (oi := { dst := some 33, op := Op.binOp BinOp.lss 3 (Operand.tmp 32) (Operand.const (Value.int IntKind.i64 0)) 3, type := 4, pos := "zsortanyfunc.go:12", after := #[{ on := 14, ground := Ground.data }, { on := 3, ground := Ground.guard }], guard := some (3, true) }) (v := ?_) rfl (by kernel_rfl) (by kernel_rfl) (by kernel_rfl) (fun _ _ _ h => h) (Or.inl ⟨by rfl, ?_⟩) (by assumption) ?_
        rotate_left
        · (intro w hSw; (try dsimp only at hSw); (try obtain ⟨hSa, hSb⟩ := hSw); go_simp; try with_reducible rfl)
        try simp only [Act.put, List.setIfInBounds_toArray, List.set_cons_zero, List.set_cons_succ]
        refine wpAnyH_take (i := 16) (oi := { dst := some 34, op := Op.pick (Operand.tmp 21) (Operand.tmp 33) (Operand.const (Value.bool false)), type := 4, pos := "zsortanyfunc.go:12", after := #[{ on := 3, ground := Ground.data }, { on := 15, ground := Ground.data }], guard := none }) (v := ?_) rfl (by kernel_rfl) (by kernel_rfl) (by kernel_rfl) (fun _ _ _ h => h) (Or.inl ⟨by rfl, ?_⟩) (by assumption) ?_
        rotate_left
        · (intro w hSw; (try dsimp only at hSw); (try obtain ⟨hSa, hSb⟩ := hSw); go_simp; try with_reducible rfl)
        try simp only [Act.put, List.setIfInBounds_toArray, List.set_cons_zero, List.set_cons_succ]
        refine wpAnyH_done (by kernel_rfl) ?_ _
        go_wp2_with (fail)
        go_region
        go_wp2
        go_roundw
        case rel => exact ⟨k, _, by simp, HIN.out, (HSW.out _ (HROW2.out.only HO3.out (fun _ => id))).only ((Only.refl (fun _ => False) _).drew) (fun _ => id), (HO2.out.trans (HO3.out.mono (fun i _ e => e.elim))).trans (only_sw _ _ _ _ _ _).drew⟩
        case measure => simp [intOf]; try omega
      · have hz' : decide (z < 0) = false := by simpa using hz
        have HST := Lib.hid (HSTOP.out (fun h => hz (hcl.2 h)))
        clear hcl HSTEP HSTOP hz
        go_wp2_with (fail)
        refine wp_region_held_drew (S := (fun W => W.cell? ⟨g, off + (k + 1), none⟩ = some (.int .i64 (y1 : Int)) ∧ W.cell? ⟨g, off + k, none⟩ = some (.int .i64 (y2 : Int)))) (by kernel_rfl) ?_ (fun hHeld => ?_)
        · exact ⟨x1, x2⟩
        refine wpAnyH_take (i := 0) (oi := { dst := some 18, op := Op.move (Operand.tmp 9), type := 3, pos := "zsortanyfunc.go:12", after := #[], guard := none }) (v := ?_) rfl (by kernel_rfl) (by kernel_rfl) (by kernel_rfl) (fun _ _ _ h => h) (Or.inl ⟨by rfl, ?_⟩) (by assumption) ?_
        rotate_left
        · (intro w hSw; (try dsimp only at hSw); (try obtain ⟨hSa, hSb⟩ := hSw); go_simp; try with_reducible rfl)
        try simp only [Act.put, List.setIfInBounds_toArray, List.set_cons_zero, List.set_cons_succ]
        refine wpAnyH_take (i := 1) (oi := { dst := some 19, op := Op.move (Operand.tmp 1), type := 3, pos := "zsortanyfunc.go:12", after := #[], guard := none }) (v := ?_) rfl (by kernel_rfl) (by kernel_rfl) (by kernel_rfl) (fun _ _ _ h => h) (Or.inl ⟨by rfl, ?_⟩) (by assumption) ?_
        rotate_left
        · (intro w hSw; (try dsimp only at hSw); (try obtain ⟨hSa, hSb⟩ := hSw); go_simp; try with_reducible rfl)
        try simp only [Act.put, List.setIfInBounds_toArray, List.set_cons_zero, List.set_cons_succ]
        refine wpAnyH_take (i := 2) (oi := { dst := some 20, op := Op.binOp BinOp.gtr 3 (Operand.tmp 18) (Operand.tmp 19) 3, type := 4, pos := "zsortanyfunc.go:12", after := #[{ on := 0, ground := Ground.data }, { on := 1, ground := Ground.data }], guard := none }) (v := ?_) rfl (by kernel_rfl) (by kernel_rfl) (by kernel_rfl) (fun _ _ _ h => h) (Or.inl ⟨by rfl, ?_⟩) (by assumption) ?_
        rotate_left
        · (intro w hSw; (try dsimp only at hSw); (try obtain ⟨hSa, hSb⟩ := hSw); go_simp; try with_reducible rfl)
        try simp only [Act.put, List.setIfInBounds_toArray, List.set_cons_zero, List.set_cons_succ]
        refine wpAnyH_take (i := 3) (oi := { dst := some 21, op := Op.move (Operand.tmp 20), type := 4, pos := "zsortanyfunc.go:12", after := #[{ on := 2, ground := Ground.data }], guard := none }) (v := ?_) rfl (by kernel_rfl) (by kernel_rfl) (by kernel_rfl) (fun _ _ _ h => h) (Or.inl ⟨by rfl, ?_⟩) (by assumption) ?_
        rotate_left
        · (intro w hSw; (try dsimp only at hSw); (try obtain ⟨hSa, hSb⟩ := hSw); go_simp; try with_reducible rfl)
        try simp only [Act.put, List.setIfInBounds_toArray, List.set_cons_zero, List.set_cons_succ]
        refine wpAnyH_take (i := 4) (oi := { dst := some 22, op := Op.move (Operand.tmp 3), type := 38, pos := "zsortanyfunc.go:12", after := #[{ on := 3, ground := Ground.guard }], guard := some (3, true) }) (v := ?_) rfl (by kernel_rfl) (by kernel_rfl) (by kernel_rfl) (fun _ _ _ h => h) (Or.inl ⟨by rfl, ?_⟩) (by assumption) ?_
        rotate_left
        · (intro w hSw; (try dsimp only at hSw); (try obtain ⟨hSa, hSb⟩ := hSw); go_simp; try with_reducible rfl)
        try simp only [Act.put, List.setIfInBounds_toArray, List.set_cons_zero, List.set_cons_succ]
        refine wpAnyH_take (i := 5) (oi := { dst := some 23, op := Op.move (Operand.tmp 0), type := 30, pos := "zsortanyfunc.go:12", after := #[{ on := 3, ground := Ground.guard }], guard := some (3, true) }) (v := ?_) rfl (by kernel_rfl) (by kernel_rfl) (by kernel_rfl) (fun _ _ _ h => h) (Or.inl ⟨by rfl, ?_⟩) (by assumption) ?_
        rotate_left
        · (intro w hSw; (try dsimp only at hSw); (try obtain ⟨hSa, hSb⟩ := hSw); go_simp; try with_reducible rfl)
        try simp only [Act.put, List.setIfInBounds_toArray, List.set_cons_zero, List.set_cons_succ]
        refine wpAnyH_take (i := 6) (oi := { dst := some 24, op := Op.move (Operand.tmp 9), type := 3, pos := "zsortanyfunc.go:12", after := #[{ on := 3, ground := Ground.guard }], guard := some (3, true) }) (v := ?_) rfl (by kernel_rfl) (by kernel_rfl) (by kernel_rfl) (fun _ _ _ h => h) (Or.inl ⟨by rfl, ?_⟩) (by assumption) ?_
        rotate_left
        · (intro w hSw; (try dsimp only at hSw); (try obtain ⟨hSa, hSb⟩ := hSw); go_simp; try with_reducible rfl)
        try simp only [Act.put, List.setIfInBounds_toArray, List.set_cons_zero, List.set_cons_succ]
        refine wpAnyH_take (i := 7) (oi := { dst := some 25, op := Op.indexAddr 30 (Operand.tmp 23) (Operand.tmp 24), type := 0, pos := "zsortanyfunc.go:12", after := #[{ on := 5, ground := Ground.data }, { on := 6, ground := Ground.data }, { on := 3, ground := Ground.guard }], guard := some (3, true) }) (v := ?_) rfl (by kernel_rfl) (by kernel_rfl) (by kernel_rfl) (fun _ _ _ h => h) (Or.inl ⟨by rfl, ?_⟩) (by assumption) ?_
        rotate_left
        · (intro w hSw; (try dsimp only at hSw); (try obtain ⟨hSa, hSb⟩ := hSw); go_simp; try with_reducible rfl)
        try simp only [Act.put, List.setIfInBounds_toArray, List.set_cons_zero, List.set_cons_succ]
        refine wpAnyH_take (i := 8) (oi := { dst := some 26, op := Op.load 3 (Operand.tmp 25), type := 3, pos := "zsortanyfunc.go:12", after := #[{ on := 7, ground := Ground.data }, { on := 3, ground := Ground.guard }], guard := some (3, true) }) (v := ?_) rfl (by kernel_rfl) (by kernel_rfl) (by kernel_rfl) (fun _ _ _ h => h) (Or.inl ⟨by rfl, ?_⟩) (by assumption) ?_
        rotate_left
        · (intro w hSw; (try dsimp only at hSw); (try obtain ⟨hSa, hSb⟩ := hSw); go_simp; try with_reducible rfl)
        try simp only [Act.put, List.setIfInBounds_toArray, List.set_cons_zero, List.set_cons_succ]
        refine wpAnyH_take (i := 9) (oi := { dst := some 27, op := Op.move (Operand.tmp 0), type := 30, pos := "zsortanyfunc.go:12", after := #[{ on := 3, ground := Ground.guard }], guard := some (3, true) }) (v := ?_) rfl (by kernel_rfl) (by kernel_rfl) (by kernel_rfl) (fun _ _ _ h => h) (Or.inl ⟨by rfl, ?_⟩) (by assumption) ?_
        rotate_left
        · (intro w hSw; (try dsimp only at hSw); (try obtain ⟨hSa, hSb⟩ := hSw); go_simp; try with_reducible rfl)
        try simp only [Act.put, List.setIfInBounds_toArray, List.set_cons_zero, List.set_cons_succ]
        refine wpAnyH_take (i := 10) (oi := { dst := some 28, op := Op.move (Operand.tmp 9), type := 3, pos := "zsortanyfunc.go:12", after := #[{ on := 3, ground := Ground.guard }], guard := some (3, true) }) (v := ?_) rfl (by kernel_rfl) (by kernel_rfl) (by kernel_rfl) (fun _ _ _ h => h) (Or.inl ⟨by rfl, ?_⟩) (by assumption) ?_
        rotate_left
        · (intro w hSw; (try dsimp only at hSw); (try obtain ⟨hSa, hSb⟩ := hSw); go_simp; try with_reducible rfl)
        try simp only [Act.put, List.setIfInBounds_toArray, List.set_cons_zero, List.set_cons_succ]
        refine wpAnyH_take (i := 11) (oi := { dst := some 29, op := Op.binOp BinOp.sub 3 (Operand.tmp 28) (Operand.const (Value.int IntKind.i64 1)) 3, type := 3, pos := "zsortanyfunc.go:12", after := #[{ on := 10, ground := Ground.data }, { on := 3, ground := Ground.guard }], guard := some (3, true) }) (v := ?_) rfl (by kernel_rfl) (by kernel_rfl) (by kernel_rfl) (fun _ _ _ h => h) (Or.inl ⟨by rfl, ?_⟩) (by assumption) ?_
        rotate_left
        · (intro w hSw; (try dsimp only at hSw); (try obtain ⟨hSa, hSb⟩ := hSw); go_simp; try with_reducible rfl)
        try simp only [Act.put, List.setIfInBounds_toArray, List.set_cons_zero, List.set_cons_succ]
        refine wpAnyH_take (i := 12) (oi := { dst := some 30, op := Op.indexAddr 30 (Operand.tmp 27) (Operand.tmp 29), type := 0, pos := "zsortanyfunc.go:12", after := #[{ on := 9, ground := Ground.data }, { on := 11, ground := Ground.data }, { on := 3, ground := Ground.guard }], guard := some (3, true) }) (v := ?_) rfl (by kernel_rfl) (by kernel_rfl) (by kernel_rfl) (fun _ _ _ h => h) (Or.inl ⟨by rfl, ?_⟩) (by assumption) ?_
        rotate_left
        · (intro w hSw; (try dsimp only at hSw); (try obtain ⟨hSa, hSb⟩ := hSw); go_simp; try with_reducible rfl)
        try simp only [Act.put, List.setIfInBounds_toArray, List.set_cons_zero, List.set_cons_succ]
        refine wpAnyH_take (i := 13) (oi := { dst := some 31, op := Op.load 3 (Operand.tmp 30), type := 3, pos := "zsortanyfunc.go:12", after := #[{ on := 12, ground := Ground.data }, { on := 3, ground := Ground.guard }], guard := some (3, true) }) (v := ?_) rfl (by kernel_rfl) (by kernel_rfl) (by kernel_rfl) (fun _ _ _ h => h) (Or.inl ⟨by rfl, ?_⟩) (by assumption) ?_
        rotate_left
        · (intro w hSw; (try dsimp only at hSw); (try obtain ⟨hSa, hSb⟩ := hSw); go_simp; try with_reducible rfl)
        try simp only [Act.put, List.setIfInBounds_toArray, List.set_cons_zero, List.set_cons_succ]
        refine wpAnyH_ready (rs := [14]) (by kernel_rfl) (by simp) ?_
        refine AllReadyH.cons (o := { dst := some 32, op := Op.call { callee := Callee.value (Operand.tmp 22), args := #[Operand.tmp 26, Operand.tmp 31], argTypes := #[3, 3] }, type := 3, pos := "zsortanyfunc.go:12", after := #[{ on := 4, ground := Ground.data }, { on := 8, ground := Ground.data }, { on := 13, ground := Ground.data }, { on := 3, ground := Ground.chain }, { on := 3, ground := Ground.guard }], guard := some (3, true) }) rfl (fun K hK => ?_) AllReadyH.nil
        go_simp
        refine (HCL.out _ ((Only.refl (fun _ => False) wr).drew)).mono ?_
        rintro e2 w1 ⟨rfl, hO1⟩
        have HO3 := Lib.hid (((Only.refl (fun _ => False) wr).drew).trans hO1)
        obtain ⟨⟨x1', f1'⟩, ⟨x2', f2'⟩⟩ := HCS.out _ HO3.out
        clear hO1
        try simp only []
        refine hK.out _ _ ?_ (fun hHeld => ?_)
        · exact ⟨x1', x2'⟩
        clear hK K
        try simp only [Act.put, List.setIfInBounds_toArray, List.set_cons_zero, List.set_cons_succ]
        refine wpAnyH_take (i := 15) (oi := { dst := some 33, op := Op.binOp BinOp.lss 3 (Operand.tmp 32) (Operand.const (Value.int IntKind.i64 0)) 3, type := 4, pos := "zsortanyfunc.go:12", after := #[{ on := 14, ground := Ground.data }, { on := 3, ground := Ground.guard }], guard := some (3, true) }) (v := ?_) rfl (by kernel_rfl) (by kernel_rfl) (by kernel_rfl) (fun _ _ _ h => h) (Or.inl ⟨by rfl, ?_⟩) (by assumption) ?_
        rotate_left
        · (intro w hSw; (try dsimp only at hSw); (try obtain ⟨hSa, hSb⟩ := hSw); go_simp; try with_reducible rfl)
        try simp only [Act.put, List.setIfInBounds_toArray, List.set_cons_zero, List.set_cons_succ]
        refine wpAnyH_take (i := 16) (oi := { dst := some 34, op := Op.pick (Operand.tmp 21) (Operand.tmp 33) (Operand.const (Value.bool false)), type := 4, pos := "zsortanyfunc.go:12", after := #[{ on := 3, ground := Ground.data }, { on := 15, ground := Ground.data }], guard := none }) (v := ?_) rfl (by kernel_rfl) (by kernel_rfl) (by kernel_rfl) (fun _ _ _ h => h) (Or.inl ⟨by rfl, ?_⟩) (by assumption) ?_
        rotate_left
        · (intro w hSw; (try dsimp only at hSw); (try obtain ⟨hSa, hSb⟩ := hSw); go_simp; try with_reducible rfl)
        try simp only [Act.put, List.setIfInBounds_toArray, List.set_cons_zero, List.set_cons_succ]
        refine wpAnyH_done (by kernel_rfl) ?_ _
        go_wp2
        go_roundw
        case rel => exact ⟨i + 1, e', by omega, by omega, by simp, by rw [show min (i + 1) b = i + 1 by omega]; exact (HFR.out.widen (by omega) (by omega)).trans HI.out.fr, by rw [show min (i + 1) b = i + 1 by omega]; exact HST.out, HROW2.out.only HO3.out (fun _ => id), HO2.out.trans (HO3.out.mono (fun i _ e => e.elim))⟩
        case measure => simp [intOf]; omega
end Go.Proofs.Ytbcjpchjidgpeaa
