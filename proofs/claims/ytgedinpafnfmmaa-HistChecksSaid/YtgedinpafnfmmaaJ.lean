/- Hist: the law HistTurned. -/
import Derived.Test.YtgedinpafnfmmaaI
namespace Go.Proofs.Ytgedinpafnfmmaa
open Go.RowKit

/-- An operation, later. -/
def sh (z : Int) (x : Dd) : Dd := ⟨x.k, x.v, x.b + z, if x.e = -1 then -1 else x.e + z⟩
theorem sh_may {z : Int} (hz : 0 ≤ z) {x : Dd} (h : x.may = true) : (sh z x).may = true := by
  simp [Dd.may] at h
  obtain ⟨⟨⟨h1, h2⟩, h3⟩, h4⟩ := h
  by_cases he : x.e = -1
  · simp [Dd.may, sh, he]
    exact ⟨⟨h1, h2⟩, by omega⟩
  · simp [Dd.may, sh, he]
    exact ⟨⟨⟨h1, h2⟩, by omega⟩, by omega⟩
theorem sh_before {z : Int} (hz : 0 ≤ z) {x y : Dd} (hx : x.may = true) : (sh z x).before (sh z y) = x.before y := by
  simp [Dd.may] at hx
  obtain ⟨⟨⟨h1, h2⟩, h3⟩, h4⟩ := hx
  by_cases he : x.e = -1
  · simp [Dd.before, sh, he]
  · have e1 : (x.e + z == -1) = false := beq_false_of_ne (by omega)
    have e2 : (x.e == -1) = false := beq_false_of_ne he
    simp [Dd.before, sh, he, e1]
theorem sh_e {z : Int} (hz : 0 ≤ z) {x : Dd} (hx : x.may = true) : (sh z x).e = -1 ↔ x.e = -1 := by
  simp [Dd.may] at hx
  simp only [sh]
  split <;> omega
theorem Ser.map {z : Int} (hz : 0 ≤ z) {L : List Dd} {v : Int} (h : Ser L v) : mayAll L → Ser (L.map (sh z)) v := by
  induction h with
  | done h =>
    intro hm
    refine .done (fun x hx => ?_)
    obtain ⟨y, hy, rfl⟩ := List.mem_map.1 hx
    exact (sh_e hz (hm y hy)).2 (h y hy)
  | @step L R v x hL hB hk _ ih =>
    intro hm
    have hR : mayAll R := fun y hy => hm y (hL.mem_iff.2 (List.mem_cons_of_mem _ hy))
    refine .step (sh z x) (R := R.map (sh z)) (hL.map (sh z)) (fun y hy => ?_) hk (ih hR)
    obtain ⟨y', hy', rfl⟩ := List.mem_map.1 hy
    rw [sh_before hz (hR y' hy')]
    exact hB y' hy'
theorem Ser.unmap {z : Int} (hz : 0 ≤ z) {M : List Dd} {v : Int} (h : Ser M v) : ∀ L : List Dd, M.Perm (L.map (sh z)) → mayAll L → Ser L v := by
  induction h with
  | done h =>
    intro L hp hm
    refine .done (fun x hx => ?_)
    exact (sh_e hz (hm x hx)).1 (h _ (hp.mem_iff.2 (List.mem_map_of_mem hx)))
  | @step M R v x hM hB hk _ ih =>
    intro L hp hm
    obtain ⟨x0, hx0, rfl⟩ := List.mem_map.1 (hp.mem_iff.1 (hM.mem_iff.2 List.mem_cons_self))
    obtain ⟨L0, hL0⟩ : ∃ L0, L.Perm (x0 :: L0) := by
      obtain ⟨s, t, rfl⟩ := List.append_of_mem hx0
      exact ⟨s ++ t, List.perm_middle⟩
    have hR : R.Perm (L0.map (sh z)) := (List.perm_cons _).1 (hM.symm.trans (hp.trans (hL0.map (sh z))))
    have hm0 : mayAll L0 := fun y hy => hm y (hL0.mem_iff.2 (List.mem_cons_of_mem _ hy))
    refine .step x0 hL0 (fun y hy => ?_) hk (ih L0 hR hm0)
    have := hB (sh z y) (hR.mem_iff.2 (List.mem_map_of_mem hy))
    rwa [sh_before hz (hm0 y hy)] at this

def rot (l : List Dd) (k : Nat) : List Dd := l.drop k ++ l.take k
theorem rot_perm (l : List Dd) (k : Nat) : (rot l k).Perm l := by
  unfold rot
  exact List.perm_append_comm.trans (by rw [List.take_append_drop])
theorem rot_len (l : List Dd) (k : Nat) : (rot l k).length = l.length := (rot_perm l k).length_eq
theorem turned_law {l : List Dd} {k : Nat} {z : Int} (hz : 0 ≤ z) (h : right l = true) : right ((rot l k).map (sh z)) = true ∧ chk ((rot l k).map (sh z)) = chk l := by
  have hm := right_may h
  have hmr : mayAll (rot l k) := fun x hx => hm x ((rot_perm l k).mem_iff.1 hx)
  have hr : right ((rot l k).map (sh z)) = true := by
    simp only [right, Bool.and_eq_true, decide_eq_true_eq] at h ⊢
    refine ⟨?_, by rw [List.length_map, rot_len]; exact h.2⟩
    rw [List.all_eq_true]
    intro y hy
    obtain ⟨y', hy', rfl⟩ := List.mem_map.1 hy
    exact sh_may hz (hmr y' hy')
  refine ⟨hr, ?_⟩
  rw [Bool.eq_iff_iff, chk_iff hr, chk_iff h]
  exact ⟨fun h1 => (h1.unmap hz _ (List.Perm.refl _) hmr).perm (rot_perm l k), fun h1 => (h1.perm (rot_perm l k).symm).map hz hmr⟩

theorem wfL_of {L : List Dd} (h : ∀ x ∈ L, (Lit.int .i64 x.v).wf = true) : wfL L := fun i hi => by
  rw [gt_eq hi]; exact h _ (List.getElem_mem hi)
theorem dv_app (a b : List Dd) : dv (a ++ b) = dv a ++ dv b := by simp [dv]

/-- What the row holds after i rounds. -/
def mTo (l : List Dd) (k : Nat) (z : Int) (i : Nat) : List Dd := ((rot l k).take i).map (sh z) ++ (rot l k).drop i
theorem mTo_len (l : List Dd) (k : Nat) (z : Int) (i : Nat) : (mTo l k z i).length = l.length := by
  unfold mTo
  rw [List.length_append, List.length_map, List.length_take, List.length_drop, rot_len]
  omega
theorem mTo_all (l : List Dd) (k : Nat) (z : Int) : mTo l k z l.length = (rot l k).map (sh z) := by
  unfold mTo
  rw [List.take_of_length_le (by rw [rot_len]; omega), List.drop_of_length_le (by rw [rot_len]; omega), List.append_nil]
theorem mTo_zero (l : List Dd) (k : Nat) (z : Int) : mTo l k z 0 = rot l k := by simp [mTo]
theorem mTo_get (l : List Dd) (k : Nat) (z : Int) (i : Nat) (hi : i < l.length) : (mTo l k z i)[i]'(by rw [mTo_len]; exact hi) = (rot l k)[i]'(by rw [rot_len]; exact hi) := by
  have hr := rot_len l k
  unfold mTo
  rw [List.getElem_append_right (by simp; omega)]
  simp only [List.length_map, List.length_take, List.getElem_drop]
  congr 1
  omega
theorem mTo_succ (l : List Dd) (k : Nat) (z : Int) (i : Nat) (hi : i < l.length) : mTo l k z (i + 1) = (mTo l k z i).set i (sh z ((rot l k)[i]'(by rw [rot_len]; exact hi))) := by
  have hr := rot_len l k
  unfold mTo
  have hlen : (((rot l k).take i).map (sh z)).length = i := by simp; omega
  rw [List.set_append_right _ _ (by omega), hlen, Nat.sub_self, List.take_succ_eq_append_getElem (by omega), List.map_append, List.drop_eq_getElem_cons (by omega : i < (rot l k).length)]
  simp
  rw [List.drop_eq_getElem_cons (by omega : i < (rot l k).length), List.set_cons_zero]

theorem dv_set4 (L : List Dd) (i : Nat) (x : Dd) (hi : i < L.length) (hk : (L[i]).k = x.k) (hv : (L[i]).v = x.v) : (((dv L).set (i * 4 + 2) (.int .i64 x.b)).set (i * 4 + 3) (.int .i64 x.e)) = dv (L.set i x) := by
  induction L generalizing i with
  | nil => simp at hi
  | cons y t ih =>
    cases i with
    | zero =>
      simp only [List.getElem_cons_zero] at hk hv
      simp [dv, Dd.cells, hk, hv]
    | succ i =>
      have h := ih i (by simpa using hi) (by simpa using hk) (by simpa using hv)
      have e2 : (i + 1) * 4 + 2 = i * 4 + 2 + 4 := by omega
      have e3 : (i + 1) * 4 + 3 = i * 4 + 3 + 4 := by omega
      rw [e2, e3]
      simp only [dv, List.flatMap_cons, Dd.cells, List.cons_append, List.nil_append, List.set_cons_succ] at h ⊢
      rw [← h]
theorem dv_set4' (L : List Dd) (i : Nat) (x : Dd) (hi : i < L.length) (hk : (L[i]).k = x.k) (hv : (L[i]).v = x.v) (he : (L[i]).e = x.e) : ((dv L).set (i * 4 + 2) (.int .i64 x.b)) = dv (L.set i x) := by
  induction L generalizing i with
  | nil => simp at hi
  | cons y t ih =>
    cases i with
    | zero =>
      simp only [List.getElem_cons_zero] at hk hv he
      simp [dv, Dd.cells, hk, hv, he]
    | succ i =>
      have h := ih i (by simpa using hi) (by simpa using hk) (by simpa using hv) (by simpa using he)
      have e2 : (i + 1) * 4 + 2 = i * 4 + 2 + 4 := by omega
      rw [e2]
      simp only [dv, List.flatMap_cons, Dd.cells, List.cons_append, List.nil_append, List.set_cons_succ] at h ⊢
      rw [← h]

/-- A block whose first cells are these. -/
def Pre (w : World) (g : Nat) (xs : List Value) : Prop := ∃ cs : Array Value, At w g 30 cs ∧ xs.length ≤ cs.size ∧ ∀ (j : Nat) (u : Value), xs[j]? = some u → cs[j]? = some u
theorem Pre.rd {w : World} {g : Nat} {xs : List Value} (h : Pre w g xs) : Rd w g (some ⟨g, 0, none⟩) xs := by
  obtain ⟨cs, h1, h2, h3⟩ := h
  exact .inr ⟨0, rfl, h1.lt, fun j u hu => by rw [Nat.zero_add, h1.cell]; exact h3 j u hu⟩
theorem Pre.set {w : World} {g : Nat} {xs : List Value} (h : Pre w g xs) (j : Nat) (u : Value) : Pre (w.setCell ⟨g, j, none⟩ u) g (xs.set j u) := by
  obtain ⟨cs, h1, h2, h3⟩ := h
  refine ⟨_, h1.set j u, by simpa using h2, fun i v hv => ?_⟩
  by_cases hij : j = i
  · subst hij
    have hlt := (List.getElem?_eq_some_iff.1 hv).1
    simp at hlt
    rw [Array.getElem?_setIfInBounds_self_of_lt (by omega)]
    rw [List.getElem?_set_self hlt] at hv
    exact hv
  · rw [Array.getElem?_setIfInBounds_ne hij]
    rw [List.getElem?_set_ne hij] at hv
    exact h3 i v hv
theorem Pre.only {w w' : World} {g : Nat} {xs : List Value} {S : Nat → Prop} (h : Pre w g xs) (k : Only S w w') (hg : ¬ S g) : Pre w' g xs := by
  obtain ⟨cs, h1, h2⟩ := h
  exact ⟨cs, h1.only k hg, h2⟩
theorem Pre.frozen {w : World} {g : Nat} {xs : List Value} (h : Pre w g xs) (j : Nat) : w.frozen? ⟨g, j, none⟩ = false := by
  obtain ⟨cs, h1, _⟩ := h
  exact h1.frozen j
theorem own_pre {w : World} {base n c : Nat} {A : Option Addr} {xs : List Value} (h : w.ownsRow base 30 4 (.slice A n c) n xs) (hne : 0 < n) : ∃ g, base ≤ g ∧ A = some ⟨g, 0, none⟩ ∧ Pre w g xs := by
  rcases h.2 with ⟨he, rfl⟩ | ⟨g, cap, cur, he, hb, hg, hn, _, hs, hx⟩
  · omega
  · injection he with hA _ _
    refine ⟨g, hb, hA, cur, hg, ?_, fun j u hu => ?_⟩
    · rw [h.1, hs]; exact Nat.mul_le_mul_right _ hn
    · rw [← hx, List.getElem?_take] at hu
      split at hu
      · simpa using hu
      · cases hu

set_option maxRecDepth 100000 in
set_option maxHeartbeats 8000000 in
theorem histTurned_walk (g c : Nat) (A : Option Addr) (l : List Dd) (turn later : Int) (w : World) (hr : Rd w g A (dv l)) (hlen : l.length ≤ 9223372036854775807) (hc : l.length ≤ c) (hcm : c ≤ 9223372036854775807) (hall : ∀ x ∈ l, (Lit.int .i64 x.v).wf = true ∧ -9223372036854775808 ≤ x.e)  :
    Calls Try.prog 7 #[.slice A l.length c, .int .i64 turn, .int .i64 later] w fun e w' => e = .returned (.bool true) ∧ Below w.heap.size w w' := by
  obtain ⟨i0, hi⟩ : ∃ i, Try.prog.info? 30 = some i := ⟨_, rfl⟩
  have hz0 : i0.zero = some (.agg #[.int .i64 0, .int .i64 0, .int .i64 0, .int .i64 0]) := by cases hi; rfl
  have hz1 : i0.size = 4 := by cases hi; rfl
  have hz2 : i0.bytes = 32 := by cases hi; rfl
  have HI := Lib.hid (And.intro hi (And.intro hz0 (And.intro hz1 hz2)))
  have HR0 := Lib.hid hr
  have HW := Lib.hid hall
  clear hr hall hi hz0 hz1 hz2
  by_cases hbad : 10 < l.length ∨ l.length = 0 ∨ turn < 0 ∨ later < 0 ∨ 1000000 < later
  · have hb : (10 : Int) < l.length ∨ (¬ (10 : Int) < l.length ∧ l.length = 0) ∨ (¬ (10 : Int) < l.length ∧ l.length ≠ 0 ∧ turn < 0) ∨ (¬ (10 : Int) < l.length ∧ l.length ≠ 0 ∧ ¬ turn < 0 ∧ later < 0) ∨ (¬ (10 : Int) < l.length ∧ l.length ≠ 0 ∧ ¬ turn < 0 ∧ ¬ later < 0 ∧ 1000000 < later) := by omega
    clear hbad
    rcases hb with h | ⟨h1, h2⟩ | ⟨h1, h2, h3⟩ | ⟨h1, h2, h3, h4⟩ | ⟨h1, h2, h3, h4, h5⟩
    all_goals
      try have h2' : ((l.length : Int) == 0) = false := beq_false_of_ne (by omega)
      try have h2' : ((l.length : Int) == 0) = true := by rw [h2]; rfl
      try clear h2
      go_enter Try.func7, Try.ntmps7
      go_wp2_with (fail)
      refine (awake_any _).mono ?_
      rintro e w1 ⟨rfl, hO1⟩
      go_wp2
      go_ret
      exact ⟨rfl, hO1.below (Nat.le_refl _) (fun i hi h => h)⟩
  obtain ⟨t, rfl⟩ : ∃ t : Nat, turn = t := ⟨turn.toNat, by omega⟩
  obtain ⟨z, rfl⟩ : ∃ z : Nat, later = z := ⟨later.toNat, by omega⟩
  have g1 : ¬ (10 : Int) < l.length := by omega
  have g2 : ((l.length : Int) == 0) = false := beq_false_of_ne (by omega)
  have g4 : ¬ (1000000 : Int) < z := by omega
  obtain ⟨k, hk⟩ : ∃ k, t % l.length = k := ⟨_, rfl⟩
  have hkn : k < l.length := by rw [← hk]; exact Nat.mod_lt _ (by omega)
  have hkm : (t : Int) % (l.length : Int) = (k : Int) := by rw [← hk]; rfl
  clear hk hbad
  have HD1 : Hid ((dv (l.drop k)).length = (l.length - k) * 4) := Lib.hid (by rw [dv_len, List.length_drop])
  have HD2 : Hid ((dv (l.take k)).length = k * 4) := Lib.hid (by rw [dv_len, List.length_take, Nat.min_eq_left (by omega)])
  obtain ⟨off, rfl, hlt, hcell⟩ := HR0.out.at (by intro e; have := dv_len l; rw [e] at this; simp at this; omega)
  have HR : ∀ W, Only (fun _ => False) w W → Rd W g (some ⟨g, off + k * 4, none⟩) (dv (l.drop k)) ∧ Rd W g (some ⟨g, off, none⟩) (dv (l.take k)) := by
    intro W hW
    have hs : dv l = dv (l.take k) ++ dv (l.drop k) := by rw [← dv_app, List.take_append_drop]
    have h1 : Rd w g (some ⟨g, off + k * 4, none⟩) (dv (l.drop k)) := .inr ⟨off + k * 4, rfl, hlt, fun j u hu => by
      have := hcell (k * 4 + j) u (by rw [hs, List.getElem?_append_right (by rw [HD2.out]; omega), HD2.out]; rw [← hu]; congr 1; omega)
      rwa [← Nat.add_assoc] at this⟩
    have h2 : Rd w g (some ⟨g, off, none⟩) (dv (l.take k)) := .inr ⟨off, rfl, hlt, fun j u hu => by
      exact hcell j u (by rw [hs, List.getElem?_append_left (List.getElem?_eq_some_iff.1 hu).1]; exact hu)⟩
    exact ⟨h1.only hW id, h2.only hW id⟩
  have HL : Hid (∀ (W : World), Only (fun _ => False) w W → ∀ i (_ : i < l.length), W.cell? ⟨g, off + i * 4 + 3, none⟩ = some (.int .i64 (gt l i).e)) := Lib.hid (fun W hW i hi => by
    have := (DdAt.of hcell i hi).c3
    rw [gt_eq hi]
    exact (hW.cell (p := ⟨g, off + i * 4 + 3, none⟩) hlt id).trans this)
  have HRW := Lib.hid HR
  have HLT := Lib.hid hlt
  clear hcell HR hlt
  obtain ⟨n, hn⟩ : ∃ n, l.length = n := ⟨_, rfl⟩
  have HN := Lib.hid hn
  rw [hn] at hlen hc g1 g2 hkn hkm HD1 ⊢
  clear hn
  have k0 : (0 : Int) ≤ k := by omega
  have k1 : (k : Int) ≤ n := by omega
  have k2 : (k : Int) ≤ c := by omega
  have k3 : (n : Int) ≤ c := by omega
  have k4 : (k : Int) < c := by omega
  have k5 : ¬ c = k := by omega
  have n1 : (n : Int) ≠ 0 := by omega
  go_enter Try.func7, Try.ntmps7
  go_wp2_with (fail)
  refine (awake_any _).mono ?_
  rintro e w1 ⟨rfl, hO1⟩
  have HO1 := Lib.hid hO1
  have HR := Lib.hid (HRW.out w1 hO1)
  have hsw : w.heap.size ≤ w1.heap.size := hO1.size
  have hgw : g < w1.heap.size := by have := HLT.out; omega
  clear hO1
  go_wp2_with (fail)
  refine wp_region_held_drew (S := (fun _ => True)) (by kernel_rfl) ?_ (fun hHeld => ?_)
  · trivial
  refine wpAnyH_take (i := 1) (oi := { dst := some 43, op := Op.move (Operand.tmp 0), type := 22, pos := "law.go:92", after := #[], guard := none }) (v := ?_) rfl (by kernel_rfl) (by kernel_rfl) (by kernel_rfl) (fun _ _ _ h => h) (Or.inl ⟨by rfl, ?_⟩) (by assumption) ?_
  rotate_left
  · (intro w hSw; (try dsimp only at hSw); (try obtain ⟨hSa, hSb⟩ := hSw); go_simp; try with_reducible rfl)
  try simp only [Act.put, List.setIfInBounds_toArray, List.set_cons_zero, List.set_cons_succ]
  refine wpAnyH_take (i := 2) (oi := { dst := some 44, op := Op.move (Operand.tmp 8), type := 3, pos := "law.go:92", after := #[], guard := none }) (v := ?_) rfl (by kernel_rfl) (by kernel_rfl) (by kernel_rfl) (fun _ _ _ h => h) (Or.inl ⟨by rfl, ?_⟩) (by assumption) ?_
  rotate_left
  · (intro w hSw; (try dsimp only at hSw); (try obtain ⟨hSa, hSb⟩ := hSw); go_simp; try with_reducible rfl)
  try simp only [Act.put, List.setIfInBounds_toArray, List.set_cons_zero, List.set_cons_succ]
  refine wpAnyH_take (i := 3) (oi := { dst := some 45, op := Op.slice 22 (Operand.tmp 43) (some (Operand.tmp 44)) none none, type := 22, pos := "law.go:92", after := #[{ on := 1, ground := Ground.data }, { on := 2, ground := Ground.data }], guard := none }) (v := ?_) rfl (by kernel_rfl) (by kernel_rfl) (by kernel_rfl) (fun _ _ _ h => h) (Or.inl ⟨by rfl, ?_⟩) (by assumption) ?_
  rotate_left
  · (intro w hSw; (try dsimp only at hSw); (try obtain ⟨hSa, hSb⟩ := hSw); go_simp; try with_reducible rfl)
  try simp only [Act.put, List.setIfInBounds_toArray, List.set_cons_zero, List.set_cons_succ]
  refine wpAnyH_take (i := 5) (oi := { dst := some 47, op := Op.move (Operand.tmp 0), type := 22, pos := "law.go:92", after := #[], guard := none }) (v := ?_) rfl (by kernel_rfl) (by kernel_rfl) (by kernel_rfl) (fun _ _ _ h => h) (Or.inl ⟨by rfl, ?_⟩) (by assumption) ?_
  rotate_left
  · (intro w hSw; (try dsimp only at hSw); (try obtain ⟨hSa, hSb⟩ := hSw); go_simp; try with_reducible rfl)
  try simp only [Act.put, List.setIfInBounds_toArray, List.set_cons_zero, List.set_cons_succ]
  refine wpAnyH_take (i := 6) (oi := { dst := some 48, op := Op.move (Operand.tmp 8), type := 3, pos := "law.go:92", after := #[], guard := none }) (v := ?_) rfl (by kernel_rfl) (by kernel_rfl) (by kernel_rfl) (fun _ _ _ h => h) (Or.inl ⟨by rfl, ?_⟩) (by assumption) ?_
  rotate_left
  · (intro w hSw; (try dsimp only at hSw); (try obtain ⟨hSa, hSb⟩ := hSw); go_simp; try with_reducible rfl)
  try simp only [Act.put, List.setIfInBounds_toArray, List.set_cons_zero, List.set_cons_succ]
  refine wpAnyH_take (i := 7) (oi := { dst := some 49, op := Op.slice 22 (Operand.tmp 47) none (some (Operand.tmp 48)) none, type := 22, pos := "law.go:92", after := #[{ on := 5, ground := Ground.data }, { on := 6, ground := Ground.data }], guard := none }) (v := ?_) rfl (by kernel_rfl) (by kernel_rfl) (by kernel_rfl) (fun _ _ _ h => h) (Or.inl ⟨by rfl, ?_⟩) (by assumption) ?_
  rotate_left
  · (intro w hSw; (try dsimp only at hSw); (try obtain ⟨hSa, hSb⟩ := hSw); go_simp; try with_reducible rfl)
  try simp only [Act.put, List.setIfInBounds_toArray, List.set_cons_zero, List.set_cons_succ]
  refine wpAnyH_ready (rs := [0]) (by kernel_rfl) (by simp) ?_
  refine AllReadyH.cons (o := { dst := some 42, op := Op.buildSlice 22 0 #[], type := 22, pos := "law.go:92", after := #[], guard := none }) rfl (fun K hK => ?_) AllReadyH.nil
  go_simp
  skip
  refine hK.out _ _ ?_ (fun hHeld => ?_)
  · trivial
  clear hK K
  try simp only [Act.put, List.setIfInBounds_toArray, List.set_cons_zero, List.set_cons_succ]
  refine wpAnyH_ready (rs := [4]) (by kernel_rfl) (by simp) ?_
  refine AllReadyH.cons (o := { dst := some 46, op := Op.call { callee := Callee.builtin Builtin.append, args := #[Operand.tmp 42, Operand.tmp 45], argTypes := #[22, 22] }, type := 22, pos := "law.go:92", after := #[{ on := 0, ground := Ground.data }, { on := 3, ground := Ground.data }], guard := none }) rfl (fun K hK => ?_) AllReadyH.nil
  refine step_append_src rfl (.tmp 42) (.tmp 45) 22 rfl w1.heap.size 30 i0 (.agg #[.int .i64 0, .int .i64 0, .int .i64 0, .int .i64 0]) 4 32 Try.underlying22 HI.out.1 HI.out.2.1 HI.out.2.2.1 HI.out.2.2.2 rfl (by decide) (.slice (some ⟨w1.heap.size, 0, none⟩) 0 0) 0 [] rfl (own_fresh (At.new' (by simp) 30 #[]) (by omega) 4).drew g (some ⟨g, off + k * 4, none⟩) (n - k) (c - k) (dv (l.drop k)) rfl (HD1.out) ((HR.out.1.only ((Only.refl (fun _ => False) w1).alloc (.cells #[] 30)) id).only (S := fun _ => False) ((Only.refl _ _).drew) id) (dv_one _) (by unfold maxLen; omega) (by omega) (by simp) ?_
  intro A1 c1 wa hc1 hown1 hg1
  simp only [Nat.zero_add, List.nil_append] at hown1 hc1
  simp only [Nat.zero_add]
  have HOa := Lib.hid ((HO1.out.alloc (.cells #[] 30)).drew.append (own_fresh (At.new' (g := w1.heap.size) (w := w1) (by simp) 30 #[]) (Nat.le_refl _) 4).drew hg1 (fun i hi hb => by have := HO1.out.size; omega))
  have HRa := Lib.hid (((HR.out.2.only ((Only.refl (fun _ => False) w1).alloc (.cells #[] 30)) id).only (S := fun _ => False) ((Only.refl _ _).drew) id).grown hg1 (by intro _; simp [Value.ownBlock]; omega))
  have HOW1 := Lib.hid hown1
  have hsa : w1.heap.size ≤ wa.heap.size := by have := hg1.size; simp at this; omega
  clear hown1 hg1
  refine hK.out _ _ ?_ (fun hHeld => ?_)
  · trivial
  clear hK K
  try simp only [Act.put, List.setIfInBounds_toArray, List.set_cons_zero, List.set_cons_succ]
  refine wpAnyH_ready (rs := [8]) (by kernel_rfl) (by simp) ?_
  refine AllReadyH.cons (o := { dst := some 50, op := Op.call { callee := Callee.builtin Builtin.append, args := #[Operand.tmp 46, Operand.tmp 49], argTypes := #[22, 22] }, type := 22, pos := "law.go:92", after := #[{ on := 4, ground := Ground.data }, { on := 7, ground := Ground.data }, { on := 4, ground := Ground.chain }], guard := none }) rfl (fun K hK => ?_) AllReadyH.nil
  refine step_append_src rfl (.tmp 46) (.tmp 49) 22 rfl w1.heap.size 30 i0 (.agg #[.int .i64 0, .int .i64 0, .int .i64 0, .int .i64 0]) 4 32 Try.underlying22 HI.out.1 HI.out.2.1 HI.out.2.2.1 HI.out.2.2.2 rfl (by decide) (.slice A1 (n - k) c1) (n - k) (dv (l.drop k)) rfl HOW1.out g (some ⟨g, off, none⟩) k c (dv (l.take k)) rfl HD2.out HRa.out (dv_one _) (by unfold maxLen; omega) (by omega) hsa ?_
  intro A2 c2 wb hc2 hown2 hg2
  rw [show n - k + k = n from by omega] at hown2 hc2
  simp only [show n - k + k = n from by omega]
  have HOb := Lib.hid (HOa.out.append HOW1.out hg2 (fun i hi hb => by have := HO1.out.size; omega))
  have HOW2 := Lib.hid hown2
  clear hown2 hg2
  refine hK.out _ _ ?_ (fun hHeld => ?_)
  · trivial
  clear hK K
  try simp only [Act.put, List.setIfInBounds_toArray, List.set_cons_zero, List.set_cons_succ]
  refine wpAnyH_take (i := 9) (oi := { dst := some 9, op := Op.assign (Operand.tmp 50), type := 22, pos := "law.go:92", after := #[{ on := 8, ground := Ground.data }, { on := 8, ground := Ground.chain }, { on := 0, ground := Ground.phase }, { on := 1, ground := Ground.phase }, { on := 2, ground := Ground.phase }, { on := 3, ground := Ground.phase }, { on := 4, ground := Ground.phase }, { on := 5, ground := Ground.phase }, { on := 6, ground := Ground.phase }, { on := 7, ground := Ground.phase }, { on := 8, ground := Ground.phase }], guard := none }) (v := ?_) rfl (by kernel_rfl) (by kernel_rfl) (by kernel_rfl) (fun _ _ _ h => h) (Or.inl ⟨by rfl, ?_⟩) (by assumption) ?_
  rotate_left
  · (intro w hSw; (try dsimp only at hSw); (try obtain ⟨hSa, hSb⟩ := hSw); go_simp; try with_reducible rfl)
  try simp only [Act.put, List.setIfInBounds_toArray, List.set_cons_zero, List.set_cons_succ]
  refine wpAnyH_done (by kernel_rfl) ?_ _
  obtain ⟨gm, hgm, rfl, hpre⟩ := own_pre HOW2.out (by omega)
  have hpre0 : Pre wb gm (dv (mTo l k z 0)) := by rw [mTo_zero, rot, dv_app]; exact hpre
  have HP := Lib.hid hpre0
  have HG := Lib.hid (show w.heap.size ≤ gm by omega)
  clear HOW1 HOW2 HOa HRa HRW hpre hpre0 hsa HD1 HD2 HR hc1 hc2 hgm
  go_wp2_with (fail)
  go_loopw [10] (fun v wr => ∃ i : Nat, i ≤ n ∧ v = .int .i64 i ∧ Pre wr gm (dv (mTo l k z i)) ∧ Only (fun _ => False) w wr) (fun v wr => (n - intOf v).toNat)
  case atStart => exact ⟨0, by omega, rfl, HP.out, HOb.out⟩
  case round =>
    obtain ⟨i, hi, rfl, hp, hO⟩ := hrel
    have HP := Lib.hid hp
    have HO := Lib.hid hO
    clear hp hO HOb
    by_cases hin : i < n
    · have i0 : (0 : Int) ≤ i := by omega
      have i1 : (i : Int) < n := by omega
      have hil : i < l.length := by rw [HN.out]; exact hin
      obtain ⟨y, hy⟩ : ∃ y, (rot l k)[i]'(by rw [rot_len]; exact hil) = y := ⟨_, rfl⟩
      have hget := mTo_get l k z i hil
      have hsucc := mTo_succ l k z i hil
      rw [hy] at hget hsucc
      have hyl : y ∈ l := (rot_perm l k).mem_iff.1 (by rw [← hy]; exact List.getElem_mem _)
      have hyw := (HW.out y hyl).2
      have hD : DdAt wr gm (i * 4) y := by
        obtain ⟨cs, q1, q2, q3⟩ := HP.out
        have := DdAt.of (w := wr) (g := gm) (off := 0) (l := mTo l k z i) (fun j u hu => by rw [Nat.zero_add, q1.cell]; exact q3 j u hu) i (by rw [mTo_len]; exact hil)
        rw [hget, Nat.zero_add] at this
        exact this
      obtain ⟨-, -, c2, c3⟩ := hD
      have fr2 := HP.out.frozen (i * 4 + 2)
      have HL0 := Lib.hid (HL.out wr HO.out i hil)
      have HP1 := Lib.hid (HP.out.set (i * 4 + 2) (.int .i64 (y.b + z)))
      have hO1 := HO.out.setCell (p := ⟨gm, i * 4 + 2, none⟩) (fun h => by have := HG.out; simp at h; omega) (.int .i64 (y.b + z))
      have le1 := HL.out _ hO1 i hil
      have HO1' := Lib.hid hO1
      have fr3 := HP1.out.frozen (i * 4 + 3)
      have HP2 := Lib.hid (HP1.out.set (i * 4 + 3) (.int .i64 (y.e + z)))
      have hO2 := HO1'.out.setCell (p := ⟨gm, i * 4 + 3, none⟩) (fun h => by have := HG.out; simp at h; omega) (.int .i64 (y.e + z))
      have le2 := HL.out _ hO2 i hil
      have HO2' := Lib.hid hO2
      have HNX1 : Hid (y.e = -1 → Pre (wr.setCell ⟨gm, i * 4 + 2, none⟩ (.int .i64 (y.b + z))) gm (dv (mTo l k z (i + 1)))) := Lib.hid (fun he => by
        rw [hsucc, ← dv_set4' _ i (sh z y) (by rw [mTo_len]; exact hil) (by rw [hget]; rfl) (by rw [hget]; rfl) (by rw [hget]; simp [sh, he])]
        exact HP1.out)
      have HNX2 : Hid (y.e ≠ -1 → Pre ((wr.setCell ⟨gm, i * 4 + 2, none⟩ (.int .i64 (y.b + z))).setCell ⟨gm, i * 4 + 3, none⟩ (.int .i64 (y.e + z))) gm (dv (mTo l k z (i + 1)))) := Lib.hid (fun he => by
        rw [hsucc, ← dv_set4 _ i (sh z y) (by rw [mTo_len]; exact hil) (by rw [hget]; rfl) (by rw [hget]; rfl)]
        have e1 : (sh z y).e = y.e + z := by simp [sh, he]
        rw [e1]
        exact HP2.out)
      clear hO1 hO2 hget hsucc hy hyl HP1 HP2
      generalize y.b = yb at *
      generalize y.e = ye at *
      generalize (gt l i).e = le at *
      by_cases t1 : (1099511627776 : Int) < yb
      · clear le1 le2
        go_wp2
        go_ret
        exact ⟨rfl, HO.out.below (Nat.le_refl _) (fun i hi h => h)⟩
      by_cases t2 : (1099511627776 : Int) < ye
      · clear le1 le2
        go_wp2
        go_ret
        exact ⟨rfl, HO.out.below (Nat.le_refl _) (fun i hi h => h)⟩
      by_cases t3 : yb < 0
      · clear le1 le2
        go_wp2
        go_ret
        exact ⟨rfl, HO.out.below (Nat.le_refl _) (fun i hi h => h)⟩
      by_cases t4 : ye = -1
      · have HNX := Lib.hid (HNX1.out t4)
        subst t4
        clear HNX1 HNX2 le2
        by_cases t5 : le < -1
        · go_wp2
          go_ret
          exact ⟨rfl, HO1'.out.below (Nat.le_refl _) (fun i hi h => h)⟩
        · go_wp2
          go_roundw
          case rel => exact ⟨i + 1, by omega, by simp, HNX.out, HO1'.out⟩
          case measure => simp [intOf]; omega
      · have HNX := Lib.hid (HNX2.out t4)
        have t4' : (ye != -1) = true := by simp [t4]
        clear HNX1 HNX2 t4
        by_cases t6 : ye + z < -1
        · go_wp2
          go_ret
          exact ⟨rfl, HO2'.out.below (Nat.le_refl _) (fun i hi h => h)⟩
        by_cases t5 : le < -1
        · go_wp2
          go_ret
          exact ⟨rfl, HO2'.out.below (Nat.le_refl _) (fun i hi h => h)⟩
        · go_wp2
          go_roundw
          case rel => exact ⟨i + 1, by omega, by simp, HNX.out, HO2'.out⟩
          case measure => simp [intOf]; omega
    · obtain rfl : i = n := by omega
      have i1 : ¬ (i : Int) < i := by omega
      have hpr := HP.out.rd
      have hall : mTo l k z i = (rot l k).map (sh z) := by have := mTo_all l k z; rwa [HN.out] at this
      rw [hall] at hpr
      have hml : ((rot l k).map (sh z)).length = i := by rw [List.length_map, rot_len, HN.out]
      have H1 := Lib.hid (check_any g c (some ⟨g, off, none⟩) l wr (HR0.out.only HO.out id) (by rw [HN.out]; omega) (wfL_of (fun x hx => (HW.out x hx).1)))
      have H3 := fun W => Lib.hid (fun (hW : Only (fun _ => False) w W) => refRight_any g c (some ⟨g, off, none⟩) l W (HR0.out.only hW id) (by rw [HN.out]; omega))
      have HPR := Lib.hid hpr
      have HML := Lib.hid hml
      have HT := Lib.hid (fun h => turned_law (k := k) (z := (z : Int)) (by omega) h : right l = true → _)
      rw [HN.out] at H1 H3
      have HWM : Hid (wfL ((rot l k).map (sh z))) := Lib.hid (wfL_of (fun x hx => by
        obtain ⟨y, hy, rfl⟩ := List.mem_map.1 hx
        exact (HW.out y ((rot_perm l k).mem_iff.1 hy)).1))
      clear hpr hml hall HP HL HW HR0
      go_wp2_with (fail)
      refine H1.out.mono ?_
      rintro e w2 ⟨rfl, hO2⟩
      have H2 := Lib.hid (check_any gm c2 (some ⟨gm, 0, none⟩) _ w2 (HPR.out.only hO2 id) (by rw [HML.out]; omega) HWM.out)
      rw [HML.out] at H2
      have HO2 := Lib.hid (HO.out.trans hO2)
      clear hO2 H1 HPR HWM
      go_wp2_with (fail)
      refine H2.out.mono ?_
      rintro e w3 ⟨rfl, hO3⟩
      have HO3 := Lib.hid (HO2.out.trans hO3)
      have H4 := (H3 w3).out HO3.out
      have H4 := Lib.hid H4
      clear hO3 H2 H3 HO2
      go_wp2_with (fail)
      refine H4.out.mono ?_
      rintro e w4 ⟨rfl, hO4⟩
      have hB := (HO3.out.trans hO4).below (Nat.le_refl _) (fun i hi h => h)
      have HB := Lib.hid hB
      clear hO4 hB H4 HO3
      cases hrl : right l
      · clear HT
        go_wp2
        go_ret
        exact ⟨rfl, HB.out⟩
      · obtain ⟨h1, h2⟩ := HT.out hrl
        have q1 := right_eno h1
        have q2 := right_eno hrl
        rw [q1, q2, h2]
        clear q1 q2 h1 h2 HT HML
        generalize chk l = cl at *
        cases cl
        all_goals
          go_wp2
          go_ret
          exact ⟨rfl, HB.out⟩
end Go.Proofs.Ytgedinpafnfmmaa
