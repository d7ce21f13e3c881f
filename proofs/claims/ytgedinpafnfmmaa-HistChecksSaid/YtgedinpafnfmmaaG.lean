/- Hist: awake; the law HistOne. -/
import Derived.Test.YtgedinpafnfmmaaF
namespace Go.Proofs.Ytgedinpafnfmmaa
open Go.RowKit

/-- A block that was just made, read as a slice. -/
theorem Rd.fresh {w : World} {g : Nat} {t : TypeId} {cs : Array Value} (h : At w g t cs) (xs : List Value) (hx : cs.toList = xs) : Rd w g (some ⟨g, 0, none⟩) xs :=
  .inr ⟨0, rfl, h.lt, fun j u hu => by rw [Nat.zero_add, h.cell j]; rw [← hx] at hu; simpa using hu⟩

theorem right_eno {l : List Dd} (h : right l = true) : eno l = 0 := by simp [eno, h]
theorem wrong_eno {l : List Dd} (h : right l = false) : eno l = 1 := by simp [eno, h]

theorem aw1 : chk [⟨2, 1, 0, 1⟩, ⟨1, 1, 2, 3⟩] = true := by
  refine (chk_iff (by decide)).2 (.step ⟨2, 1, 0, 1⟩ (List.Perm.refl _) ?_ (.inl rfl) (.step ⟨1, 1, 2, 3⟩ (List.Perm.refl _) ?_ (.inr rfl) (.done ?_))) <;> simp [Dd.before]
theorem ser_one (x : Dd) (v : Int) : Ser [x] v ↔ x.e = -1 ∨ x.k = 2 ∨ x.v = v := by
  constructor
  · intro h
    cases h with
    | done h => exact .inl (h x (by simp))
    | @step _ R _ y hp _ hk _ =>
      have : y = x := by
        have := hp.mem_iff.2 (List.mem_cons_self (a := y) (l := R))
        simpa using this
      subst this
      exact .inr hk
  · rintro (h | h)
    · exact .done (by simpa using h)
    · exact .step x (List.Perm.refl _) (by simp) h (.done (by simp))
theorem aw2 : chk [⟨1, 5, 0, 1⟩] = false := by
  cases h : chk [⟨1, 5, 0, 1⟩]
  · rfl
  · have := (ser_one _ _).1 ((chk_iff (by decide)).1 h)
    simp at this

set_option maxRecDepth 100000 in
set_option maxHeartbeats 4000000 in
theorem awake_any (w : World) : Calls Try.prog 9 #[] w fun e w' => e = .returned (.bool true) ∧ Only (fun _ => False) w w' := by
  have hA := At.new w 30 #[.int .i64 2, .int .i64 1, .int .i64 0, .int .i64 1, .int .i64 1, .int .i64 1, .int .i64 2, .int .i64 3]
  have H1 := Lib.hid (check_any w.heap.size 2 _ [⟨2, 1, 0, 1⟩, ⟨1, 1, 2, 3⟩] _ (Rd.fresh hA _ rfl) (by simp) (by
    intro i hi
    match i, hi with
    | 0, _ => decide
    | 1, _ => decide))
  rw [aw1, right_eno (by decide)] at H1
  have HO0 := Lib.hid ((Only.refl (fun _ => False) w).alloc (.cells #[.int .i64 2, .int .i64 1, .int .i64 0, .int .i64 1, .int .i64 1, .int .i64 1, .int .i64 2, .int .i64 3] 30))
  clear hA
  simp only [List.length_cons, List.length_nil] at H1
  go_enter Try.func9, Try.ntmps9
  go_wp2_with (fail)
  refine H1.out.mono ?_
  rintro e w1 ⟨rfl, hO1⟩
  have hA := At.new w1 30 #[.int .i64 1, .int .i64 5, .int .i64 0, .int .i64 1]
  have H2 := Lib.hid (check_any w1.heap.size 1 _ [⟨1, 5, 0, 1⟩] _ (Rd.fresh hA _ rfl) (by simp) (by
    intro i hi
    match i, hi with
    | 0, _ => decide))
  rw [aw2, right_eno (by decide)] at H2
  have HO1 := Lib.hid ((HO0.out.trans hO1).alloc (.cells #[.int .i64 1, .int .i64 5, .int .i64 0, .int .i64 1] 30))
  clear hA hO1 H1
  simp only [List.length_cons, List.length_nil] at H2
  go_wp2_with (fail)
  refine H2.out.mono ?_
  rintro e w2 ⟨rfl, hO2⟩
  have HO2 := Lib.hid (HO1.out.trans hO2)
  clear hO2 H2
  go_wp2
  go_ret
  exact ⟨rfl, HO2.out⟩

def oneI (x : Dd) : Bool := x.k == 2 || x.e == -1 || x.v == 0
theorem chk_one {x : Dd} (h : x.may = true) : chk [x] = oneI x := by
  have hr : right [x] = true := by simp [right, h]
  have h1 := chk_iff hr
  rw [ser_one] at h1
  have h2 : oneI x = true ↔ x.e = -1 ∨ x.k = 2 ∨ x.v = 0 := by
    simp only [oneI, Bool.or_eq_true, beq_iff_eq]
    constructor <;> intro h <;> omega
  cases hc : chk [x] <;> cases ho : oneI x <;> simp_all

set_option maxRecDepth 100000 in
set_option maxHeartbeats 4000000 in
theorem histOne_walk (x : Dd) (w : World) (hw : (Lit.int .i64 x.v).wf = true) : Calls Try.prog 8 #[x.val] w fun e w' => e = .returned (.bool true) ∧ Below w.heap.size w w' := by
  have HO0 := Lib.hid ((Only.refl (fun _ => False) w).alloc (.cells #[.int .i64 x.k, .int .i64 x.v, .int .i64 x.b, .int .i64 x.e] 30))
  have HX := Lib.hid (At.new w 30 #[.int .i64 x.k, .int .i64 x.v, .int .i64 x.b, .int .i64 x.e])
  unfold Dd.val
  go_enter Try.func8, Try.ntmps8
  go_wp2_with (fail)
  refine (awake_any _).mono ?_
  rintro e w1 ⟨rfl, hO1⟩
  have HO1 := Lib.hid (HO0.out.trans hO1)
  have hX1 := HX.out.only hO1 id
  have x0 := hX1.cell 0
  have x1 := hX1.cell 1
  have x2 := hX1.cell 2
  have x3 := hX1.cell 3
  have HX1 := Lib.hid hX1
  have hA := At.new w1 30 #[.int .i64 x.k, .int .i64 x.v, .int .i64 x.b, .int .i64 x.e]
  have H1 := Lib.hid (check_any w1.heap.size 1 _ [x] _ (Rd.fresh hA _ rfl) (by simp) (by
    intro i hi
    match i, hi with
    | 0, _ => exact hw))
  have HO1' := Lib.hid (HO1.out.alloc (.cells #[.int .i64 x.k, .int .i64 x.v, .int .i64 x.b, .int .i64 x.e] 30))
  have HX1' := Lib.hid (hX1.alloc (.cells #[.int .i64 x.k, .int .i64 x.v, .int .i64 x.b, .int .i64 x.e] 30))
  clear hO1 hX1 HO0 HX hA
  simp only [List.length_cons, List.length_nil] at H1
  simp at x0 x1 x2 x3
  go_wp2_with (fail)
  refine H1.out.mono ?_
  rintro e w2 ⟨rfl, hO2⟩
  have HO2 := Lib.hid (HO1'.out.trans hO2)
  have hX2 := HX1'.out.only hO2 id
  clear x0 x1 x2 x3
  have x0 := hX2.cell 0
  have x1 := hX2.cell 1
  have x2 := hX2.cell 2
  have x3 := hX2.cell 3
  have HX2 := Lib.hid hX2
  have hA := At.new w2 30 #[.int .i64 x.k, .int .i64 x.v, .int .i64 x.b, .int .i64 x.e]
  have H2 := Lib.hid (right_any w2.heap.size 1 _ [x] _ (Rd.fresh hA _ rfl) (by simp))
  have HO2' := Lib.hid (HO2.out.alloc (.cells #[.int .i64 x.k, .int .i64 x.v, .int .i64 x.b, .int .i64 x.e] 30))
  have HX2' := Lib.hid (hX2.alloc (.cells #[.int .i64 x.k, .int .i64 x.v, .int .i64 x.b, .int .i64 x.e] 30))
  clear hO2 hX2 HO1 HX1 hA H1 HX1' HO1'
  simp only [List.length_cons, List.length_nil] at H2
  simp at x0 x1 x2 x3
  go_wp2_with (fail)
  refine H2.out.mono ?_
  rintro e w3 ⟨rfl, hO3⟩
  have HO3 := Lib.hid (HO2'.out.trans hO3)
  have hX3 := HX2'.out.only hO3 id
  clear x0 x1 x2 x3
  have x0 := hX3.cell 0
  have x1 := hX3.cell 1
  have x3 := hX3.cell 3
  simp at x0 x1 x3
  clear hO3 hX3 HX2 HX2' HO2 HO2' H2
  have hrm : right [x] = x.may := by simp [right]
  cases hm : x.may
  · rw [hm] at hrm
    rw [hrm, chk_wrong hrm, wrong_eno hrm]
    go_wp2
    go_ret
    exact ⟨rfl, HO3.out.below (Nat.le_refl _) (fun i hi h => h)⟩
  · rw [hm] at hrm
    rw [hrm, chk_one hm, right_eno hrm]
    cases h1 : (x.k == 2) <;> cases h2 : (x.e == -1) <;> cases h3 : (x.v == 0)
    all_goals
      go_wp2
      go_ret
      refine ⟨ret_b ?_, HO3.out.below (Nat.le_refl _) (fun i hi h => h)⟩
      simp_all [oneI]
end Go.Proofs.Ytgedinpafnfmmaa
