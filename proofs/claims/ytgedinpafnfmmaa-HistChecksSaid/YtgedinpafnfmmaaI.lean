/- Hist: the law HistMore. -/
import Derived.Test.YtgedinpafnfmmaaG
import Derived.Test.YtgedinpafnfmmaaAP
namespace Go.Proofs.Ytgedinpafnfmmaa
open Go.RowKit

def moreI (cl cm : Bool) (el em xk : Int) : Bool := if el ≠ 0 ∨ em ≠ 0 then !(el != 0 && cl) && !(em != 0 && cm) else (!cl || cm) && (xk != 1 || cl == cm)
theorem more_law (l : List Dd) (x : Dd) (hx : x.e = -1) : moreI (chk l) (chk (l ++ [x])) (eno l) (eno (l ++ [x])) x.k = true := by
  unfold moreI
  cases hl : right l
  · have h1 := chk_wrong hl
    have h2 := wrong_eno hl
    rw [h1, h2]
    cases hm : right (l ++ [x])
    · rw [chk_wrong hm]; simp
    · rw [right_eno hm]; simp
  · cases hm : right (l ++ [x])
    · rw [chk_wrong hm, wrong_eno hm, right_eno hl]; simp
    · rw [right_eno hl, right_eno hm]
      have e1 := chk_iff hl
      have e2 := chk_iff hm
      have hp : (x :: l).Perm (l ++ [x]) := (List.perm_append_singleton x l).symm
      have h1 : chk l = true → chk (l ++ [x]) = true := fun h => e2.2 (((e1.1 h).more x hx).perm hp)
      have h2 : x.k = 1 → chk (l ++ [x]) = true → chk l = true := fun hk h => e1.2 ((e2.1 h).less x l hp.symm hx (by omega))
      cases h3 : chk l <;> cases h4 : chk (l ++ [x]) <;> simp_all
theorem more_i {cl cm : Bool} {el em xk : Int} (h : moreI cl cm el em xk = true) : (el ≠ 0 ∨ em ≠ 0 → (!(el != 0 && cl) && !(em != 0 && cm)) = true) ∧ (el = 0 → em = 0 → ((!cl || cm) && (xk != 1 || cl == cm)) = true) := by
  unfold moreI at h
  constructor
  · intro h1; rwa [if_pos h1] at h
  · intro h1 h2; rwa [if_neg (by simp [h1, h2])] at h
theorem eno_01 (l : List Dd) : eno l = 0 ∨ eno l = 1 := by unfold eno; split <;> simp

theorem wfL_snoc {l : List Dd} {x : Dd} (h : wfL l) (hx : (Lit.int .i64 x.v).wf = true) : wfL (l ++ [x]) := by
  intro i hi
  simp at hi
  by_cases h1 : i < l.length
  · have : gt (l ++ [x]) i = gt l i := by unfold gt; simp [List.getD, List.getElem?_append_left h1]
    rw [this]; exact h i h1
  · obtain rfl : i = l.length := by omega
    have : gt (l ++ [x]) l.length = x := by unfold gt; simp [List.getD]
    rw [this]; exact hx
theorem dv_snoc (l : List Dd) (x : Dd) : dv (l ++ [x]) = dv l ++ x.cells := by simp [dv]
theorem dv_one (l : List Dd) : ∀ u ∈ dv l, u.oneCell' = true := by
  intro u hu
  obtain ⟨x, _, h⟩ := List.mem_flatMap.1 hu
  simp only [Dd.cells, List.mem_cons, List.not_mem_nil, or_false] at h
  rcases h with rfl | rfl | rfl | rfl <;> rfl

set_option maxRecDepth 100000 in
set_option maxHeartbeats 8000000 in
theorem histMore_walk (g c : Nat) (A : Option Addr) (l : List Dd) (x : Dd) (w : World) (hr : Rd w g A (dv l)) (hlen : l.length ≤ 9223372036854775807) (hwf : wfL l) (hx : (Lit.int .i64 x.v).wf = true) :
    Calls Try.prog 6 #[.slice A l.length c, x.val] w fun e w' => e = .returned (.bool true) ∧ Below w.heap.size w w' := by
  obtain ⟨i0, hi⟩ : ∃ i, Try.prog.info? 30 = some i := ⟨_, rfl⟩
  have hz0 : i0.zero = some (.agg #[.int .i64 0, .int .i64 0, .int .i64 0, .int .i64 0]) := by cases hi; rfl
  have hz1 : i0.size = 4 := by cases hi; rfl
  have hz2 : i0.bytes = 32 := by cases hi; rfl
  have HI := Lib.hid (And.intro hi (And.intro hz0 (And.intro hz1 hz2)))
  have HR := Lib.hid hr
  have HW := Lib.hid hwf
  have HV := Lib.hid hx
  have HO0 := Lib.hid ((Only.refl (fun _ => False) w).alloc (.cells #[.int .i64 x.k, .int .i64 x.v, .int .i64 x.b, .int .i64 x.e] 30))
  have HX := Lib.hid (At.new w 30 #[.int .i64 x.k, .int .i64 x.v, .int .i64 x.b, .int .i64 x.e])
  clear hr hwf hx hi hz0 hz1 hz2
  unfold Dd.val
  go_enter Try.func6, Try.ntmps6
  go_wp2_with (fail)
  refine (awake_any _).mono ?_
  rintro e w1 ⟨rfl, hO1⟩
  have HO1 := Lib.hid (HO0.out.trans hO1)
  have HX1 := Lib.hid (HX.out.only hO1 id)
  clear hO1 HO0 HX
  by_cases h9 : 9 < l.length
  · have i0 : (9 : Int) < l.length := by omega
    go_wp2
    go_ret
    exact ⟨rfl, HO1.out.below (Nat.le_refl _) (fun i hi h => h)⟩
  have i9 : ¬ (9 : Int) < l.length := by omega
  have n9 : l.length ≤ 9 := by omega
  have H1 := Lib.hid (check_any g c A l w1 (HR.out.only HO1.out id) hlen HW.out)
  clear h9
  go_wp2_with (fail)
  refine H1.out.mono ?_
  rintro e w2 ⟨rfl, hO2⟩
  have HO2 := Lib.hid (HO1.out.trans hO2)
  have hX2 := HX1.out.only hO2 id
  have HRR := Lib.hid (HR.out.only ((HO1.out.trans hO2).setCell (p := ⟨w.heap.size, 3, none⟩) (fun h => by simp at h) (.int .i64 (-1))) id)
  have f3 := hX2.frozen 3
  have c3 := hX2.cell 3
  have hX3 := hX2.set 3 (.int .i64 (-1))
  have HX2 := Lib.hid hX2
  have hbx : ¬ w.heap.size < w.heap.size := by omega
  have HO3 := Lib.hid (HO2.out.setCell (p := ⟨w.heap.size, 3, none⟩) (fun h => by simp at h) (.int .i64 (-1)))
  have HX3 := Lib.hid hX3
  simp at c3
  clear hO2 hX2 hX3 HX1 HO1 H1 hbx
  go_wp2_with (fail)
  have hxx : w.heap.size < (w2.setCell ⟨w.heap.size, 3, none⟩ (.int .i64 (-1))).heap.size := HX3.out.lt
  obtain ⟨wz, hwz⟩ : ∃ wz, wz = w2.setCell ⟨w.heap.size, 3, none⟩ (.int .i64 (-1)) := ⟨_, rfl⟩
  rw [← hwz] at HX3 HO3 HRR hxx ⊢
  clear hwz HX2 HO2 c3 f3 HR
  have HR3 := Lib.hid HRR.out
  clear HRR
  have HX3' : Hid (At wz w.heap.size 30 #[.int .i64 x.k, .int .i64 x.v, .int .i64 x.b, .int .i64 (-1)]) := Lib.hid HX3.out
  clear HX3
  have HXd := Lib.hid HX3'.out
  have HRd := Lib.hid HR3.out
  have HOd := Lib.hid HO3.out
  clear HX3' HR3 HO3
  refine wp_region_held_drew (S := (fun W => (W.cell? ⟨w.heap.size, 0, none⟩ = some (.int .i64 x.k) ∧ W.cell? ⟨w.heap.size, 1, none⟩ = some (.int .i64 x.v)) ∧ (W.cell? ⟨w.heap.size, 2, none⟩ = some (.int .i64 x.b) ∧ W.cell? ⟨w.heap.size, 3, none⟩ = some (.int .i64 (-1))))) (by kernel_rfl) ?_ (fun hHeld => ?_)
  · exact ⟨⟨HXd.out.cell 0, HXd.out.cell 1⟩, ⟨HXd.out.cell 2, HXd.out.cell 3⟩⟩
  refine wpAnyH_take (i := 1) (oi := { dst := some 23, op := Op.move (Operand.tmp 0), type := 22, pos := "law.go:77", after := #[], guard := none }) (v := ?_) rfl (by kernel_rfl) (by kernel_rfl) (by kernel_rfl) (fun _ _ _ h => h) (Or.inl ⟨by rfl, ?_⟩) (by assumption) ?_
  rotate_left
  · (intro w hSw; (try dsimp only at hSw); (try obtain ⟨hSa, hSb⟩ := hSw); go_simp; try with_reducible rfl)
  try simp only [Act.put, List.setIfInBounds_toArray, List.set_cons_zero, List.set_cons_succ]
  refine wpAnyH_take (i := 3) (oi := { dst := some 25, op := Op.load 30 (Operand.tmp 3), type := 30, pos := "law.go:77", after := #[], guard := none }) (v := ?_) rfl (by kernel_rfl) (by kernel_rfl) (by kernel_rfl) (fun _ _ _ h => h) (Or.inl ⟨by rfl, ?_⟩) (by assumption) ?_
  rotate_left
  · (intro w hSw; (try dsimp only at hSw); (try obtain ⟨hSa, hSb⟩ := hSw); go_simp; try with_reducible rfl)
  try simp only [Act.put, List.setIfInBounds_toArray, List.set_cons_zero, List.set_cons_succ]
  refine wpAnyH_ready (rs := [0, 4]) (by kernel_rfl) (by simp) ?_
  refine AllReadyH.cons (o := { dst := some 22, op := Op.buildSlice 22 0 #[], type := 22, pos := "law.go:77", after := #[], guard := none }) rfl (fun K hK => ?_) (AllReadyH.cons (o := { dst := some 26, op := Op.buildSlice 22 1 #[(0, Operand.tmp 25)], type := 22, pos := "law.go:77", after := #[{ on := 3, ground := Ground.data }], guard := none }) rfl (fun K hK => ?_) (AllReadyH.nil))
  · skip
    go_simp
    have HX1 := Lib.hid (HXd.out.alloc (.cells #[] 30))
    have HR1 := Lib.hid (HRd.out.only (S := fun _ => False) ((Only.refl _ _).alloc (.cells #[] 30)) id)
    have HO1 := Lib.hid (HOd.out.alloc (.cells #[] 30))
    have HF1 := Lib.hid (own_fresh (base := wz.heap.size) (At.new' (g := wz.heap.size) (w := wz) (by simp) 30 #[]) (by omega) 4)
    refine hK.out _ _ ?_ (fun hHeld => ?_)
    · exact ⟨⟨HX1.out.cell 0, HX1.out.cell 1⟩, ⟨HX1.out.cell 2, HX1.out.cell 3⟩⟩
    clear hK K
    try simp only [Act.put, List.setIfInBounds_toArray, List.set_cons_zero, List.set_cons_succ]
    refine wpAnyH_ready (rs := [2, 4]) (by kernel_rfl) (by simp) ?_
    refine AllReadyH.cons (o := { dst := some 24, op := Op.call { callee := Callee.builtin Builtin.append, args := #[Operand.tmp 22, Operand.tmp 23], argTypes := #[22, 22] }, type := 22, pos := "law.go:77", after := #[{ on := 0, ground := Ground.data }, { on := 1, ground := Ground.data }], guard := none }) rfl (fun K hK => ?_) (AllReadyH.cons (o := { dst := some 26, op := Op.buildSlice 22 1 #[(0, Operand.tmp 25)], type := 22, pos := "law.go:77", after := #[{ on := 3, ground := Ground.data }], guard := none }) rfl (fun K hK => ?_) (AllReadyH.nil))
    · skip
      have hbs : wz.heap.size ≤ (wz.alloc (.cells #[] 30)).heap.size := by first | (simp; done) | (simp; omega)
      refine step_append_src rfl (.tmp 22) (.tmp 23) 22 rfl wz.heap.size 30 i0 (.agg #[.int .i64 0, .int .i64 0, .int .i64 0, .int .i64 0]) 4 32 Try.underlying22 HI.out.1 HI.out.2.1 HI.out.2.2.1 HI.out.2.2.2 rfl (by decide) (.slice (some ⟨wz.heap.size, 0, none⟩) 0 0) 0 [] rfl HF1.out.drew g A l.length c (dv l) rfl (dv_len l) (HR1.out.only (S := fun _ => False) ((Only.refl _ _).drew) id) (dv_one l) (by unfold maxLen; omega) (by omega) hbs ?_
      intro A1 c1 wa2 hc1 hown1 hg1
      simp only [Nat.zero_add, List.nil_append] at hown1 hc1
      simp only [Nat.zero_add]
      have HX2 := Lib.hid (HX1.out.drew.grown hg1 (own_ne HF1.out hxx))
      have HO2 := Lib.hid (HO1.out.drew.append HF1.out.drew hg1 (fun i hi hb => by omega))
      have HF2 := Lib.hid hown1
      have hsz2 : wz.heap.size + 1 ≤ wa2.heap.size := by have := hg1.size; simp at this; omega
      have HR2 := Lib.hid (show True from trivial)
      clear hown1 hg1
      refine hK.out _ _ ?_ (fun hHeld => ?_)
      · exact ⟨⟨HX2.out.cell 0, HX2.out.cell 1⟩, ⟨HX2.out.cell 2, HX2.out.cell 3⟩⟩
      clear hK K
      try simp only [Act.put, List.setIfInBounds_toArray, List.set_cons_zero, List.set_cons_succ]
      refine wpAnyH_ready (rs := [4]) (by kernel_rfl) (by simp) ?_
      refine AllReadyH.cons (o := { dst := some 26, op := Op.buildSlice 22 1 #[(0, Operand.tmp 25)], type := 22, pos := "law.go:77", after := #[{ on := 3, ground := Ground.data }], guard := none }) rfl (fun K hK => ?_) (AllReadyH.nil)
      skip
      go_simp
      have HX3 := Lib.hid (HX2.out.alloc (.cells #[.int .i64 x.k, .int .i64 x.v, .int .i64 x.b, .int .i64 (-1)] 30))
      have HR3 := Lib.hid (show True from trivial)
      have HO3 := Lib.hid (HO2.out.alloc (.cells #[.int .i64 x.k, .int .i64 x.v, .int .i64 x.b, .int .i64 (-1)] 30))
      have HB3 := Lib.hid (At.new' (g := wa2.heap.size) (w := wa2) (by simp) 30 #[.int .i64 x.k, .int .i64 x.v, .int .i64 x.b, .int .i64 (-1)])
      have HF3 := Lib.hid (HF2.out.alloc (.cells #[.int .i64 x.k, .int .i64 x.v, .int .i64 x.b, .int .i64 (-1)] 30))
      refine hK.out _ _ ?_ (fun hHeld => ?_)
      · exact ⟨⟨HX3.out.cell 0, HX3.out.cell 1⟩, ⟨HX3.out.cell 2, HX3.out.cell 3⟩⟩
      clear hK K
      try simp only [Act.put, List.setIfInBounds_toArray, List.set_cons_zero, List.set_cons_succ]
      refine wpAnyH_ready (rs := [5]) (by kernel_rfl) (by simp) ?_
      refine AllReadyH.cons (o := { dst := some 27, op := Op.call { callee := Callee.builtin Builtin.append, args := #[Operand.tmp 24, Operand.tmp 26], argTypes := #[22, 22] }, type := 22, pos := "law.go:77", after := #[{ on := 2, ground := Ground.data }, { on := 4, ground := Ground.data }, { on := 2, ground := Ground.chain }], guard := none }) rfl (fun K hK => ?_) (AllReadyH.nil)
      skip
      have hbs : wz.heap.size ≤ (wa2.alloc (.cells #[.int .i64 x.k, .int .i64 x.v, .int .i64 x.b, .int .i64 (-1)] 30)).heap.size := by first | omega | (simp; omega)
      refine step_append_src rfl (.tmp 24) (.tmp 26) 22 rfl wz.heap.size 30 i0 (.agg #[.int .i64 0, .int .i64 0, .int .i64 0, .int .i64 0]) 4 32 Try.underlying22 HI.out.1 HI.out.2.1 HI.out.2.2.1 HI.out.2.2.2 rfl (by decide) (.slice A1 l.length c1) l.length (dv l) rfl HF3.out (wa2.heap.size) (some ⟨wa2.heap.size, 0, none⟩) 1 1 [.int .i64 x.k, .int .i64 x.v, .int .i64 x.b, .int .i64 (-1)] rfl rfl (Rd.fresh HB3.out _ rfl) (by simp [Value.oneCell']) (by unfold maxLen; omega) (by omega) hbs ?_
      intro A2 c2 wb4 hc2 hown2 hg2
      have HX4 := Lib.hid (HX3.out.grown hg2 (own_ne HF3.out hxx))
      have HO4 := Lib.hid (HO3.out.append HF3.out hg2 (fun i hi hb => by omega))
      have HF4 := Lib.hid hown2
      clear hown2 hg2
      refine hK.out _ _ ?_ (fun hHeld => ?_)
      · exact ⟨⟨HX4.out.cell 0, HX4.out.cell 1⟩, ⟨HX4.out.cell 2, HX4.out.cell 3⟩⟩
      clear hK K
      try simp only [Act.put, List.setIfInBounds_toArray, List.set_cons_zero, List.set_cons_succ]
      refine wpAnyH_ready (rs := [6]) (by kernel_rfl) (by simp) ?_
      refine AllReadyH.cons (o := { dst := some 8, op := Op.assign (Operand.tmp 27), type := 22, pos := "law.go:77", after := #[{ on := 5, ground := Ground.data }, { on := 5, ground := Ground.chain }, { on := 0, ground := Ground.phase }, { on := 1, ground := Ground.phase }, { on := 2, ground := Ground.phase }, { on := 3, ground := Ground.phase }, { on := 4, ground := Ground.phase }, { on := 5, ground := Ground.phase }], guard := none }) rfl (fun K hK => ?_) (AllReadyH.nil)
      skip
      go_simp
      refine hK.out _ _ ?_ (fun hHeld => ?_)
      · exact ⟨⟨HX4.out.cell 0, HX4.out.cell 1⟩, ⟨HX4.out.cell 2, HX4.out.cell 3⟩⟩
      clear hK K
      try simp only [Act.put, List.setIfInBounds_toArray, List.set_cons_zero, List.set_cons_succ]
      refine wpAnyH_done (by kernel_rfl) ?_ _
      have HXF := Lib.hid HX4.out
      have HOF := Lib.hid HO4.out
      obtain ⟨gF, hgF, hrF⟩ := own_row HF4.out (by simp [Dd.cells])
      have HRF := Lib.hid hrF
      clear hrF
      have H2 := Lib.hid (check_any gF c2 A2 (l ++ [{ x with e := -1 }]) _ (by rw [dv_snoc]; exact HRF.out) (by simp; omega) (wfL_snoc HW.out HV.out))
      rw [List.length_append, show ([{ x with e := -1 }] : List Dd).length = 1 from rfl] at H2
      have ML := Lib.hid (more_i (more_law l { x with e := -1 } rfl))
      have E1 := Lib.hid (eno_01 l)
      have E2 := Lib.hid (eno_01 (l ++ [{ x with e := -1 }]))
      clear HRF
      simp only at ML
      generalize chk (l ++ [{ x with e := -1 }]) = cm at *
      generalize eno (l ++ [{ x with e := -1 }]) = em at *
      generalize chk l = cl at *
      generalize eno l = el at *
      go_wp2_with (fail)
      refine H2.out.mono ?_
      rintro e w5 ⟨rfl, hO5⟩
      have hX5 := HXF.out.only hO5 id
      have c0 := hX5.cell 0
      simp at c0
      have HO5 := Lib.hid (HOF.out.trans hO5)
      clear hX5 hO5 HXF HOF H2
      have hfin : Below w.heap.size w w5 := HO5.out.below (Nat.le_refl _) (fun i hi h => h)
      have HFIN := Lib.hid hfin
      clear hfin
      rcases E1.out with rfl | rfl <;> rcases E2.out with rfl | rfl
      · have h := ML.out.2 rfl rfl
        cases hk : (x.k != 1)
        all_goals
          rw [hk] at h
          cases cl <;> cases cm
          all_goals
            first
            | (exfalso; revert h; decide)
            | (clear h ML E1 E2
               go_wp2
               go_ret
               exact ⟨rfl, HFIN.out⟩)
      all_goals
        have h := ML.out.1 (by decide)
        cases cl <;> cases cm
        all_goals
          first
          | (exfalso; revert h; decide)
          | (clear h ML E1 E2
             go_wp2
             go_ret
             exact ⟨rfl, HFIN.out⟩)
    · skip
      go_simp
      have HX6 := Lib.hid (HX1.out.alloc (.cells #[.int .i64 x.k, .int .i64 x.v, .int .i64 x.b, .int .i64 (-1)] 30))
      have HR6 := Lib.hid (HR1.out.only (S := fun _ => False) ((Only.refl _ _).alloc (.cells #[.int .i64 x.k, .int .i64 x.v, .int .i64 x.b, .int .i64 (-1)] 30)) id)
      have HO6 := Lib.hid (HO1.out.alloc (.cells #[.int .i64 x.k, .int .i64 x.v, .int .i64 x.b, .int .i64 (-1)] 30))
      have HB6 := Lib.hid (At.new' (g := wz.heap.size + 1) (w := (wz.alloc (.cells #[] 30))) (by simp) 30 #[.int .i64 x.k, .int .i64 x.v, .int .i64 x.b, .int .i64 (-1)])
      have HF6 := Lib.hid (HF1.out.alloc (.cells #[.int .i64 x.k, .int .i64 x.v, .int .i64 x.b, .int .i64 (-1)] 30))
      refine hK.out _ _ ?_ (fun hHeld => ?_)
      · exact ⟨⟨HX6.out.cell 0, HX6.out.cell 1⟩, ⟨HX6.out.cell 2, HX6.out.cell 3⟩⟩
      clear hK K
      try simp only [Act.put, List.setIfInBounds_toArray, List.set_cons_zero, List.set_cons_succ]
      refine wpAnyH_ready (rs := [2]) (by kernel_rfl) (by simp) ?_
      refine AllReadyH.cons (o := { dst := some 24, op := Op.call { callee := Callee.builtin Builtin.append, args := #[Operand.tmp 22, Operand.tmp 23], argTypes := #[22, 22] }, type := 22, pos := "law.go:77", after := #[{ on := 0, ground := Ground.data }, { on := 1, ground := Ground.data }], guard := none }) rfl (fun K hK => ?_) (AllReadyH.nil)
      skip
      have hbs : wz.heap.size ≤ ((wz.alloc (.cells #[] 30)).alloc (.cells #[.int .i64 x.k, .int .i64 x.v, .int .i64 x.b, .int .i64 (-1)] 30)).heap.size := by first | (simp; done) | (simp; omega)
      refine step_append_src rfl (.tmp 22) (.tmp 23) 22 rfl wz.heap.size 30 i0 (.agg #[.int .i64 0, .int .i64 0, .int .i64 0, .int .i64 0]) 4 32 Try.underlying22 HI.out.1 HI.out.2.1 HI.out.2.2.1 HI.out.2.2.2 rfl (by decide) (.slice (some ⟨wz.heap.size, 0, none⟩) 0 0) 0 [] rfl HF6.out.drew g A l.length c (dv l) rfl (dv_len l) (HR6.out.only (S := fun _ => False) ((Only.refl _ _).drew) id) (dv_one l) (by unfold maxLen; omega) (by omega) hbs ?_
      intro A1 c1 wa7 hc1 hown1 hg1
      simp only [Nat.zero_add, List.nil_append] at hown1 hc1
      simp only [Nat.zero_add]
      have HX7 := Lib.hid (HX6.out.drew.grown hg1 (own_ne HF6.out hxx))
      have HO7 := Lib.hid (HO6.out.drew.append HF6.out.drew hg1 (fun i hi hb => by omega))
      have HF7 := Lib.hid hown1
      have hsz7 : wz.heap.size + 1 ≤ wa7.heap.size := by have := hg1.size; simp at this; omega
      have HB7 := Lib.hid (HB6.out.drew.grown hg1 (by simp [Value.ownBlock]))
      have HR7 := Lib.hid (show True from trivial)
      clear hown1 hg1
      refine hK.out _ _ ?_ (fun hHeld => ?_)
      · exact ⟨⟨HX7.out.cell 0, HX7.out.cell 1⟩, ⟨HX7.out.cell 2, HX7.out.cell 3⟩⟩
      clear hK K
      try simp only [Act.put, List.setIfInBounds_toArray, List.set_cons_zero, List.set_cons_succ]
      refine wpAnyH_ready (rs := [5]) (by kernel_rfl) (by simp) ?_
      refine AllReadyH.cons (o := { dst := some 27, op := Op.call { callee := Callee.builtin Builtin.append, args := #[Operand.tmp 24, Operand.tmp 26], argTypes := #[22, 22] }, type := 22, pos := "law.go:77", after := #[{ on := 2, ground := Ground.data }, { on := 4, ground := Ground.data }, { on := 2, ground := Ground.chain }], guard := none }) rfl (fun K hK => ?_) (AllReadyH.nil)
      skip
      have hbs : wz.heap.size ≤ wa7.heap.size := by first | omega | (simp; omega)
      refine step_append_src rfl (.tmp 24) (.tmp 26) 22 rfl wz.heap.size 30 i0 (.agg #[.int .i64 0, .int .i64 0, .int .i64 0, .int .i64 0]) 4 32 Try.underlying22 HI.out.1 HI.out.2.1 HI.out.2.2.1 HI.out.2.2.2 rfl (by decide) (.slice A1 l.length c1) l.length (dv l) rfl HF7.out (wz.heap.size + 1) (some ⟨wz.heap.size + 1, 0, none⟩) 1 1 [.int .i64 x.k, .int .i64 x.v, .int .i64 x.b, .int .i64 (-1)] rfl rfl (Rd.fresh HB7.out _ rfl) (by simp [Value.oneCell']) (by unfold maxLen; omega) (by omega) hbs ?_
      intro A2 c2 wb8 hc2 hown2 hg2
      have HX8 := Lib.hid (HX7.out.grown hg2 (own_ne HF7.out hxx))
      have HO8 := Lib.hid (HO7.out.append HF7.out hg2 (fun i hi hb => by omega))
      have HF8 := Lib.hid hown2
      clear hown2 hg2
      refine hK.out _ _ ?_ (fun hHeld => ?_)
      · exact ⟨⟨HX8.out.cell 0, HX8.out.cell 1⟩, ⟨HX8.out.cell 2, HX8.out.cell 3⟩⟩
      clear hK K
      try simp only [Act.put, List.setIfInBounds_toArray, List.set_cons_zero, List.set_cons_succ]
      refine wpAnyH_ready (rs := [6]) (by kernel_rfl) (by simp) ?_
      refine AllReadyH.cons (o := { dst := some 8, op := Op.assign (Operand.tmp 27), type := 22, pos := "law.go:77", after := #[{ on := 5, ground := Ground.data }, { on := 5, ground := Ground.chain }, { on := 0, ground := Ground.phase }, { on := 1, ground := Ground.phase }, { on := 2, ground := Ground.phase }, { on := 3, ground := Ground.phase }, { on := 4, ground := Ground.phase }, { on := 5, ground := Ground.phase }], guard := none }) rfl (fun K hK => ?_) (AllReadyH.nil)
      skip
      go_simp
      refine hK.out _ _ ?_ (fun hHeld => ?_)
      · exact ⟨⟨HX8.out.cell 0, HX8.out.cell 1⟩, ⟨HX8.out.cell 2, HX8.out.cell 3⟩⟩
      clear hK K
      try simp only [Act.put, List.setIfInBounds_toArray, List.set_cons_zero, List.set_cons_succ]
      refine wpAnyH_done (by kernel_rfl) ?_ _
      have HXF := Lib.hid HX8.out
      have HOF := Lib.hid HO8.out
      obtain ⟨gF, hgF, hrF⟩ := own_row HF8.out (by simp [Dd.cells])
      have HRF := Lib.hid hrF
      clear hrF
      have H2 := Lib.hid (check_any gF c2 A2 (l ++ [{ x with e := -1 }]) _ (by rw [dv_snoc]; exact HRF.out) (by simp; omega) (wfL_snoc HW.out HV.out))
      rw [List.length_append, show ([{ x with e := -1 }] : List Dd).length = 1 from rfl] at H2
      have ML := Lib.hid (more_i (more_law l { x with e := -1 } rfl))
      have E1 := Lib.hid (eno_01 l)
      have E2 := Lib.hid (eno_01 (l ++ [{ x with e := -1 }]))
      clear HRF
      simp only at ML
      generalize chk (l ++ [{ x with e := -1 }]) = cm at *
      generalize eno (l ++ [{ x with e := -1 }]) = em at *
      generalize chk l = cl at *
      generalize eno l = el at *
      go_wp2_with (fail)
      refine H2.out.mono ?_
      rintro e w5 ⟨rfl, hO5⟩
      have hX5 := HXF.out.only hO5 id
      have c0 := hX5.cell 0
      simp at c0
      have HO5 := Lib.hid (HOF.out.trans hO5)
      clear hX5 hO5 HXF HOF H2
      have hfin : Below w.heap.size w w5 := HO5.out.below (Nat.le_refl _) (fun i hi h => h)
      have HFIN := Lib.hid hfin
      clear hfin
      rcases E1.out with rfl | rfl <;> rcases E2.out with rfl | rfl
      · have h := ML.out.2 rfl rfl
        cases hk : (x.k != 1)
        all_goals
          rw [hk] at h
          cases cl <;> cases cm
          all_goals
            first
            | (exfalso; revert h; decide)
            | (clear h ML E1 E2
               go_wp2
               go_ret
               exact ⟨rfl, HFIN.out⟩)
      all_goals
        have h := ML.out.1 (by decide)
        cases cl <;> cases cm
        all_goals
          first
          | (exfalso; revert h; decide)
          | (clear h ML E1 E2
             go_wp2
             go_ret
             exact ⟨rfl, HFIN.out⟩)
  · skip
    go_simp
    have HX10 := Lib.hid (HXd.out.alloc (.cells #[.int .i64 x.k, .int .i64 x.v, .int .i64 x.b, .int .i64 (-1)] 30))
    have HR10 := Lib.hid (HRd.out.only (S := fun _ => False) ((Only.refl _ _).alloc (.cells #[.int .i64 x.k, .int .i64 x.v, .int .i64 x.b, .int .i64 (-1)] 30)) id)
    have HO10 := Lib.hid (HOd.out.alloc (.cells #[.int .i64 x.k, .int .i64 x.v, .int .i64 x.b, .int .i64 (-1)] 30))
    have HB10 := Lib.hid (At.new' (g := wz.heap.size) (w := wz) (by simp) 30 #[.int .i64 x.k, .int .i64 x.v, .int .i64 x.b, .int .i64 (-1)])
    refine hK.out _ _ ?_ (fun hHeld => ?_)
    · exact ⟨⟨HX10.out.cell 0, HX10.out.cell 1⟩, ⟨HX10.out.cell 2, HX10.out.cell 3⟩⟩
    clear hK K
    try simp only [Act.put, List.setIfInBounds_toArray, List.set_cons_zero, List.set_cons_succ]
    refine wpAnyH_ready (rs := [0]) (by kernel_rfl) (by simp) ?_
    refine AllReadyH.cons (o := { dst := some 22, op := Op.buildSlice 22 0 #[], type := 22, pos := "law.go:77", after := #[], guard := none }) rfl (fun K hK => ?_) (AllReadyH.nil)
    skip
    go_simp
    have HX11 := Lib.hid (HX10.out.alloc (.cells #[] 30))
    have HR11 := Lib.hid (HR10.out.only (S := fun _ => False) ((Only.refl _ _).alloc (.cells #[] 30)) id)
    have HO11 := Lib.hid (HO10.out.alloc (.cells #[] 30))
    have HF11 := Lib.hid (own_fresh (base := wz.heap.size) (At.new' (g := wz.heap.size + 1) (w := (wz.alloc (.cells #[.int .i64 x.k, .int .i64 x.v, .int .i64 x.b, .int .i64 (-1)] 30))) (by simp) 30 #[]) (by omega) 4)
    have HB11 := Lib.hid (HB10.out.alloc (.cells #[] 30))
    refine hK.out _ _ ?_ (fun hHeld => ?_)
    · exact ⟨⟨HX11.out.cell 0, HX11.out.cell 1⟩, ⟨HX11.out.cell 2, HX11.out.cell 3⟩⟩
    clear hK K
    try simp only [Act.put, List.setIfInBounds_toArray, List.set_cons_zero, List.set_cons_succ]
    refine wpAnyH_ready (rs := [2]) (by kernel_rfl) (by simp) ?_
    refine AllReadyH.cons (o := { dst := some 24, op := Op.call { callee := Callee.builtin Builtin.append, args := #[Operand.tmp 22, Operand.tmp 23], argTypes := #[22, 22] }, type := 22, pos := "law.go:77", after := #[{ on := 0, ground := Ground.data }, { on := 1, ground := Ground.data }], guard := none }) rfl (fun K hK => ?_) (AllReadyH.nil)
    skip
    have hbs : wz.heap.size ≤ ((wz.alloc (.cells #[.int .i64 x.k, .int .i64 x.v, .int .i64 x.b, .int .i64 (-1)] 30)).alloc (.cells #[] 30)).heap.size := by first | (simp; done) | (simp; omega)
    refine step_append_src rfl (.tmp 22) (.tmp 23) 22 rfl wz.heap.size 30 i0 (.agg #[.int .i64 0, .int .i64 0, .int .i64 0, .int .i64 0]) 4 32 Try.underlying22 HI.out.1 HI.out.2.1 HI.out.2.2.1 HI.out.2.2.2 rfl (by decide) (.slice (some ⟨wz.heap.size + 1, 0, none⟩) 0 0) 0 [] rfl HF11.out.drew g A l.length c (dv l) rfl (dv_len l) (HR11.out.only (S := fun _ => False) ((Only.refl _ _).drew) id) (dv_one l) (by unfold maxLen; omega) (by omega) hbs ?_
    intro A1 c1 wa12 hc1 hown1 hg1
    simp only [Nat.zero_add, List.nil_append] at hown1 hc1
    simp only [Nat.zero_add]
    have HX12 := Lib.hid (HX11.out.drew.grown hg1 (own_ne HF11.out hxx))
    have HO12 := Lib.hid (HO11.out.drew.append HF11.out.drew hg1 (fun i hi hb => by omega))
    have HF12 := Lib.hid hown1
    have hsz12 : wz.heap.size + 1 ≤ wa12.heap.size := by have := hg1.size; simp at this; omega
    have HB12 := Lib.hid (HB11.out.drew.grown hg1 (by simp [Value.ownBlock]))
    have HR12 := Lib.hid (show True from trivial)
    clear hown1 hg1
    refine hK.out _ _ ?_ (fun hHeld => ?_)
    · exact ⟨⟨HX12.out.cell 0, HX12.out.cell 1⟩, ⟨HX12.out.cell 2, HX12.out.cell 3⟩⟩
    clear hK K
    try simp only [Act.put, List.setIfInBounds_toArray, List.set_cons_zero, List.set_cons_succ]
    refine wpAnyH_ready (rs := [5]) (by kernel_rfl) (by simp) ?_
    refine AllReadyH.cons (o := { dst := some 27, op := Op.call { callee := Callee.builtin Builtin.append, args := #[Operand.tmp 24, Operand.tmp 26], argTypes := #[22, 22] }, type := 22, pos := "law.go:77", after := #[{ on := 2, ground := Ground.data }, { on := 4, ground := Ground.data }, { on := 2, ground := Ground.chain }], guard := none }) rfl (fun K hK => ?_) (AllReadyH.nil)
    skip
    have hbs : wz.heap.size ≤ wa12.heap.size := by first | omega | (simp; omega)
    refine step_append_src rfl (.tmp 24) (.tmp 26) 22 rfl wz.heap.size 30 i0 (.agg #[.int .i64 0, .int .i64 0, .int .i64 0, .int .i64 0]) 4 32 Try.underlying22 HI.out.1 HI.out.2.1 HI.out.2.2.1 HI.out.2.2.2 rfl (by decide) (.slice A1 l.length c1) l.length (dv l) rfl HF12.out (wz.heap.size) (some ⟨wz.heap.size, 0, none⟩) 1 1 [.int .i64 x.k, .int .i64 x.v, .int .i64 x.b, .int .i64 (-1)] rfl rfl (Rd.fresh HB12.out _ rfl) (by simp [Value.oneCell']) (by unfold maxLen; omega) (by omega) hbs ?_
    intro A2 c2 wb13 hc2 hown2 hg2
    have HX13 := Lib.hid (HX12.out.grown hg2 (own_ne HF12.out hxx))
    have HO13 := Lib.hid (HO12.out.append HF12.out hg2 (fun i hi hb => by omega))
    have HF13 := Lib.hid hown2
    clear hown2 hg2
    refine hK.out _ _ ?_ (fun hHeld => ?_)
    · exact ⟨⟨HX13.out.cell 0, HX13.out.cell 1⟩, ⟨HX13.out.cell 2, HX13.out.cell 3⟩⟩
    clear hK K
    try simp only [Act.put, List.setIfInBounds_toArray, List.set_cons_zero, List.set_cons_succ]
    refine wpAnyH_ready (rs := [6]) (by kernel_rfl) (by simp) ?_
    refine AllReadyH.cons (o := { dst := some 8, op := Op.assign (Operand.tmp 27), type := 22, pos := "law.go:77", after := #[{ on := 5, ground := Ground.data }, { on := 5, ground := Ground.chain }, { on := 0, ground := Ground.phase }, { on := 1, ground := Ground.phase }, { on := 2, ground := Ground.phase }, { on := 3, ground := Ground.phase }, { on := 4, ground := Ground.phase }, { on := 5, ground := Ground.phase }], guard := none }) rfl (fun K hK => ?_) (AllReadyH.nil)
    skip
    go_simp
    refine hK.out _ _ ?_ (fun hHeld => ?_)
    · exact ⟨⟨HX13.out.cell 0, HX13.out.cell 1⟩, ⟨HX13.out.cell 2, HX13.out.cell 3⟩⟩
    clear hK K
    try simp only [Act.put, List.setIfInBounds_toArray, List.set_cons_zero, List.set_cons_succ]
    refine wpAnyH_done (by kernel_rfl) ?_ _
    have HXF := Lib.hid HX13.out
    have HOF := Lib.hid HO13.out
    obtain ⟨gF, hgF, hrF⟩ := own_row HF13.out (by simp [Dd.cells])
    have HRF := Lib.hid hrF
    clear hrF
    have H2 := Lib.hid (check_any gF c2 A2 (l ++ [{ x with e := -1 }]) _ (by rw [dv_snoc]; exact HRF.out) (by simp; omega) (wfL_snoc HW.out HV.out))
    rw [List.length_append, show ([{ x with e := -1 }] : List Dd).length = 1 from rfl] at H2
    have ML := Lib.hid (more_i (more_law l { x with e := -1 } rfl))
    have E1 := Lib.hid (eno_01 l)
    have E2 := Lib.hid (eno_01 (l ++ [{ x with e := -1 }]))
    clear HRF
    simp only at ML
    generalize chk (l ++ [{ x with e := -1 }]) = cm at *
    generalize eno (l ++ [{ x with e := -1 }]) = em at *
    generalize chk l = cl at *
    generalize eno l = el at *
    go_wp2_with (fail)
    refine H2.out.mono ?_
    rintro e w5 ⟨rfl, hO5⟩
    have hX5 := HXF.out.only hO5 id
    have c0 := hX5.cell 0
    simp at c0
    have HO5 := Lib.hid (HOF.out.trans hO5)
    clear hX5 hO5 HXF HOF H2
    have hfin : Below w.heap.size w w5 := HO5.out.below (Nat.le_refl _) (fun i hi h => h)
    have HFIN := Lib.hid hfin
    clear hfin
    rcases E1.out with rfl | rfl <;> rcases E2.out with rfl | rfl
    · have h := ML.out.2 rfl rfl
      cases hk : (x.k != 1)
      all_goals
        rw [hk] at h
        cases cl <;> cases cm
        all_goals
          first
          | (exfalso; revert h; decide)
          | (clear h ML E1 E2
             go_wp2
             go_ret
             exact ⟨rfl, HFIN.out⟩)
    all_goals
      have h := ML.out.1 (by decide)
      cases cl <;> cases cm
      all_goals
        first
        | (exfalso; revert h; decide)
        | (clear h ML E1 E2
           go_wp2
           go_ret
           exact ⟨rfl, HFIN.out⟩)
end Go.Proofs.Ytgedinpafnfmmaa
