/- Hist: the reference's search. -/
import Derived.Test.YtgedinpafnfmmaaK
namespace Go.Proofs.Ytgedinpafnfmmaa
open Go.RowKit

open Classical in
noncomputable def serB (L : List Dd) (v : Int) : Bool := decide (Ser L v)
theorem serB_yes {L : List Dd} {v : Int} (h : Ser L v) : serB L v = true := by simp [serB, h]
theorem serB_no {L : List Dd} {v : Int} (h : ¬ Ser L v) : serB L v = false := by simp [serB, h]
theorem serB_iff {L : List Dd} {v : Int} : serB L v = true ↔ Ser L v := by simp [serB]
def nvl (lf : List Nat) : List Value := lf.map (fun p : Nat => Value.int .i64 (p : Int))
theorem nvl_one (lf : List Nat) : ∀ u ∈ nvl lf, u.oneCell' = true := by
  intro u hu
  obtain ⟨x, _, rfl⟩ := List.mem_map.1 hu
  rfl
theorem Rd.nvget {w : World} {g : Nat} {A : Option Addr} {l : List Nat} (h : Rd w g A (nvl l)) {i : Nat} (hi : i < l.length) : ∃ off, A = some ⟨g, off, none⟩ ∧ g < w.heap.size ∧ ∀ k (hk : k < l.length), w.cell? ⟨g, off + k, none⟩ = some (.int .i64 (l[k] : Nat)) := by
  obtain ⟨off, h1, h2, h3⟩ := h.at (by intro e; have : l = [] := (by simpa [nvl] using e); subst this; simp at hi)
  exact ⟨off, h1, h2, fun k hk => h3 k _ (by simp [nvl, hk])⟩
def sel (l : List Dd) (lf : List Nat) : List Dd := lf.map (gt l)
def ovB (l : List Dd) (lf : List Nat) (i : Nat) : Bool := (lf.take i).all (fun p => (gt l p).e == -1)
def fiB (l : List Dd) (lf : List Nat) (x : Dd) (k : Nat) : Bool := (lf.take k).all (fun q => !(gt l q).before x)
theorem ovB_succ (l : List Dd) (lf : List Nat) (i : Nat) (hi : i < lf.length) : ovB l lf (i + 1) = (ovB l lf i && ((gt l lf[i]).e == -1)) := by
  unfold ovB
  rw [List.take_succ_eq_append_getElem hi, List.all_append]; simp
theorem fiB_succ (l : List Dd) (lf : List Nat) (x : Dd) (i : Nat) (hi : i < lf.length) : fiB l lf x (i + 1) = (fiB l lf x i && !((gt l lf[i]).before x)) := by
  unfold fiB
  rw [List.take_succ_eq_append_getElem hi, List.all_append]; simp
theorem ovB_all {l : List Dd} {lf : List Nat} : ovB l lf lf.length = true ↔ ∀ x ∈ sel l lf, x.e = -1 := by
  unfold ovB sel
  rw [List.take_length, List.all_eq_true]
  simp
theorem fiB_all {l : List Dd} {lf : List Nat} {x : Dd} : fiB l lf x lf.length = true ↔ ∀ y ∈ sel l lf, y.before x = false := by
  unfold fiB sel
  rw [List.take_length, List.all_eq_true]
  simp
/-- One of them may come next. -/
def Stp (l : List Dd) (lf : List Nat) (v : Int) (j : Nat) (h : j < lf.length) : Prop :=
  fiB l lf (gt l lf[j]) lf.length = true ∧ ((gt l lf[j]).k = 2 ∨ (gt l lf[j]).v = v) ∧ Ser (sel l (lf.eraseIdx j)) (gt l lf[j]).v
theorem erase_perm : ∀ (lf : List Nat) (j : Nat) (h : j < lf.length), lf.Perm (lf[j] :: lf.eraseIdx j)
  | [], _, h => by simp at h
  | x :: t, 0, _ => by simp
  | x :: t, j + 1, h => by
    simp only [List.getElem_cons_succ, List.eraseIdx_cons_succ]
    exact ((erase_perm t j (by simpa using h)).cons x).trans (List.Perm.swap _ _ _)
theorem sel_perm (l : List Dd) (lf : List Nat) (j : Nat) (h : j < lf.length) : (sel l lf).Perm (gt l lf[j] :: sel l (lf.eraseIdx j)) := by
  unfold sel
  rw [← List.map_cons]
  exact (erase_perm lf j h).map _
theorem step_ser {l : List Dd} {lf : List Nat} {v : Int} {j : Nat} {h : j < lf.length} (s : Stp l lf v j h) : Ser (sel l lf) v := by
  obtain ⟨h1, h2, h3⟩ := s
  refine .step _ (sel_perm l lf j h) (fun y hy => ?_) h2 h3
  exact fiB_all.1 h1 y ((sel_perm l lf j h).mem_iff.2 (List.mem_cons_of_mem _ hy))
theorem ser_none {l : List Dd} (hm : mayAll l) {lf : List Nat} (hlf : ∀ p ∈ lf, p < l.length) {v : Int} (ho : ovB l lf lf.length = false) (hn : ∀ j (h : j < lf.length), ¬ Stp l lf v j h) : ¬ Ser (sel l lf) v := by
  intro hs
  cases hs with
  | done h => rw [ovB_all.2 h] at ho; cases ho
  | @step _ R _ x hp hB hk hr =>
    have hx : x ∈ sel l lf := hp.mem_iff.2 List.mem_cons_self
    obtain ⟨p, hpl, rfl⟩ := List.mem_map.1 hx
    obtain ⟨j, hj, rfl⟩ := List.getElem_of_mem hpl
    have hR : R.Perm (sel l (lf.eraseIdx j)) := (List.perm_cons _).1 (hp.symm.trans (sel_perm l lf j hj))
    refine hn j hj ⟨fiB_all.2 (fun y hy => ?_), hk, hr.perm hR⟩
    rcases List.mem_cons.1 (hp.mem_iff.1 hy) with rfl | hy
    · exact before_self (mayAll_gt hm (hlf _ (List.getElem_mem hj)))
    · exact hB y hy

theorem own_any_row {w : World} {base : Nat} {e : TypeId} {size n c : Nat} {A : Option Addr} {xs : List Value} (h : w.ownsRow base e size (.slice A n c) n xs) : c ≤ 9223372036854775807 ∧ ∃ g, Rd w g A xs := by
  have hc : c ≤ 9223372036854775807 := by
    rcases h.2 with ⟨he, _⟩ | ⟨g, cap, cur, he, _, _, _, hm, _⟩
    · simp at he; omega
    · injection he with _ _ h3; unfold maxLen at hm; omega
  refine ⟨hc, ?_⟩
  by_cases h0 : xs = []
  · exact ⟨0, .inl h0⟩
  · obtain ⟨g, _, hg⟩ := own_row h h0
    exact ⟨g, hg⟩
def OrdC (l : List Dd) (c : Nat) (A : Option Addr) (g : Nat) (lf : List Nat) (v : Int) : Prop :=
  ∀ (g2 c2 : Nat) (A2 : Option Addr) (w : World), lf.length ≤ c2 → c2 ≤ 9223372036854775807 → (∀ p ∈ lf, p < l.length) → Rd w g A (dv l) → Rd w g2 A2 (nvl lf) →
    Calls Try.prog 16 #[.slice A l.length c, .slice A2 lf.length c2, .int .i64 v] w fun e w' => e = .returned (.bool (serB (sel l lf) v)) ∧ Only (fun _ => False) w w'

set_option maxRecDepth 100000 in
set_option maxHeartbeats 16000000 in
theorem order_step (l : List Dd) (c : Nat) (A : Option Addr) (g : Nat) (hm : mayAll l) (hn : l.length ≤ 10) (lf : List Nat) (v : Int) (hlf10 : lf.length ≤ 10) (ih : ∀ lf' v', lf'.length < lf.length → OrdC l c A g lf' v') : OrdC l c A g lf v := by
  intro g2 c2 A2 w hc hc2 hlf hr hr2
  obtain ⟨ti, hi⟩ : ∃ i, Try.prog.info? 3 = some i := ⟨_, rfl⟩
  have hz0 : ti.zero = some (.int .i64 0) := by cases hi; rfl
  have hz1 : ti.size = 1 := by cases hi; rfl
  have hz2 : ti.bytes = 8 := by cases hi; rfl
  have HI := Lib.hid (And.intro hi (And.intro hz0 (And.intro hz1 hz2)))
  have HR := Lib.hid hr
  have HR2 := Lib.hid hr2
  have IH := Lib.hid ih
  have HM := Lib.hid hm
  have HLF := Lib.hid hlf
  clear hr hr2 hm hlf hi hz0 hz1 hz2 ih
  obtain ⟨n, hnn⟩ : ∃ n, lf.length = n := ⟨_, rfl⟩
  have HN := Lib.hid hnn
  rw [hnn] at hlf10 hc ⊢
  clear hnn
  go_enter Try.func16, Try.ntmps16
  go_wp2_with (fail)
  go_loop [7, 8] (fun v7 v8 => ∃ i : Nat, i ≤ n ∧ v8 = .int .i64 i ∧ v7 = .bool (ovB l lf i)) (fun _ v8 => (n - intOf v8).toNat)
  case atStart => exact ⟨0, by omega, rfl, rfl⟩
  case round =>
    obtain ⟨i, hi, rfl, rfl⟩ := hrel
    by_cases hin : i < n
    · have i0 : (0 : Int) ≤ i := by omega
      have i1 : (i : Int) < n := by omega
      have hil : i < lf.length := by rw [HN.out]; exact hin
      obtain ⟨off2, rfl, _, hc2⟩ := HR2.out.nvget hil
      have d0 := hc2 i hil
      have hpl : lf[i] < l.length := HLF.out _ (List.getElem_mem hil)
      obtain ⟨off, rfl, hlt, hdi⟩ := HR.out.dd hpl
      have e3 := hdi.c3
      have gi := gt_eq hpl
      rw [← gi] at e3
      have HS := Lib.hid (ovB_succ l lf i hil)
      clear hc2 hdi gi
      generalize lf[i] = p at *
      have p0 : (0 : Int) ≤ p := by omega
      have p1 : (p : Int) < l.length := by omega
      generalize gt l p = x at *
      by_cases he : x.e = -1
      · have t2 : (x.e != -1) = false := by simp [he]
        have HS' := Lib.hid (HS.out.trans (by simp [he] : _ = ovB l lf i))
        clear he HS
        go_wp2
        go_round
        case rel => exact ⟨i + 1, by omega, by simp, by rw [HS'.out]⟩
        case measure => simp [intOf]; omega
      · have t2 : (x.e != -1) = true := by simp [he]
        have HS' := Lib.hid (HS.out.trans (by simp [he] : _ = false))
        clear he HS
        go_wp2
        go_round
        case rel => exact ⟨i + 1, by omega, by simp, by rw [HS'.out]⟩
        case measure => simp [intOf]; omega
    · obtain rfl : i = n := by omega
      have i1 : ¬ (i : Int) < i := by omega
      cases hov : ovB l lf i
      rotate_left
      · have HE : Hid (serB (sel l lf) v = true) := Lib.hid (serB_yes (.done (ovB_all.1 (by rw [HN.out]; exact hov))))
        clear hov
        go_wp2
        go_ret
        exact ⟨ret_b HE.out.symm, Only.refl _ _⟩
      have HOV := Lib.hid hov
      clear hov hin hi
      obtain ⟨n, rfl⟩ : ∃ n, n = i := ⟨_, rfl⟩
      go_wp2_with (fail)
      go_loopw [9] (fun v9 wr => ∃ i : Nat, i ≤ n ∧ v9 = .int .i64 i ∧ Only (fun _ => False) w wr ∧ ∀ j (h : j < lf.length), j < i → ¬ Stp l lf v j h) (fun v9 wr => (n - intOf v9).toNat)
      case atStart => exact ⟨0, by omega, rfl, Only.refl _ _, fun j _ h => by omega⟩
      case round =>
        obtain ⟨i, hi, rfl, hO, hJ⟩ := hrel
        have HO := Lib.hid hO
        have HJ := Lib.hid hJ
        clear hO hJ
        by_cases hin : i < n
        · have i0 : (0 : Int) ≤ i := by omega
          have i1 : (i : Int) < n := by omega
          have hil : i < lf.length := by rw [HN.out]; exact hin
          obtain ⟨off2, rfl, hlt2, hcc⟩ := (HR2.out.only HO.out id).nvget hil
          have HCC := Lib.hid hcc
          have d0 := hcc i hil
          have hpl : lf[i] < l.length := HLF.out _ (List.getElem_mem hil)
          obtain ⟨off, rfl, hlt, hdi⟩ := (HR.out.only HO.out id).dd hpl
          obtain ⟨e0, e1, e2, e3⟩ := hdi
          have gi := gt_eq hpl
          rw [← gi] at e0 e1 e2 e3
          have HJN : Hid (¬ Stp l lf v i hil → ∀ j (h : j < lf.length), j < i + 1 → ¬ Stp l lf v j h) := Lib.hid (fun h0 j h hj => by
            rcases Nat.lt_succ_iff_lt_or_eq.1 hj with h' | rfl
            · exact HJ.out j h h'
            · exact h0)
          have HST : Hid (Stp l lf v i hil ↔ (fiB l lf (gt l lf[i]) n = true ∧ ((gt l lf[i]).k = 2 ∨ (gt l lf[i]).v = v) ∧ Ser (sel l (lf.eraseIdx i)) (gt l lf[i]).v)) := Lib.hid (by unfold Stp; rw [HN.out])
          have HMY : Hid ((gt l lf[i]).k = 1 ∨ (gt l lf[i]).k = 2) := Lib.hid (by have := mayAll_gt HM.out hpl; simp [Dd.may] at this; exact this.1.1.1)
          clear hcc gi HJ
          obtain ⟨p, hp⟩ : ∃ p, lf[i] = p := ⟨_, rfl⟩
          rw [hp] at d0 hpl e0 e1 e2 e3 HST HMY
          have p0 : (0 : Int) ≤ p := by omega
          have p1 : (p : Int) < l.length := by omega
          obtain ⟨x, hx⟩ : ∃ x, gt l p = x := ⟨_, rfl⟩
          rw [hx] at e0 e1 e2 e3 HST HMY
          clear hp hx
          go_wp2_with (fail)
          have HX := Lib.hid (At.new wr 30 #[.int .i64 x.k, .int .i64 x.v, .int .i64 x.b, .int .i64 x.e])
          have HOX := Lib.hid (HO.out.alloc (.cells #[.int .i64 x.k, .int .i64 x.v, .int .i64 x.b, .int .i64 x.e] 30))
          have hwb : w.heap.size ≤ wr.heap.size := HO.out.size
          clear e0 e1 e2 e3 d0
          obtain ⟨bx, hbx⟩ : ∃ b, wr.heap.size = b := ⟨_, rfl⟩
          rw [hbx] at HX hwb ⊢
          obtain ⟨wo, hwo⟩ : ∃ wo, wr.alloc (.cells #[.int .i64 x.k, .int .i64 x.v, .int .i64 x.b, .int .i64 x.e] 30) = wo := ⟨_, rfl⟩
          rw [hwo] at HX HOX ⊢
          have HOW0 : Hid (Only (fun _ => False) wr wo) := Lib.hid (by rw [← hwo]; exact (Only.refl _ _).alloc _)
          clear hwo hbx
          obtain ⟨wp, rfl⟩ : ∃ wp : World, wp = wr := ⟨_, rfl⟩
          go_loopw [11, 12] (fun v11 v12 wk => ∃ k : Nat, k ≤ n ∧ v12 = .int .i64 k ∧ v11 = .bool (fiB l lf x k) ∧ At wk bx 30 #[.int .i64 x.k, .int .i64 x.v, .int .i64 x.b, .int .i64 x.e] ∧ Only (fun _ => False) wp wk ∧ Only (fun _ => False) w wk) (fun _ v12 wk => (n - intOf v12).toNat)
          case atStart => exact ⟨0, by omega, rfl, rfl, HX.out, HOW0.out, HOX.out⟩
          case round =>
            obtain ⟨k, hk, rfl, rfl, hX, hOr, hO⟩ := hrel
            have HXk := Lib.hid hX
            have HOr := Lib.hid hOr
            have HOk := Lib.hid hO
            clear hX hOr hO HX HOX HOW0
            by_cases hkn : k < n
            · have k0 : (0 : Int) ≤ k := by omega
              have k1 : (k : Int) < n := by omega
              have hkl : k < lf.length := by rw [HN.out]; exact hkn
              have d0 : wr.cell? ⟨g2, off2 + k, none⟩ = some (.int .i64 (lf[k] : Nat)) := (HOr.out.cell (p := ⟨g2, off2 + k, none⟩) hlt2 id).trans (HCC.out k hkl)
              have hql : lf[k] < l.length := HLF.out _ (List.getElem_mem hkl)
              obtain ⟨off', he', _, hdk⟩ := ((HR.out.only HOk.out id)).dd hql
              obtain rfl : off' = off := by simpa using he'.symm
              obtain ⟨e0, e1, e2, e3⟩ := hdk
              have gk := gt_eq hql
              rw [← gk] at e0 e1 e2 e3
              have HS := Lib.hid (fiB_succ l lf x k hkl)
              clear gk he'
              generalize lf[k] = q at *
              have q0 : (0 : Int) ≤ q := by omega
              have q1 : (q : Int) < l.length := by omega
              generalize gt l q = y at *
              have x0 := HXk.out.cell 0
              have x1 := HXk.out.cell 1
              have x2 := HXk.out.cell 2
              have x3 := HXk.out.cell 3
              simp at x0 x1 x2 x3
              have HBF := Lib.hid (before_any y x wr.drew)
              unfold Dd.val at HBF
              go_wp2_with (fail)
              refine wp_region_held_drew (S := (fun W => (W.cell? ⟨g2, off2 + k, none⟩ = some (.int .i64 (q : Nat)) ∧ (W.cell? ⟨g, off' + q * 4, none⟩ = some (.int .i64 y.k) ∧ W.cell? ⟨g, off' + q * 4 + 1, none⟩ = some (.int .i64 y.v) ∧ W.cell? ⟨g, off' + q * 4 + 2, none⟩ = some (.int .i64 y.b) ∧ W.cell? ⟨g, off' + q * 4 + 3, none⟩ = some (.int .i64 y.e))) ∧ (W.cell? ⟨bx, 0, none⟩ = some (.int .i64 x.k) ∧ W.cell? ⟨bx, 1, none⟩ = some (.int .i64 x.v) ∧ W.cell? ⟨bx, 2, none⟩ = some (.int .i64 x.b) ∧ W.cell? ⟨bx, 3, none⟩ = some (.int .i64 x.e)))) (by kernel_rfl) ?_ (fun hHeld => ?_)
              · exact ⟨⟨d0, e0, e1, e2, e3⟩, x0, x1, x2, x3⟩
              refine wpAnyH_take (i := 0) (oi := { dst := some 50, op := Op.move (Operand.tmp 0), type := 22, pos := "ref.go:42", after := #[], guard := none }) (v := ?_) rfl (by kernel_rfl) (by kernel_rfl) (by kernel_rfl) (fun _ _ _ h => h) (Or.inl ⟨by rfl, ?_⟩) (by assumption) ?_
              rotate_left
              · (intro w hSw; (try dsimp only at hSw); (try obtain ⟨hSa, hSb⟩ := hSw); go_simp; try with_reducible rfl)
              try simp only [Act.put, List.setIfInBounds_toArray, List.set_cons_zero, List.set_cons_succ]
              refine wpAnyH_take (i := 1) (oi := { dst := some 51, op := Op.move (Operand.tmp 1), type := 28, pos := "ref.go:42", after := #[], guard := none }) (v := ?_) rfl (by kernel_rfl) (by kernel_rfl) (by kernel_rfl) (fun _ _ _ h => h) (Or.inl ⟨by rfl, ?_⟩) (by assumption) ?_
              rotate_left
              · (intro w hSw; (try dsimp only at hSw); (try obtain ⟨hSa, hSb⟩ := hSw); go_simp; try with_reducible rfl)
              try simp only [Act.put, List.setIfInBounds_toArray, List.set_cons_zero, List.set_cons_succ]
              refine wpAnyH_take (i := 2) (oi := { dst := some 52, op := Op.move (Operand.tmp 12), type := 3, pos := "ref.go:42", after := #[], guard := none }) (v := ?_) rfl (by kernel_rfl) (by kernel_rfl) (by kernel_rfl) (fun _ _ _ h => h) (Or.inl ⟨by rfl, ?_⟩) (by assumption) ?_
              rotate_left
              · (intro w hSw; (try dsimp only at hSw); (try obtain ⟨hSa, hSb⟩ := hSw); go_simp; try with_reducible rfl)
              try simp only [Act.put, List.setIfInBounds_toArray, List.set_cons_zero, List.set_cons_succ]
              refine wpAnyH_take (i := 3) (oi := { dst := some 53, op := Op.indexAddr 28 (Operand.tmp 51) (Operand.tmp 52), type := 0, pos := "ref.go:42", after := #[{ on := 1, ground := Ground.data }, { on := 2, ground := Ground.data }], guard := none }) (v := ?_) rfl (by kernel_rfl) (by kernel_rfl) (by kernel_rfl) (fun _ _ _ h => h) (Or.inl ⟨by rfl, ?_⟩) (by assumption) ?_
              rotate_left
              · (intro w hSw; (try dsimp only at hSw); (try obtain ⟨hSa, hSb⟩ := hSw); go_simp; try with_reducible rfl)
              try simp only [Act.put, List.setIfInBounds_toArray, List.set_cons_zero, List.set_cons_succ]
              refine wpAnyH_take (i := 4) (oi := { dst := some 54, op := Op.load 3 (Operand.tmp 53), type := 3, pos := "ref.go:42", after := #[{ on := 3, ground := Ground.data }], guard := none }) (v := ?_) rfl (by kernel_rfl) (by kernel_rfl) (by kernel_rfl) (fun _ _ _ h => h) (Or.inl ⟨by rfl, ?_⟩) (by assumption) ?_
              rotate_left
              · (intro w hSw; (try dsimp only at hSw); (try obtain ⟨hSa, hSb⟩ := hSw); go_simp; try with_reducible rfl)
              try simp only [Act.put, List.setIfInBounds_toArray, List.set_cons_zero, List.set_cons_succ]
              refine wpAnyH_take (i := 5) (oi := { dst := some 55, op := Op.indexAddr 22 (Operand.tmp 50) (Operand.tmp 54), type := 0, pos := "ref.go:42", after := #[{ on := 0, ground := Ground.data }, { on := 4, ground := Ground.data }], guard := none }) (v := ?_) rfl (by kernel_rfl) (by kernel_rfl) (by kernel_rfl) (fun _ _ _ h => h) (Or.inl ⟨by rfl, ?_⟩) (by assumption) ?_
              rotate_left
              · (intro w hSw; (try dsimp only at hSw); (try obtain ⟨hSa, hSb⟩ := hSw); go_simp; try with_reducible rfl)
              try simp only [Act.put, List.setIfInBounds_toArray, List.set_cons_zero, List.set_cons_succ]
              refine wpAnyH_take (i := 6) (oi := { dst := some 56, op := Op.load 30 (Operand.tmp 55), type := 30, pos := "ref.go:42", after := #[{ on := 5, ground := Ground.data }], guard := none }) (v := ?_) rfl (by kernel_rfl) (by kernel_rfl) (by kernel_rfl) (fun _ _ _ h => h) (Or.inl ⟨by rfl, ?_⟩) (by assumption) ?_
              rotate_left
              · (intro w hSw; (try dsimp only at hSw); (try obtain ⟨hSa, hSb⟩ := hSw); go_simp; try with_reducible rfl)
              try simp only [Act.put, List.setIfInBounds_toArray, List.set_cons_zero, List.set_cons_succ]
              refine wpAnyH_take (i := 7) (oi := { dst := some 57, op := Op.load 30 (Operand.tmp 10), type := 30, pos := "ref.go:42", after := #[], guard := none }) (v := ?_) rfl (by kernel_rfl) (by kernel_rfl) (by kernel_rfl) (fun _ _ _ h => h) (Or.inl ⟨by rfl, ?_⟩) (by assumption) ?_
              rotate_left
              · (intro w hSw; (try dsimp only at hSw); (try obtain ⟨hSa, hSb⟩ := hSw); go_simp; try with_reducible rfl)
              try simp only [Act.put, List.setIfInBounds_toArray, List.set_cons_zero, List.set_cons_succ]
              refine wpAnyH_ready (rs := [8]) (by kernel_rfl) (by simp) ?_
              refine AllReadyH.cons (o := { dst := some 58, op := Op.call { callee := Callee.value (Operand.func 19), args := #[Operand.tmp 56, Operand.tmp 57], argTypes := #[30, 30] }, type := 4, pos := "ref.go:42", after := #[{ on := 6, ground := Ground.data }, { on := 7, ground := Ground.data }], guard := none }) rfl (fun K hK => ?_) AllReadyH.nil
              go_simp
              refine HBF.out.mono ?_
              rintro e wb ⟨rfl, hOb⟩
              have HOb := Lib.hid (((Only.refl (fun _ => False) wr).drew).trans hOb)
              clear hOb
              dsimp only
              refine hK.out _ _ ?_ (fun hHeld => ?_)
              · exact ⟨⟨(HOb.out.cell (World.block_lt_of_cell? _ _ d0) id).trans d0, (HOb.out.cell (World.block_lt_of_cell? _ _ e0) id).trans e0, (HOb.out.cell (World.block_lt_of_cell? _ _ e1) id).trans e1, (HOb.out.cell (World.block_lt_of_cell? _ _ e2) id).trans e2, (HOb.out.cell (World.block_lt_of_cell? _ _ e3) id).trans e3⟩, (HOb.out.cell (World.block_lt_of_cell? _ _ x0) id).trans x0, (HOb.out.cell (World.block_lt_of_cell? _ _ x1) id).trans x1, (HOb.out.cell (World.block_lt_of_cell? _ _ x2) id).trans x2, (HOb.out.cell (World.block_lt_of_cell? _ _ x3) id).trans x3⟩
              clear hK K
              try simp only [Act.put, List.setIfInBounds_toArray, List.set_cons_zero, List.set_cons_succ]
              refine wpAnyH_done (by kernel_rfl) ?_ _
              all_goals
                have hXb := HXk.out.only HOb.out id
                have HXb := Lib.hid hXb
                have HOrb := Lib.hid (HOr.out.trans HOb.out)
                have HOkb := Lib.hid (HOk.out.trans HOb.out)
                clear hXb
                cases hb : y.before x
                · have HS' := Lib.hid (HS.out.trans (by simp [hb] : _ = fiB l lf x k))
                  clear hb HS hHeld
                  go_wp2
                  go_roundw
                  case rel => exact ⟨k + 1, by omega, by simp, by rw [HS'.out], HXb.out, HOrb.out, HOkb.out⟩
                  case measure => simp [intOf]; omega
                · have HS' := Lib.hid (HS.out.trans (by simp [hb] : _ = false))
                  clear hb HS hHeld
                  go_wp2
                  go_roundw
                  case rel => exact ⟨k + 1, by omega, by simp, by rw [HS'.out], HXb.out, HOrb.out, HOkb.out⟩
                  case measure => simp [intOf]; omega
            · obtain rfl : k = n := by omega
              have k1 : ¬ (k : Int) < k := by omega
              have x0 := HXk.out.cell 0
              have x1 := HXk.out.cell 1
              simp at x0 x1
              cases hfi : fiB l lf x k
              · have HNO := Lib.hid (HJN.out (fun h => by have := (HST.out.1 h).1; rw [hfi] at this; cases this))
                clear hfi HST HJN
                go_wp2
                go_roundw
                case rel => exact ⟨i + 1, by omega, by simp, HOk.out, HNO.out⟩
                case measure => simp [intOf]; omega
              · by_cases hbad : x.k = 1 ∧ x.v ≠ v
                · have t1 : (x.k == 1) = true := by simp [hbad.1]
                  have t2 : (x.v != v) = true := by simp [hbad.2]
                  have HNO := Lib.hid (HJN.out (fun h => by have := (HST.out.1 h).2.1; rw [hbad.1] at this; rcases this with h | h; (· cases h); (· exact hbad.2 h)))
                  clear hfi HST HJN hbad
                  go_wp2
                  go_roundw
                  case rel => exact ⟨i + 1, by omega, by simp, HOk.out, HNO.out⟩
                  case measure => simp [intOf]; omega
                · have hkv : x.k = 2 ∨ x.v = v := by
                    rcases HMY.out with h | h
                    · exact .inr (Decidable.byContradiction fun h' => hbad ⟨h, h'⟩)
                    · exact .inl h
                  have HST2 : Hid (Stp l lf v i hil ↔ Ser (sel l (lf.eraseIdx i)) x.v) := Lib.hid (by rw [HST.out]; simp [hfi, hkv])
                  have HEL : Hid ((lf.eraseIdx i).length = k - 1) := Lib.hid (by rw [List.length_eraseIdx, if_pos hil, HN.out])
                  have HES : Hid (nvl (lf.eraseIdx i) = nvl (lf.take i) ++ nvl (lf.drop (i + 1))) := Lib.hid (by rw [List.eraseIdx_eq_take_drop_succ]; simp [nvl])
                  have HD1 : Hid ((nvl (lf.take i)).length = i * 1) := Lib.hid (by simp [nvl, List.length_take]; rw [HN.out]; omega)
                  have HD2 : Hid ((nvl (lf.drop (i + 1))).length = (k - (i + 1)) * 1) := Lib.hid (by simp [nvl]; rw [HN.out])
                  have HHC : Hid (∀ {a b : Nat}, a = b → a = b) := Lib.hid id
                  have HIH := fun g2' c2' A2' w' => (IH.out (lf.eraseIdx i) x.v (by rw [HEL.out, HN.out]; omega)) g2' c2' A2' w'
                  have HIH := Lib.hid HIH
                  have HRT0 : Rd wr g2 (some ⟨g2, off2, none⟩) (nvl (lf.take i)) ∧ Rd wr g2 (some ⟨g2, off2 + (i + 1), none⟩) (nvl (lf.drop (i + 1))) := by
                    have hc : ∀ (j : Nat) (u : Value), (nvl lf)[j]? = some u → wr.cell? ⟨g2, off2 + j, none⟩ = some u := by
                      intro j u hu
                      have hj := (List.getElem?_eq_some_iff.1 hu).1
                      simp [nvl] at hj
                      have h1 := (HOr.out.cell (p := ⟨g2, off2 + j, none⟩) hlt2 id).trans (HCC.out j hj)
                      rw [h1, ← hu]; simp [nvl, hj]
                    have hg : g2 < wr.heap.size := Nat.lt_of_lt_of_le hlt2 HOr.out.size
                    refine ⟨.inr ⟨off2, rfl, hg, fun j u hu => hc j u ?_⟩, .inr ⟨off2 + (i + 1), rfl, hg, fun j u hu => ?_⟩⟩
                    · simp only [nvl, List.map_take, List.getElem?_take] at hu ⊢
                      split at hu
                      · exact hu
                      · cases hu
                    · have := hc (i + 1 + j) u (by simp only [nvl, List.map_drop, List.getElem?_drop] at hu ⊢; exact hu)
                      rwa [← Nat.add_assoc off2] at this
                  have HRT := Lib.hid HRT0
                  have hwr : w.heap.size ≤ wr.heap.size := HOk.out.size
                  have hg2k : g2 < wr.heap.size := Nat.lt_of_lt_of_le hlt2 HOr.out.size
                  have k3 : (i : Int) + 1 ≤ k := by omega
                  have k4 : (k : Int) ≤ c2 := by omega
                  have k5 : (i : Int) ≤ c2 := by omega
                  have k6 : (i : Int) + 1 ≤ c2 := by omega
                  have hkv' := Lib.hid hkv
                  have hx2 : x.k = 2 ∨ (x.k ≠ 2 ∧ x.v = v) := by
                    by_cases h : x.k = 2
                    · exact .inl h
                    · exact .inr ⟨h, hkv.resolve_left h⟩
                  have HX2 := Lib.hid hx2
                  have hnb : ((x.k == 1) = true ∧ (x.v != v) = false) ∨ (x.k == 1) = false := by
                    rcases HMY.out with h | h
                    · refine .inl ⟨by simp [h], ?_⟩
                      simp only [bne_eq_false_iff_eq]
                      exact hkv.resolve_left (by omega)
                    · exact .inr (by simp [h])
                  have HNB := Lib.hid hnb
                  have HMY2 := HMY
                  clear hbad hkv hx2 hnb hfi HST HMY HRT0 HXk
                  rcases HX2.out with hk2 | ⟨hk2, hxv⟩
                  · have t1 : (x.k == 1) = false := by simp [hk2]
                    have t3 : (x.k == 2) = true := by simp [hk2]
                    clear hk2 HX2 HNB
                    by_cases hcap : c2 = i + 1
                    · have HRT' : Hid (Rd wr g2 (some ⟨g2, off2, none⟩) (nvl (lf.take i)) ∧ Rd wr g2 (some ⟨g2, off2, none⟩) (nvl (lf.drop (i + 1)))) := Lib.hid ⟨HRT.out.1, .inl (by rw [List.drop_of_length_le (by rw [HN.out]; omega)]; rfl)⟩
                      clear HRT
                      have HRT := HRT'
                      clear HRT' HD2
                      have HD2 : Hid ((nvl (lf.drop (i + 1))).length = 0 * 1) := Lib.hid (by rw [List.drop_of_length_le (by rw [HN.out]; omega)]; rfl)
                      subst hcap
                      have k7 : (i : Int) ≤ (i : Int) + 1 := by omega
                      have k8 : (0 : Int) ≤ (i : Int) + 1 := by omega
                      have k9 : ((i : Int) + 1).toNat = i + 1 := by omega
                      have k10 : IntKind.i64.wrap ((i : Int) + 1) = (i : Int) + 1 := IntWalk.i64_in _ (by omega)
                      go_wp2_with (fail)
                      refine wp_region_held_drew (S := (fun _ => True)) (by kernel_rfl) ?_ (fun hHeld => ?_)
                      · trivial
                      refine wpAnyH_take (i := 1) (oi := { dst := some 79, op := Op.move (Operand.tmp 1), type := 28, pos := "ref.go:53", after := #[], guard := none }) (v := ?_) rfl (by kernel_rfl) (by kernel_rfl) (by kernel_rfl) (fun _ _ _ h => h) (Or.inl ⟨by rfl, ?_⟩) (by assumption) ?_
                      rotate_left
                      · (intro w hSw; (try dsimp only at hSw); (try obtain ⟨hSa, hSb⟩ := hSw); go_simp; try with_reducible rfl)
                      try simp only [Act.put, List.setIfInBounds_toArray, List.set_cons_zero, List.set_cons_succ]
                      refine wpAnyH_take (i := 2) (oi := { dst := some 80, op := Op.move (Operand.tmp 9), type := 3, pos := "ref.go:53", after := #[], guard := none }) (v := ?_) rfl (by kernel_rfl) (by kernel_rfl) (by kernel_rfl) (fun _ _ _ h => h) (Or.inl ⟨by rfl, ?_⟩) (by assumption) ?_
                      rotate_left
                      · (intro w hSw; (try dsimp only at hSw); (try obtain ⟨hSa, hSb⟩ := hSw); go_simp; try with_reducible rfl)
                      try simp only [Act.put, List.setIfInBounds_toArray, List.set_cons_zero, List.set_cons_succ]
                      refine wpAnyH_take (i := 3) (oi := { dst := some 81, op := Op.slice 28 (Operand.tmp 79) none (some (Operand.tmp 80)) none, type := 28, pos := "ref.go:53", after := #[{ on := 1, ground := Ground.data }, { on := 2, ground := Ground.data }], guard := none }) (v := ?_) rfl (by kernel_rfl) (by kernel_rfl) (by kernel_rfl) (fun _ _ _ h => h) (Or.inl ⟨by rfl, ?_⟩) (by assumption) ?_
                      rotate_left
                      · (intro w hSw; (try dsimp only at hSw); (try obtain ⟨hSa, hSb⟩ := hSw); go_simp; try with_reducible rfl)
                      try simp only [Act.put, List.setIfInBounds_toArray, List.set_cons_zero, List.set_cons_succ]
                      refine wpAnyH_take (i := 5) (oi := { dst := some 83, op := Op.move (Operand.tmp 1), type := 28, pos := "ref.go:53", after := #[], guard := none }) (v := ?_) rfl (by kernel_rfl) (by kernel_rfl) (by kernel_rfl) (fun _ _ _ h => h) (Or.inl ⟨by rfl, ?_⟩) (by assumption) ?_
                      rotate_left
                      · (intro w hSw; (try dsimp only at hSw); (try obtain ⟨hSa, hSb⟩ := hSw); go_simp; try with_reducible rfl)
                      try simp only [Act.put, List.setIfInBounds_toArray, List.set_cons_zero, List.set_cons_succ]
                      refine wpAnyH_take (i := 6) (oi := { dst := some 84, op := Op.move (Operand.tmp 9), type := 3, pos := "ref.go:53", after := #[], guard := none }) (v := ?_) rfl (by kernel_rfl) (by kernel_rfl) (by kernel_rfl) (fun _ _ _ h => h) (Or.inl ⟨by rfl, ?_⟩) (by assumption) ?_
                      rotate_left
                      · (intro w hSw; (try dsimp only at hSw); (try obtain ⟨hSa, hSb⟩ := hSw); go_simp; try with_reducible rfl)
                      try simp only [Act.put, List.setIfInBounds_toArray, List.set_cons_zero, List.set_cons_succ]
                      refine wpAnyH_take (i := 7) (oi := { dst := some 85, op := Op.binOp BinOp.add 3 (Operand.tmp 84) (Operand.const (Value.int IntKind.i64 1)) 3, type := 3, pos := "ref.go:53", after := #[{ on := 6, ground := Ground.data }], guard := none }) (v := ?_) rfl (by kernel_rfl) (by kernel_rfl) (by kernel_rfl) (fun _ _ _ h => h) (Or.inl ⟨by rfl, ?_⟩) (by assumption) ?_
                      rotate_left
                      · (intro w hSw; (try dsimp only at hSw); (try obtain ⟨hSa, hSb⟩ := hSw); go_simp; try with_reducible rfl)
                      try simp only [Act.put, List.setIfInBounds_toArray, List.set_cons_zero, List.set_cons_succ]
                      refine wpAnyH_take (i := 8) (oi := { dst := some 86, op := Op.slice 28 (Operand.tmp 83) (some (Operand.tmp 85)) none none, type := 28, pos := "ref.go:53", after := #[{ on := 5, ground := Ground.data }, { on := 7, ground := Ground.data }], guard := none }) (v := ?_) rfl (by kernel_rfl) (by kernel_rfl) (by kernel_rfl) (fun _ _ _ h => h) (Or.inl ⟨by rfl, ?_⟩) (by assumption) ?_
                      rotate_left
                      · (intro w hSw; (try dsimp only at hSw); (try obtain ⟨hSa, hSb⟩ := hSw); go_simp; try with_reducible rfl)
                      try simp only [Act.put, List.setIfInBounds_toArray, List.set_cons_zero, List.set_cons_succ]
                      refine wpAnyH_ready (rs := [0]) (by kernel_rfl) (by simp) ?_
                      refine AllReadyH.cons (o := { dst := some 78, op := Op.buildSlice 28 0 #[], type := 28, pos := "ref.go:53", after := #[], guard := none }) rfl (fun K hK => ?_) AllReadyH.nil
                      go_simp
                      skip
                      refine hK.out _ _ ?_ (fun hHeld => ?_)
                      · trivial
                      clear hK K
                      try simp only [Act.put, List.setIfInBounds_toArray, List.set_cons_zero, List.set_cons_succ]
                      refine wpAnyH_ready (rs := [4]) (by kernel_rfl) (by simp) ?_
                      refine AllReadyH.cons (o := { dst := some 82, op := Op.call { callee := Callee.builtin Builtin.append, args := #[Operand.tmp 78, Operand.tmp 81], argTypes := #[28, 28] }, type := 28, pos := "ref.go:53", after := #[{ on := 0, ground := Ground.data }, { on := 3, ground := Ground.data }], guard := none }) rfl (fun K hK => ?_) AllReadyH.nil
                      refine step_append_src rfl (.tmp 78) (.tmp 81) 28 rfl wr.heap.size 3 ti (.int .i64 0) 1 8 Try.underlying28 HI.out.1 HI.out.2.1 HI.out.2.2.1 HI.out.2.2.2 rfl (by decide) (.slice (some ⟨wr.heap.size, 0, none⟩) 0 0) 0 [] rfl (own_fresh (At.new' (by simp) 3 #[]) (by omega) 1).drew g2 (some ⟨g2, off2, none⟩) i (i + 1) (nvl (lf.take i)) rfl HD1.out ((HRT.out.1.only ((Only.refl (fun _ => False) wr).alloc (.cells #[] 3)) id).only (S := fun _ => False) ((Only.refl _ _).drew) id) (nvl_one _) (by unfold maxLen; omega) (by omega) (by simp) ?_
                      intro A1 c1 wa hc1 hown1 hg1
                      simp only [Nat.zero_add, List.nil_append] at hown1 hc1
                      simp only [Nat.zero_add]
                      have HOa := Lib.hid (((Only.refl (fun _ => False) wr).alloc (.cells #[] 3)).drew.append (own_fresh (At.new' (g := wr.heap.size) (w := wr) (by simp) 3 #[]) (Nat.le_refl _) 1).drew hg1 (fun i hi hb => by omega))
                      have HRa := Lib.hid (((HRT.out.2.only ((Only.refl (fun _ => False) wr).alloc (.cells #[] 3)) id).only (S := fun _ => False) ((Only.refl _ _).drew) id).grown hg1 (by intro _; simp [Value.ownBlock]; omega))
                      have HOW1 := Lib.hid hown1
                      have hsa : wr.heap.size ≤ wa.heap.size := by have := hg1.size; simp at this; omega
                      clear hown1 hg1
                      refine hK.out _ _ ?_ (fun hHeld => ?_)
                      · trivial
                      clear hK K
                      try simp only [Act.put, List.setIfInBounds_toArray, List.set_cons_zero, List.set_cons_succ]
                      refine wpAnyH_ready (rs := [9]) (by kernel_rfl) (by simp) ?_
                      refine AllReadyH.cons (o := { dst := some 87, op := Op.call { callee := Callee.builtin Builtin.append, args := #[Operand.tmp 82, Operand.tmp 86], argTypes := #[28, 28] }, type := 28, pos := "ref.go:53", after := #[{ on := 4, ground := Ground.data }, { on := 8, ground := Ground.data }, { on := 4, ground := Ground.chain }], guard := none }) rfl (fun K hK => ?_) AllReadyH.nil
                      refine step_append_src rfl (.tmp 82) (.tmp 86) 28 rfl wr.heap.size 3 ti (.int .i64 0) 1 8 Try.underlying28 HI.out.1 HI.out.2.1 HI.out.2.2.1 HI.out.2.2.2 rfl (by decide) (.slice A1 i c1) i (nvl (lf.take i)) rfl HOW1.out g2 (some ⟨g2, off2, none⟩) 0 _ (nvl (lf.drop (i + 1))) rfl HD2.out HRa.out (nvl_one _) (by unfold maxLen; omega) (by omega) hsa ?_
                      intro A3 c3 wb hc3 hown2 hg2
                      rw [show i + 0 = k - 1 from by omega] at hown2 hc3
                      simp only [show i + 0 = k - 1 from by omega]
                      have HOb := Lib.hid (HOa.out.append HOW1.out hg2 (fun i hi hb => by omega))
                      have HOW2 := Lib.hid hown2
                      clear hown2 hg2
                      refine hK.out _ _ ?_ (fun hHeld => ?_)
                      · trivial
                      clear hK K
                      try simp only [Act.put, List.setIfInBounds_toArray, List.set_cons_zero, List.set_cons_succ]
                      refine wpAnyH_take (i := 10) (oi := { dst := some 14, op := Op.assign (Operand.tmp 87), type := 28, pos := "ref.go:53", after := #[{ on := 9, ground := Ground.data }, { on := 9, ground := Ground.chain }, { on := 0, ground := Ground.phase }, { on := 1, ground := Ground.phase }, { on := 2, ground := Ground.phase }, { on := 3, ground := Ground.phase }, { on := 4, ground := Ground.phase }, { on := 5, ground := Ground.phase }, { on := 6, ground := Ground.phase }, { on := 7, ground := Ground.phase }, { on := 8, ground := Ground.phase }, { on := 9, ground := Ground.phase }], guard := none }) (v := ?_) rfl (by kernel_rfl) (by kernel_rfl) (by kernel_rfl) (fun _ _ _ h => h) (Or.inl ⟨by rfl, ?_⟩) (by assumption) ?_
                      rotate_left
                      · (intro w hSw; (try dsimp only at hSw); (try obtain ⟨hSa, hSb⟩ := hSw); go_simp; try with_reducible rfl)
                      try simp only [Act.put, List.setIfInBounds_toArray, List.set_cons_zero, List.set_cons_succ]
                      refine wpAnyH_done (by kernel_rfl) ?_ _
                      clear k7 k8 k9 k10
                      have hown2 := HOW2.out
                      rw [← HES.out] at hown2
                      obtain ⟨hc3', gF, hF⟩ := own_any_row hown2
                      have HOwb := Lib.hid (HOk.out.trans HOb.out)
                      have HC := Lib.hid (HIH.out gF c3 A3 wb (by rw [HEL.out]; omega) hc3' (fun p hp => HLF.out p (List.mem_of_mem_eraseIdx hp)) (HR.out.only HOwb.out id) hF)
                      rw [HEL.out] at HC
                      clear hown2 hF hHeld HOb HOW1 HOW2 HOa HRa
                      go_wp2_with (fail)
                      refine HC.out.mono ?_
                      rintro e wc ⟨rfl, hOc⟩
                      have HOc := Lib.hid (HOwb.out.trans hOc)
                      clear hOc HC HIH
                      cases hsb : serB (sel l (lf.eraseIdx i)) _
                      · have HNO := Lib.hid (HJN.out (fun h => by have := serB_yes (HST2.out.1 h); rw [hsb] at this; cases this))
                        clear hsb HST2 HJN
                        go_wp2
                        go_roundw
                        case rel => exact ⟨i + 1, by omega, by simp, HOc.out, HNO.out⟩
                        case measure => simp [intOf]; omega
                      · have HYES : Hid (serB (sel l lf) v = true) := Lib.hid (serB_yes (step_ser (HST2.out.2 (serB_iff.1 hsb))))
                        clear hsb HST2 HJN
                        go_wp2
                        go_ret
                        exact ⟨ret_b HYES.out.symm, HOc.out⟩
                    · have k7 : (i : Int) ≤ (i : Int) + 1 := by omega
                      have k8 : (0 : Int) ≤ (i : Int) + 1 := by omega
                      have k9 : ((i : Int) + 1).toNat = i + 1 := by omega
                      have k10 : IntKind.i64.wrap ((i : Int) + 1) = (i : Int) + 1 := IntWalk.i64_in _ (by omega)
                      go_wp2_with (fail)
                      refine wp_region_held_drew (S := (fun _ => True)) (by kernel_rfl) ?_ (fun hHeld => ?_)
                      · trivial
                      refine wpAnyH_take (i := 1) (oi := { dst := some 79, op := Op.move (Operand.tmp 1), type := 28, pos := "ref.go:53", after := #[], guard := none }) (v := ?_) rfl (by kernel_rfl) (by kernel_rfl) (by kernel_rfl) (fun _ _ _ h => h) (Or.inl ⟨by rfl, ?_⟩) (by assumption) ?_
                      rotate_left
                      · (intro w hSw; (try dsimp only at hSw); (try obtain ⟨hSa, hSb⟩ := hSw); go_simp; try with_reducible rfl)
                      try simp only [Act.put, List.setIfInBounds_toArray, List.set_cons_zero, List.set_cons_succ]
                      refine wpAnyH_take (i := 2) (oi := { dst := some 80, op := Op.move (Operand.tmp 9), type := 3, pos := "ref.go:53", after := #[], guard := none }) (v := ?_) rfl (by kernel_rfl) (by kernel_rfl) (by kernel_rfl) (fun _ _ _ h => h) (Or.inl ⟨by rfl, ?_⟩) (by assumption) ?_
                      rotate_left
                      · (intro w hSw; (try dsimp only at hSw); (try obtain ⟨hSa, hSb⟩ := hSw); go_simp; try with_reducible rfl)
                      try simp only [Act.put, List.setIfInBounds_toArray, List.set_cons_zero, List.set_cons_succ]
                      refine wpAnyH_take (i := 3) (oi := { dst := some 81, op := Op.slice 28 (Operand.tmp 79) none (some (Operand.tmp 80)) none, type := 28, pos := "ref.go:53", after := #[{ on := 1, ground := Ground.data }, { on := 2, ground := Ground.data }], guard := none }) (v := ?_) rfl (by kernel_rfl) (by kernel_rfl) (by kernel_rfl) (fun _ _ _ h => h) (Or.inl ⟨by rfl, ?_⟩) (by assumption) ?_
                      rotate_left
                      · (intro w hSw; (try dsimp only at hSw); (try obtain ⟨hSa, hSb⟩ := hSw); go_simp; try with_reducible rfl)
                      try simp only [Act.put, List.setIfInBounds_toArray, List.set_cons_zero, List.set_cons_succ]
                      refine wpAnyH_take (i := 5) (oi := { dst := some 83, op := Op.move (Operand.tmp 1), type := 28, pos := "ref.go:53", after := #[], guard := none }) (v := ?_) rfl (by kernel_rfl) (by kernel_rfl) (by kernel_rfl) (fun _ _ _ h => h) (Or.inl ⟨by rfl, ?_⟩) (by assumption) ?_
                      rotate_left
                      · (intro w hSw; (try dsimp only at hSw); (try obtain ⟨hSa, hSb⟩ := hSw); go_simp; try with_reducible rfl)
                      try simp only [Act.put, List.setIfInBounds_toArray, List.set_cons_zero, List.set_cons_succ]
                      refine wpAnyH_take (i := 6) (oi := { dst := some 84, op := Op.move (Operand.tmp 9), type := 3, pos := "ref.go:53", after := #[], guard := none }) (v := ?_) rfl (by kernel_rfl) (by kernel_rfl) (by kernel_rfl) (fun _ _ _ h => h) (Or.inl ⟨by rfl, ?_⟩) (by assumption) ?_
                      rotate_left
                      · (intro w hSw; (try dsimp only at hSw); (try obtain ⟨hSa, hSb⟩ := hSw); go_simp; try with_reducible rfl)
                      try simp only [Act.put, List.setIfInBounds_toArray, List.set_cons_zero, List.set_cons_succ]
                      refine wpAnyH_take (i := 7) (oi := { dst := some 85, op := Op.binOp BinOp.add 3 (Operand.tmp 84) (Operand.const (Value.int IntKind.i64 1)) 3, type := 3, pos := "ref.go:53", after := #[{ on := 6, ground := Ground.data }], guard := none }) (v := ?_) rfl (by kernel_rfl) (by kernel_rfl) (by kernel_rfl) (fun _ _ _ h => h) (Or.inl ⟨by rfl, ?_⟩) (by assumption) ?_
                      rotate_left
                      · (intro w hSw; (try dsimp only at hSw); (try obtain ⟨hSa, hSb⟩ := hSw); go_simp; try with_reducible rfl)
                      try simp only [Act.put, List.setIfInBounds_toArray, List.set_cons_zero, List.set_cons_succ]
                      refine wpAnyH_take (i := 8) (oi := { dst := some 86, op := Op.slice 28 (Operand.tmp 83) (some (Operand.tmp 85)) none none, type := 28, pos := "ref.go:53", after := #[{ on := 5, ground := Ground.data }, { on := 7, ground := Ground.data }], guard := none }) (v := ?_) rfl (by kernel_rfl) (by kernel_rfl) (by kernel_rfl) (fun _ _ _ h => h) (Or.inl ⟨by rfl, ?_⟩) (by assumption) ?_
                      rotate_left
                      · (intro w hSw; (try dsimp only at hSw); (try obtain ⟨hSa, hSb⟩ := hSw); go_simp; try with_reducible rfl)
                      try simp only [Act.put, List.setIfInBounds_toArray, List.set_cons_zero, List.set_cons_succ]
                      refine wpAnyH_ready (rs := [0]) (by kernel_rfl) (by simp) ?_
                      refine AllReadyH.cons (o := { dst := some 78, op := Op.buildSlice 28 0 #[], type := 28, pos := "ref.go:53", after := #[], guard := none }) rfl (fun K hK => ?_) AllReadyH.nil
                      go_simp
                      skip
                      refine hK.out _ _ ?_ (fun hHeld => ?_)
                      · trivial
                      clear hK K
                      try simp only [Act.put, List.setIfInBounds_toArray, List.set_cons_zero, List.set_cons_succ]
                      refine wpAnyH_ready (rs := [4]) (by kernel_rfl) (by simp) ?_
                      refine AllReadyH.cons (o := { dst := some 82, op := Op.call { callee := Callee.builtin Builtin.append, args := #[Operand.tmp 78, Operand.tmp 81], argTypes := #[28, 28] }, type := 28, pos := "ref.go:53", after := #[{ on := 0, ground := Ground.data }, { on := 3, ground := Ground.data }], guard := none }) rfl (fun K hK => ?_) AllReadyH.nil
                      refine step_append_src rfl (.tmp 78) (.tmp 81) 28 rfl wr.heap.size 3 ti (.int .i64 0) 1 8 Try.underlying28 HI.out.1 HI.out.2.1 HI.out.2.2.1 HI.out.2.2.2 rfl (by decide) (.slice (some ⟨wr.heap.size, 0, none⟩) 0 0) 0 [] rfl (own_fresh (At.new' (by simp) 3 #[]) (by omega) 1).drew g2 (some ⟨g2, off2, none⟩) i c2 (nvl (lf.take i)) rfl HD1.out ((HRT.out.1.only ((Only.refl (fun _ => False) wr).alloc (.cells #[] 3)) id).only (S := fun _ => False) ((Only.refl _ _).drew) id) (nvl_one _) (by unfold maxLen; omega) (by omega) (by simp) ?_
                      intro A1 c1 wa hc1 hown1 hg1
                      simp only [Nat.zero_add, List.nil_append] at hown1 hc1
                      simp only [Nat.zero_add]
                      have HOa := Lib.hid (((Only.refl (fun _ => False) wr).alloc (.cells #[] 3)).drew.append (own_fresh (At.new' (g := wr.heap.size) (w := wr) (by simp) 3 #[]) (Nat.le_refl _) 1).drew hg1 (fun i hi hb => by omega))
                      have HRa := Lib.hid (((HRT.out.2.only ((Only.refl (fun _ => False) wr).alloc (.cells #[] 3)) id).only (S := fun _ => False) ((Only.refl _ _).drew) id).grown hg1 (by intro _; simp [Value.ownBlock]; omega))
                      have HOW1 := Lib.hid hown1
                      have hsa : wr.heap.size ≤ wa.heap.size := by have := hg1.size; simp at this; omega
                      clear hown1 hg1
                      refine hK.out _ _ ?_ (fun hHeld => ?_)
                      · trivial
                      clear hK K
                      try simp only [Act.put, List.setIfInBounds_toArray, List.set_cons_zero, List.set_cons_succ]
                      refine wpAnyH_ready (rs := [9]) (by kernel_rfl) (by simp) ?_
                      refine AllReadyH.cons (o := { dst := some 87, op := Op.call { callee := Callee.builtin Builtin.append, args := #[Operand.tmp 82, Operand.tmp 86], argTypes := #[28, 28] }, type := 28, pos := "ref.go:53", after := #[{ on := 4, ground := Ground.data }, { on := 8, ground := Ground.data }, { on := 4, ground := Ground.chain }], guard := none }) rfl (fun K hK => ?_) AllReadyH.nil
                      refine step_append_src rfl (.tmp 82) (.tmp 86) 28 rfl wr.heap.size 3 ti (.int .i64 0) 1 8 Try.underlying28 HI.out.1 HI.out.2.1 HI.out.2.2.1 HI.out.2.2.2 rfl (by decide) (.slice A1 i c1) i (nvl (lf.take i)) rfl HOW1.out g2 (some ⟨g2, off2 + (i + 1), none⟩) (k - (i + 1)) _ (nvl (lf.drop (i + 1))) rfl HD2.out HRa.out (nvl_one _) (by unfold maxLen; omega) (by omega) hsa ?_
                      intro A3 c3 wb hc3 hown2 hg2
                      rw [show i + (k - (i + 1)) = k - 1 from by omega] at hown2 hc3
                      simp only [show i + (k - (i + 1)) = k - 1 from by omega]
                      have HOb := Lib.hid (HOa.out.append HOW1.out hg2 (fun i hi hb => by omega))
                      have HOW2 := Lib.hid hown2
                      clear hown2 hg2
                      refine hK.out _ _ ?_ (fun hHeld => ?_)
                      · trivial
                      clear hK K
                      try simp only [Act.put, List.setIfInBounds_toArray, List.set_cons_zero, List.set_cons_succ]
                      refine wpAnyH_take (i := 10) (oi := { dst := some 14, op := Op.assign (Operand.tmp 87), type := 28, pos := "ref.go:53", after := #[{ on := 9, ground := Ground.data }, { on := 9, ground := Ground.chain }, { on := 0, ground := Ground.phase }, { on := 1, ground := Ground.phase }, { on := 2, ground := Ground.phase }, { on := 3, ground := Ground.phase }, { on := 4, ground := Ground.phase }, { on := 5, ground := Ground.phase }, { on := 6, ground := Ground.phase }, { on := 7, ground := Ground.phase }, { on := 8, ground := Ground.phase }, { on := 9, ground := Ground.phase }], guard := none }) (v := ?_) rfl (by kernel_rfl) (by kernel_rfl) (by kernel_rfl) (fun _ _ _ h => h) (Or.inl ⟨by rfl, ?_⟩) (by assumption) ?_
                      rotate_left
                      · (intro w hSw; (try dsimp only at hSw); (try obtain ⟨hSa, hSb⟩ := hSw); go_simp; try with_reducible rfl)
                      try simp only [Act.put, List.setIfInBounds_toArray, List.set_cons_zero, List.set_cons_succ]
                      refine wpAnyH_done (by kernel_rfl) ?_ _
                      clear k7 k8 k9 k10
                      have hown2 := HOW2.out
                      rw [← HES.out] at hown2
                      obtain ⟨hc3', gF, hF⟩ := own_any_row hown2
                      have HOwb := Lib.hid (HOk.out.trans HOb.out)
                      have HC := Lib.hid (HIH.out gF c3 A3 wb (by rw [HEL.out]; omega) hc3' (fun p hp => HLF.out p (List.mem_of_mem_eraseIdx hp)) (HR.out.only HOwb.out id) hF)
                      rw [HEL.out] at HC
                      clear hown2 hF hHeld HOb HOW1 HOW2 HOa HRa
                      go_wp2_with (fail)
                      refine HC.out.mono ?_
                      rintro e wc ⟨rfl, hOc⟩
                      have HOc := Lib.hid (HOwb.out.trans hOc)
                      clear hOc HC HIH
                      cases hsb : serB (sel l (lf.eraseIdx i)) _
                      · have HNO := Lib.hid (HJN.out (fun h => by have := serB_yes (HST2.out.1 h); rw [hsb] at this; cases this))
                        clear hsb HST2 HJN
                        go_wp2
                        go_roundw
                        case rel => exact ⟨i + 1, by omega, by simp, HOc.out, HNO.out⟩
                        case measure => simp [intOf]; omega
                      · have HYES : Hid (serB (sel l lf) v = true) := Lib.hid (serB_yes (step_ser (HST2.out.2 (serB_iff.1 hsb))))
                        clear hsb HST2 HJN
                        go_wp2
                        go_ret
                        exact ⟨ret_b HYES.out.symm, HOc.out⟩
                  · have t1 : (x.k == 1) = true := by rcases HNB.out with h | h; (· exact h.1); (· exfalso; exact hk2 (by rcases HMY2.out with h' | h'; (· rw [h'] at h; cases h); (· exact h')))
                    have t2 : (x.v != v) = false := by simp [hxv]
                    have t3 : (x.k == 2) = false := by simp [hk2]
                    rw [hxv] at HIH HST2
                    clear hk2 HX2 HNB hxv
                    by_cases hcap : c2 = i + 1
                    · have HRT' : Hid (Rd wr g2 (some ⟨g2, off2, none⟩) (nvl (lf.take i)) ∧ Rd wr g2 (some ⟨g2, off2, none⟩) (nvl (lf.drop (i + 1)))) := Lib.hid ⟨HRT.out.1, .inl (by rw [List.drop_of_length_le (by rw [HN.out]; omega)]; rfl)⟩
                      clear HRT
                      have HRT := HRT'
                      clear HRT' HD2
                      have HD2 : Hid ((nvl (lf.drop (i + 1))).length = 0 * 1) := Lib.hid (by rw [List.drop_of_length_le (by rw [HN.out]; omega)]; rfl)
                      subst hcap
                      have k7 : (i : Int) ≤ (i : Int) + 1 := by omega
                      have k8 : (0 : Int) ≤ (i : Int) + 1 := by omega
                      have k9 : ((i : Int) + 1).toNat = i + 1 := by omega
                      have k10 : IntKind.i64.wrap ((i : Int) + 1) = (i : Int) + 1 := IntWalk.i64_in _ (by omega)
                      go_wp2_with (fail)
                      refine wp_region_held_drew (S := (fun _ => True)) (by kernel_rfl) ?_ (fun hHeld => ?_)
                      · trivial
                      refine wpAnyH_take (i := 1) (oi := { dst := some 79, op := Op.move (Operand.tmp 1), type := 28, pos := "ref.go:53", after := #[], guard := none }) (v := ?_) rfl (by kernel_rfl) (by kernel_rfl) (by kernel_rfl) (fun _ _ _ h => h) (Or.inl ⟨by rfl, ?_⟩) (by assumption) ?_
                      rotate_left
                      · (intro w hSw; (try dsimp only at hSw); (try obtain ⟨hSa, hSb⟩ := hSw); go_simp; try with_reducible rfl)
                      try simp only [Act.put, List.setIfInBounds_toArray, List.set_cons_zero, List.set_cons_succ]
                      refine wpAnyH_take (i := 2) (oi := { dst := some 80, op := Op.move (Operand.tmp 9), type := 3, pos := "ref.go:53", after := #[], guard := none }) (v := ?_) rfl (by kernel_rfl) (by kernel_rfl) (by kernel_rfl) (fun _ _ _ h => h) (Or.inl ⟨by rfl, ?_⟩) (by assumption) ?_
                      rotate_left
                      · (intro w hSw; (try dsimp only at hSw); (try obtain ⟨hSa, hSb⟩ := hSw); go_simp; try with_reducible rfl)
                      try simp only [Act.put, List.setIfInBounds_toArray, List.set_cons_zero, List.set_cons_succ]
                      refine wpAnyH_take (i := 3) (oi := { dst := some 81, op := Op.slice 28 (Operand.tmp 79) none (some (Operand.tmp 80)) none, type := 28, pos := "ref.go:53", after := #[{ on := 1, ground := Ground.data }, { on := 2, ground := Ground.data }], guard := none }) (v := ?_) rfl (by kernel_rfl) (by kernel_rfl) (by kernel_rfl) (fun _ _ _ h => h) (Or.inl ⟨by rfl, ?_⟩) (by assumption) ?_
                      rotate_left
                      · (intro w hSw; (try dsimp only at hSw); (try obtain ⟨hSa, hSb⟩ := hSw); go_simp; try with_reducible rfl)
                      try simp only [Act.put, List.setIfInBounds_toArray, List.set_cons_zero, List.set_cons_succ]
                      refine wpAnyH_take (i := 5) (oi := { dst := some 83, op := Op.move (Operand.tmp 1), type := 28, pos := "ref.go:53", after := #[], guard := none }) (v := ?_) rfl (by kernel_rfl) (by kernel_rfl) (by kernel_rfl) (fun _ _ _ h => h) (Or.inl ⟨by rfl, ?_⟩) (by assumption) ?_
                      rotate_left
                      · (intro w hSw; (try dsimp only at hSw); (try obtain ⟨hSa, hSb⟩ := hSw); go_simp; try with_reducible rfl)
                      try simp only [Act.put, List.setIfInBounds_toArray, List.set_cons_zero, List.set_cons_succ]
                      refine wpAnyH_take (i := 6) (oi := { dst := some 84, op := Op.move (Operand.tmp 9), type := 3, pos := "ref.go:53", after := #[], guard := none }) (v := ?_) rfl (by kernel_rfl) (by kernel_rfl) (by kernel_rfl) (fun _ _ _ h => h) (Or.inl ⟨by rfl, ?_⟩) (by assumption) ?_
                      rotate_left
                      · (intro w hSw; (try dsimp only at hSw); (try obtain ⟨hSa, hSb⟩ := hSw); go_simp; try with_reducible rfl)
                      try simp only [Act.put, List.setIfInBounds_toArray, List.set_cons_zero, List.set_cons_succ]
                      refine wpAnyH_take (i := 7) (oi := { dst := some 85, op := Op.binOp BinOp.add 3 (Operand.tmp 84) (Operand.const (Value.int IntKind.i64 1)) 3, type := 3, pos := "ref.go:53", after := #[{ on := 6, ground := Ground.data }], guard := none }) (v := ?_) rfl (by kernel_rfl) (by kernel_rfl) (by kernel_rfl) (fun _ _ _ h => h) (Or.inl ⟨by rfl, ?_⟩) (by assumption) ?_
                      rotate_left
                      · (intro w hSw; (try dsimp only at hSw); (try obtain ⟨hSa, hSb⟩ := hSw); go_simp; try with_reducible rfl)
                      try simp only [Act.put, List.setIfInBounds_toArray, List.set_cons_zero, List.set_cons_succ]
                      refine wpAnyH_take (i := 8) (oi := { dst := some 86, op := Op.slice 28 (Operand.tmp 83) (some (Operand.tmp 85)) none none, type := 28, pos := "ref.go:53", after := #[{ on := 5, ground := Ground.data }, { on := 7, ground := Ground.data }], guard := none }) (v := ?_) rfl (by kernel_rfl) (by kernel_rfl) (by kernel_rfl) (fun _ _ _ h => h) (Or.inl ⟨by rfl, ?_⟩) (by assumption) ?_
                      rotate_left
                      · (intro w hSw; (try dsimp only at hSw); (try obtain ⟨hSa, hSb⟩ := hSw); go_simp; try with_reducible rfl)
                      try simp only [Act.put, List.setIfInBounds_toArray, List.set_cons_zero, List.set_cons_succ]
                      refine wpAnyH_ready (rs := [0]) (by kernel_rfl) (by simp) ?_
                      refine AllReadyH.cons (o := { dst := some 78, op := Op.buildSlice 28 0 #[], type := 28, pos := "ref.go:53", after := #[], guard := none }) rfl (fun K hK => ?_) AllReadyH.nil
                      go_simp
                      skip
                      refine hK.out _ _ ?_ (fun hHeld => ?_)
                      · trivial
                      clear hK K
                      try simp only [Act.put, List.setIfInBounds_toArray, List.set_cons_zero, List.set_cons_succ]
                      refine wpAnyH_ready (rs := [4]) (by kernel_rfl) (by simp) ?_
                      refine AllReadyH.cons (o := { dst := some 82, op := Op.call { callee := Callee.builtin Builtin.append, args := #[Operand.tmp 78, Operand.tmp 81], argTypes := #[28, 28] }, type := 28, pos := "ref.go:53", after := #[{ on := 0, ground := Ground.data }, { on := 3, ground := Ground.data }], guard := none }) rfl (fun K hK => ?_) AllReadyH.nil
                      refine step_append_src rfl (.tmp 78) (.tmp 81) 28 rfl wr.heap.size 3 ti (.int .i64 0) 1 8 Try.underlying28 HI.out.1 HI.out.2.1 HI.out.2.2.1 HI.out.2.2.2 rfl (by decide) (.slice (some ⟨wr.heap.size, 0, none⟩) 0 0) 0 [] rfl (own_fresh (At.new' (by simp) 3 #[]) (by omega) 1).drew g2 (some ⟨g2, off2, none⟩) i (i + 1) (nvl (lf.take i)) rfl HD1.out ((HRT.out.1.only ((Only.refl (fun _ => False) wr).alloc (.cells #[] 3)) id).only (S := fun _ => False) ((Only.refl _ _).drew) id) (nvl_one _) (by unfold maxLen; omega) (by omega) (by simp) ?_
                      intro A1 c1 wa hc1 hown1 hg1
                      simp only [Nat.zero_add, List.nil_append] at hown1 hc1
                      simp only [Nat.zero_add]
                      have HOa := Lib.hid (((Only.refl (fun _ => False) wr).alloc (.cells #[] 3)).drew.append (own_fresh (At.new' (g := wr.heap.size) (w := wr) (by simp) 3 #[]) (Nat.le_refl _) 1).drew hg1 (fun i hi hb => by omega))
                      have HRa := Lib.hid (((HRT.out.2.only ((Only.refl (fun _ => False) wr).alloc (.cells #[] 3)) id).only (S := fun _ => False) ((Only.refl _ _).drew) id).grown hg1 (by intro _; simp [Value.ownBlock]; omega))
                      have HOW1 := Lib.hid hown1
                      have hsa : wr.heap.size ≤ wa.heap.size := by have := hg1.size; simp at this; omega
                      clear hown1 hg1
                      refine hK.out _ _ ?_ (fun hHeld => ?_)
                      · trivial
                      clear hK K
                      try simp only [Act.put, List.setIfInBounds_toArray, List.set_cons_zero, List.set_cons_succ]
                      refine wpAnyH_ready (rs := [9]) (by kernel_rfl) (by simp) ?_
                      refine AllReadyH.cons (o := { dst := some 87, op := Op.call { callee := Callee.builtin Builtin.append, args := #[Operand.tmp 82, Operand.tmp 86], argTypes := #[28, 28] }, type := 28, pos := "ref.go:53", after := #[{ on := 4, ground := Ground.data }, { on := 8, ground := Ground.data }, { on := 4, ground := Ground.chain }], guard := none }) rfl (fun K hK => ?_) AllReadyH.nil
                      refine step_append_src rfl (.tmp 82) (.tmp 86) 28 rfl wr.heap.size 3 ti (.int .i64 0) 1 8 Try.underlying28 HI.out.1 HI.out.2.1 HI.out.2.2.1 HI.out.2.2.2 rfl (by decide) (.slice A1 i c1) i (nvl (lf.take i)) rfl HOW1.out g2 (some ⟨g2, off2, none⟩) 0 _ (nvl (lf.drop (i + 1))) rfl HD2.out HRa.out (nvl_one _) (by unfold maxLen; omega) (by omega) hsa ?_
                      intro A3 c3 wb hc3 hown2 hg2
                      rw [show i + 0 = k - 1 from by omega] at hown2 hc3
                      simp only [show i + 0 = k - 1 from by omega]
                      have HOb := Lib.hid (HOa.out.append HOW1.out hg2 (fun i hi hb => by omega))
                      have HOW2 := Lib.hid hown2
                      clear hown2 hg2
                      refine hK.out _ _ ?_ (fun hHeld => ?_)
                      · trivial
                      clear hK K
                      try simp only [Act.put, List.setIfInBounds_toArray, List.set_cons_zero, List.set_cons_succ]
                      refine wpAnyH_take (i := 10) (oi := { dst := some 14, op := Op.assign (Operand.tmp 87), type := 28, pos := "ref.go:53", after := #[{ on := 9, ground := Ground.data }, { on := 9, ground := Ground.chain }, { on := 0, ground := Ground.phase }, { on := 1, ground := Ground.phase }, { on := 2, ground := Ground.phase }, { on := 3, ground := Ground.phase }, { on := 4, ground := Ground.phase }, { on := 5, ground := Ground.phase }, { on := 6, ground := Ground.phase }, { on := 7, ground := Ground.phase }, { on := 8, ground := Ground.phase }, { on := 9, ground := Ground.phase }], guard := none }) (v := ?_) rfl (by kernel_rfl) (by kernel_rfl) (by kernel_rfl) (fun _ _ _ h => h) (Or.inl ⟨by rfl, ?_⟩) (by assumption) ?_
                      rotate_left
                      · (intro w hSw; (try dsimp only at hSw); (try obtain ⟨hSa, hSb⟩ := hSw); go_simp; try with_reducible rfl)
                      try simp only [Act.put, List.setIfInBounds_toArray, List.set_cons_zero, List.set_cons_succ]
                      refine wpAnyH_done (by kernel_rfl) ?_ _
                      clear k7 k8 k9 k10
                      have hown2 := HOW2.out
                      rw [← HES.out] at hown2
                      obtain ⟨hc3', gF, hF⟩ := own_any_row hown2
                      have HOwb := Lib.hid (HOk.out.trans HOb.out)
                      have HC := Lib.hid (HIH.out gF c3 A3 wb (by rw [HEL.out]; omega) hc3' (fun p hp => HLF.out p (List.mem_of_mem_eraseIdx hp)) (HR.out.only HOwb.out id) hF)
                      rw [HEL.out] at HC
                      clear hown2 hF hHeld HOb HOW1 HOW2 HOa HRa
                      go_wp2_with (fail)
                      refine HC.out.mono ?_
                      rintro e wc ⟨rfl, hOc⟩
                      have HOc := Lib.hid (HOwb.out.trans hOc)
                      clear hOc HC HIH
                      cases hsb : serB (sel l (lf.eraseIdx i)) _
                      · have HNO := Lib.hid (HJN.out (fun h => by have := serB_yes (HST2.out.1 h); rw [hsb] at this; cases this))
                        clear hsb HST2 HJN
                        go_wp2
                        go_roundw
                        case rel => exact ⟨i + 1, by omega, by simp, HOc.out, HNO.out⟩
                        case measure => simp [intOf]; omega
                      · have HYES : Hid (serB (sel l lf) v = true) := Lib.hid (serB_yes (step_ser (HST2.out.2 (serB_iff.1 hsb))))
                        clear hsb HST2 HJN
                        go_wp2
                        go_ret
                        exact ⟨ret_b HYES.out.symm, HOc.out⟩
                    · have k7 : (i : Int) ≤ (i : Int) + 1 := by omega
                      have k8 : (0 : Int) ≤ (i : Int) + 1 := by omega
                      have k9 : ((i : Int) + 1).toNat = i + 1 := by omega
                      have k10 : IntKind.i64.wrap ((i : Int) + 1) = (i : Int) + 1 := IntWalk.i64_in _ (by omega)
                      go_wp2_with (fail)
                      refine wp_region_held_drew (S := (fun _ => True)) (by kernel_rfl) ?_ (fun hHeld => ?_)
                      · trivial
                      refine wpAnyH_take (i := 1) (oi := { dst := some 79, op := Op.move (Operand.tmp 1), type := 28, pos := "ref.go:53", after := #[], guard := none }) (v := ?_) rfl (by kernel_rfl) (by kernel_rfl) (by kernel_rfl) (fun _ _ _ h => h) (Or.inl ⟨by rfl, ?_⟩) (by assumption) ?_
                      rotate_left
                      · (intro w hSw; (try dsimp only at hSw); (try obtain ⟨hSa, hSb⟩ := hSw); go_simp; try with_reducible rfl)
                      try simp only [Act.put, List.setIfInBounds_toArray, List.set_cons_zero, List.set_cons_succ]
                      refine wpAnyH_take (i := 2) (oi := { dst := some 80, op := Op.move (Operand.tmp 9), type := 3, pos := "ref.go:53", after := #[], guard := none }) (v := ?_) rfl (by kernel_rfl) (by kernel_rfl) (by kernel_rfl) (fun _ _ _ h => h) (Or.inl ⟨by rfl, ?_⟩) (by assumption) ?_
                      rotate_left
                      · (intro w hSw; (try dsimp only at hSw); (try obtain ⟨hSa, hSb⟩ := hSw); go_simp; try with_reducible rfl)
                      try simp only [Act.put, List.setIfInBounds_toArray, List.set_cons_zero, List.set_cons_succ]
                      refine wpAnyH_take (i := 3) (oi := { dst := some 81, op := Op.slice 28 (Operand.tmp 79) none (some (Operand.tmp 80)) none, type := 28, pos := "ref.go:53", after := #[{ on := 1, ground := Ground.data }, { on := 2, ground := Ground.data }], guard := none }) (v := ?_) rfl (by kernel_rfl) (by kernel_rfl) (by kernel_rfl) (fun _ _ _ h => h) (Or.inl ⟨by rfl, ?_⟩) (by assumption) ?_
                      rotate_left
                      · (intro w hSw; (try dsimp only at hSw); (try obtain ⟨hSa, hSb⟩ := hSw); go_simp; try with_reducible rfl)
                      try simp only [Act.put, List.setIfInBounds_toArray, List.set_cons_zero, List.set_cons_succ]
                      refine wpAnyH_take (i := 5) (oi := { dst := some 83, op := Op.move (Operand.tmp 1), type := 28, pos := "ref.go:53", after := #[], guard := none }) (v := ?_) rfl (by kernel_rfl) (by kernel_rfl) (by kernel_rfl) (fun _ _ _ h => h) (Or.inl ⟨by rfl, ?_⟩) (by assumption) ?_
                      rotate_left
                      · (intro w hSw; (try dsimp only at hSw); (try obtain ⟨hSa, hSb⟩ := hSw); go_simp; try with_reducible rfl)
                      try simp only [Act.put, List.setIfInBounds_toArray, List.set_cons_zero, List.set_cons_succ]
                      refine wpAnyH_take (i := 6) (oi := { dst := some 84, op := Op.move (Operand.tmp 9), type := 3, pos := "ref.go:53", after := #[], guard := none }) (v := ?_) rfl (by kernel_rfl) (by kernel_rfl) (by kernel_rfl) (fun _ _ _ h => h) (Or.inl ⟨by rfl, ?_⟩) (by assumption) ?_
                      rotate_left
                      · (intro w hSw; (try dsimp only at hSw); (try obtain ⟨hSa, hSb⟩ := hSw); go_simp; try with_reducible rfl)
                      try simp only [Act.put, List.setIfInBounds_toArray, List.set_cons_zero, List.set_cons_succ]
                      refine wpAnyH_take (i := 7) (oi := { dst := some 85, op := Op.binOp BinOp.add 3 (Operand.tmp 84) (Operand.const (Value.int IntKind.i64 1)) 3, type := 3, pos := "ref.go:53", after := #[{ on := 6, ground := Ground.data }], guard := none }) (v := ?_) rfl (by kernel_rfl) (by kernel_rfl) (by kernel_rfl) (fun _ _ _ h => h) (Or.inl ⟨by rfl, ?_⟩) (by assumption) ?_
                      rotate_left
                      · (intro w hSw; (try dsimp only at hSw); (try obtain ⟨hSa, hSb⟩ := hSw); go_simp; try with_reducible rfl)
                      try simp only [Act.put, List.setIfInBounds_toArray, List.set_cons_zero, List.set_cons_succ]
                      refine wpAnyH_take (i := 8) (oi := { dst := some 86, op := Op.slice 28 (Operand.tmp 83) (some (Operand.tmp 85)) none none, type := 28, pos := "ref.go:53", after := #[{ on := 5, ground := Ground.data }, { on := 7, ground := Ground.data }], guard := none }) (v := ?_) rfl (by kernel_rfl) (by kernel_rfl) (by kernel_rfl) (fun _ _ _ h => h) (Or.inl ⟨by rfl, ?_⟩) (by assumption) ?_
                      rotate_left
                      · (intro w hSw; (try dsimp only at hSw); (try obtain ⟨hSa, hSb⟩ := hSw); go_simp; try with_reducible rfl)
                      try simp only [Act.put, List.setIfInBounds_toArray, List.set_cons_zero, List.set_cons_succ]
                      refine wpAnyH_ready (rs := [0]) (by kernel_rfl) (by simp) ?_
                      refine AllReadyH.cons (o := { dst := some 78, op := Op.buildSlice 28 0 #[], type := 28, pos := "ref.go:53", after := #[], guard := none }) rfl (fun K hK => ?_) AllReadyH.nil
                      go_simp
                      skip
                      refine hK.out _ _ ?_ (fun hHeld => ?_)
                      · trivial
                      clear hK K
                      try simp only [Act.put, List.setIfInBounds_toArray, List.set_cons_zero, List.set_cons_succ]
                      refine wpAnyH_ready (rs := [4]) (by kernel_rfl) (by simp) ?_
                      refine AllReadyH.cons (o := { dst := some 82, op := Op.call { callee := Callee.builtin Builtin.append, args := #[Operand.tmp 78, Operand.tmp 81], argTypes := #[28, 28] }, type := 28, pos := "ref.go:53", after := #[{ on := 0, ground := Ground.data }, { on := 3, ground := Ground.data }], guard := none }) rfl (fun K hK => ?_) AllReadyH.nil
                      refine step_append_src rfl (.tmp 78) (.tmp 81) 28 rfl wr.heap.size 3 ti (.int .i64 0) 1 8 Try.underlying28 HI.out.1 HI.out.2.1 HI.out.2.2.1 HI.out.2.2.2 rfl (by decide) (.slice (some ⟨wr.heap.size, 0, none⟩) 0 0) 0 [] rfl (own_fresh (At.new' (by simp) 3 #[]) (by omega) 1).drew g2 (some ⟨g2, off2, none⟩) i c2 (nvl (lf.take i)) rfl HD1.out ((HRT.out.1.only ((Only.refl (fun _ => False) wr).alloc (.cells #[] 3)) id).only (S := fun _ => False) ((Only.refl _ _).drew) id) (nvl_one _) (by unfold maxLen; omega) (by omega) (by simp) ?_
                      intro A1 c1 wa hc1 hown1 hg1
                      simp only [Nat.zero_add, List.nil_append] at hown1 hc1
                      simp only [Nat.zero_add]
                      have HOa := Lib.hid (((Only.refl (fun _ => False) wr).alloc (.cells #[] 3)).drew.append (own_fresh (At.new' (g := wr.heap.size) (w := wr) (by simp) 3 #[]) (Nat.le_refl _) 1).drew hg1 (fun i hi hb => by omega))
                      have HRa := Lib.hid (((HRT.out.2.only ((Only.refl (fun _ => False) wr).alloc (.cells #[] 3)) id).only (S := fun _ => False) ((Only.refl _ _).drew) id).grown hg1 (by intro _; simp [Value.ownBlock]; omega))
                      have HOW1 := Lib.hid hown1
                      have hsa : wr.heap.size ≤ wa.heap.size := by have := hg1.size; simp at this; omega
                      clear hown1 hg1
                      refine hK.out _ _ ?_ (fun hHeld => ?_)
                      · trivial
                      clear hK K
                      try simp only [Act.put, List.setIfInBounds_toArray, List.set_cons_zero, List.set_cons_succ]
                      refine wpAnyH_ready (rs := [9]) (by kernel_rfl) (by simp) ?_
                      refine AllReadyH.cons (o := { dst := some 87, op := Op.call { callee := Callee.builtin Builtin.append, args := #[Operand.tmp 82, Operand.tmp 86], argTypes := #[28, 28] }, type := 28, pos := "ref.go:53", after := #[{ on := 4, ground := Ground.data }, { on := 8, ground := Ground.data }, { on := 4, ground := Ground.chain }], guard := none }) rfl (fun K hK => ?_) AllReadyH.nil
                      refine step_append_src rfl (.tmp 82) (.tmp 86) 28 rfl wr.heap.size 3 ti (.int .i64 0) 1 8 Try.underlying28 HI.out.1 HI.out.2.1 HI.out.2.2.1 HI.out.2.2.2 rfl (by decide) (.slice A1 i c1) i (nvl (lf.take i)) rfl HOW1.out g2 (some ⟨g2, off2 + (i + 1), none⟩) (k - (i + 1)) _ (nvl (lf.drop (i + 1))) rfl HD2.out HRa.out (nvl_one _) (by unfold maxLen; omega) (by omega) hsa ?_
                      intro A3 c3 wb hc3 hown2 hg2
                      rw [show i + (k - (i + 1)) = k - 1 from by omega] at hown2 hc3
                      simp only [show i + (k - (i + 1)) = k - 1 from by omega]
                      have HOb := Lib.hid (HOa.out.append HOW1.out hg2 (fun i hi hb => by omega))
                      have HOW2 := Lib.hid hown2
                      clear hown2 hg2
                      refine hK.out _ _ ?_ (fun hHeld => ?_)
                      · trivial
                      clear hK K
                      try simp only [Act.put, List.setIfInBounds_toArray, List.set_cons_zero, List.set_cons_succ]
                      refine wpAnyH_take (i := 10) (oi := { dst := some 14, op := Op.assign (Operand.tmp 87), type := 28, pos := "ref.go:53", after := #[{ on := 9, ground := Ground.data }, { on := 9, ground := Ground.chain }, { on := 0, ground := Ground.phase }, { on := 1, ground := Ground.phase }, { on := 2, ground := Ground.phase }, { on := 3, ground := Ground.phase }, { on := 4, ground := Ground.phase }, { on := 5, ground := Ground.phase }, { on := 6, ground := Ground.phase }, { on := 7, ground := Ground.phase }, { on := 8, ground := Ground.phase }, { on := 9, ground := Ground.phase }], guard := none }) (v := ?_) rfl (by kernel_rfl) (by kernel_rfl) (by kernel_rfl) (fun _ _ _ h => h) (Or.inl ⟨by rfl, ?_⟩) (by assumption) ?_
                      rotate_left
                      · (intro w hSw; (try dsimp only at hSw); (try obtain ⟨hSa, hSb⟩ := hSw); go_simp; try with_reducible rfl)
                      try simp only [Act.put, List.setIfInBounds_toArray, List.set_cons_zero, List.set_cons_succ]
                      refine wpAnyH_done (by kernel_rfl) ?_ _
                      clear k7 k8 k9 k10
                      have hown2 := HOW2.out
                      rw [← HES.out] at hown2
                      obtain ⟨hc3', gF, hF⟩ := own_any_row hown2
                      have HOwb := Lib.hid (HOk.out.trans HOb.out)
                      have HC := Lib.hid (HIH.out gF c3 A3 wb (by rw [HEL.out]; omega) hc3' (fun p hp => HLF.out p (List.mem_of_mem_eraseIdx hp)) (HR.out.only HOwb.out id) hF)
                      rw [HEL.out] at HC
                      clear hown2 hF hHeld HOb HOW1 HOW2 HOa HRa
                      go_wp2_with (fail)
                      refine HC.out.mono ?_
                      rintro e wc ⟨rfl, hOc⟩
                      have HOc := Lib.hid (HOwb.out.trans hOc)
                      clear hOc HC HIH
                      cases hsb : serB (sel l (lf.eraseIdx i)) _
                      · have HNO := Lib.hid (HJN.out (fun h => by have := serB_yes (HST2.out.1 h); rw [hsb] at this; cases this))
                        clear hsb HST2 HJN
                        go_wp2
                        go_roundw
                        case rel => exact ⟨i + 1, by omega, by simp, HOc.out, HNO.out⟩
                        case measure => simp [intOf]; omega
                      · have HYES : Hid (serB (sel l lf) v = true) := Lib.hid (serB_yes (step_ser (HST2.out.2 (serB_iff.1 hsb))))
                        clear hsb HST2 HJN
                        go_wp2
                        go_ret
                        exact ⟨ret_b HYES.out.symm, HOc.out⟩
        · obtain rfl : i = n := by omega
          have i1 : ¬ (i : Int) < i := by omega
          have HE : Hid (serB (sel l lf) v = false) := Lib.hid (serB_no (ser_none HM.out HLF.out (by rw [HN.out]; exact HOV.out) (fun j h => HJ.out j h (by rw [HN.out] at h; exact h))))
          go_wp2
          go_ret
          exact ⟨ret_b HE.out.symm, HO.out⟩
end Go.Proofs.Ytgedinpafnfmmaa
