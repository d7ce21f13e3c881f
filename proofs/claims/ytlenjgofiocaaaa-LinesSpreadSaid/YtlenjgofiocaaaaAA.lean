/- Lines: LinesLeast walked. -/
import Derived.Test.YtlenjgofiocaaaaZ
namespace Go.Proofs.Ytlenjgofiocaaaa
open Go.RowKit

section
variable {l : List Ln}
theorem bst_least : ∀ n, n ≤ l.length → (∀ y, bst (flt l 0 n) = some y → y.1.1 < n ∧ ∀ (k : Nat) (h : k < l.length), k < n → (l[k]).s = 0 → y.1.2.w ≤ (l[k]).w ∧ ((l[k]).w = y.1.2.w → y.1.1 ≤ k)) ∧
    (bst (flt l 0 n) = none → ∀ (k : Nat) (h : k < l.length), k < n → (l[k]).s ≠ 0)
  | 0, _ => ⟨fun y h => by simp [flt, bst] at h, fun _ k _ h => by omega⟩
  | n + 1, hn => by
    have ih := bst_least n (by omega)
    have hx : l[n]? = some l[n] := List.getElem?_eq_getElem (by omega)
    by_cases hs : (l[n]).s = 0
    · rw [flt_yes hx hs, bst_snoc]
      cases hb : bst (flt l 0 n) with
      | none =>
        refine ⟨fun y h => ?_, fun h => by simp [bstep] at h⟩
        simp [bstep] at h
        subst h
        refine ⟨by simp, fun k hk hkn hks => ?_⟩
        have hno := ih.2 hb
        rcases Nat.lt_or_ge k n with h | h
        · exact absurd hks (hno k hk h)
        · obtain rfl : k = n := by omega
          exact ⟨Int.le_refl _, fun _ => Nat.le_refl _⟩
      | some z =>
        obtain ⟨hz, hz2⟩ := ih.1 z hb
        refine ⟨fun y h => ?_, fun h => by simp only [bstep] at h; split at h <;> cases h⟩
        simp only [bstep] at h
        split at h
        · rename_i hlt
          simp at h
          subst h
          refine ⟨by simp, fun k hk hkn hks => ?_⟩
          simp only
          rcases Nat.lt_or_ge k n with h | h
          · have := (hz2 k hk h hks).1
            exact ⟨by omega, fun e => by omega⟩
          · obtain rfl : k = n := by omega
            exact ⟨Int.le_refl _, fun _ => Nat.le_refl _⟩
        · rename_i hlt
          simp at h
          subst h
          refine ⟨by omega, fun k hk hkn hks => ?_⟩
          rcases Nat.lt_or_ge k n with h | h
          · exact hz2 k hk h hks
          · obtain rfl : k = n := by omega
            exact ⟨by omega, fun e => by omega⟩
    · rw [flt_no hx hs]
      refine ⟨fun y h => ?_, fun h k hk hkn => ?_⟩
      · obtain ⟨hz, hz2⟩ := ih.1 y h
        refine ⟨by omega, fun k hk hkn hks => ?_⟩
        rcases Nat.lt_or_ge k n with h | h
        · exact hz2 k hk h hks
        · obtain rfl : k = n := by omega
          exact absurd hks hs
      · rcases Nat.lt_or_ge k n with h' | h'
        · exact ih.2 h k hk h'
        · obtain rfl : k = n := by omega
          exact hs

def Least (l : List Ln) (j : Nat) : Prop := ∃ h : j < l.length, (l[j]).s = 0 ∧ ∀ (k : Nat) (h' : k < l.length), (l[k]).s = 0 → (l[j]).w ≤ (l[k]).w ∧ ((l[k]).w = (l[j]).w → j ≤ k)
variable {b off c gb : Nat} {G : Ge} {op : Int}
theorem open_least (hI : Inv l op) (w : World) (k : LAt w b G l off c gb op) :
    Calls Try.prog 15 #[.pointer (some ⟨b, 0, none⟩)] w fun e w' => ∃ n er : Int, e = .returned (.tuple #[.int .i64 n, .int .i64 er]) ∧ Done b off c gb G l w w' ∧ (er = 0 → ∃ j : Nat, n = j ∧ Least l j) := by
  by_cases hop : 0 ≤ op
  · exact (open_busy b off c gb G l op w k hop).mono fun e w' h => ⟨_, _, h.1, Done.same hI (k.quiet h.2) h.2 (fun _ h => h.elim), fun e => by cases e⟩
  · refine (open_any b off c gb G l op w k (by omega)).mono fun e w' h => ?_
    cases hb : bst (flt l 0 l.length) with
    | none => rw [hb] at h; exact ⟨_, _, h.1, Done.same hI (k.quiet h.2) h.2 (fun _ h => h.elim), fun e => by cases e⟩
    | some y =>
      rw [hb] at h
      obtain ⟨he, hk, ho⟩ := h
      obtain ⟨hi, hx⟩ := List.getElem?_eq_some_iff.1 y.2
      have hs : y.1.2.s = 0 := bst_in y (bst_mem hb)
      have hf := hI.f _ (List.getElem_mem hi)
      have hl := (bst_least l.length (Nat.le_refl _)).1 y hb
      rw [hx] at hf
      have hop' : op = -1 := by
        rcases hI.b with h | ⟨j, _, h⟩ <;> omega
      refine ⟨_, _, he, Done.set hI hi hk (hI.set hi ⟨hf.g, hf.w, .inr (.inl rfl), fun _ => (show (1 : Int) ≠ 0 by decide)⟩ (by simp) (fun j hj => by constructor <;> intro h <;> omega) (.inr ⟨y.1.1, hi, rfl⟩)) (by rw [hx]; exact Int.le_refl _) ho (fun _ h => h),
        fun _ => ⟨y.1.1, rfl, hi, by rw [hx]; exact hs, fun k hk hks => ?_⟩⟩
      have := hl.2 k hk hk hks
      rw [hx]
      exact this
end

def wc5 (G : Ge) (x : Ln) : List Value := [.int .i64 x.s, .int .i64 x.w, .int .i64 x.g, .int .i64 0, .int .i64 (rm G x.g)]
def wcs (G : Ge) (l : List Ln) : Nat → List Value
  | 0 => []
  | k + 1 => wcs G l k ++ wc5 G (l.getD k ⟨0, 0, 0⟩)
theorem wcs_len (G : Ge) (l : List Ln) : ∀ k, (wcs G l k).length = k * 5
  | 0 => rfl
  | k + 1 => by simp [wcs, wcs_len G l k, wc5]; omega
theorem wcs_get (G : Ge) (l : List Ln) (j : Nat) (hj : j < 5) (i : Nat) : ∀ k, i < k → (wcs G l k)[i * 5 + j]? = (wc5 G (l.getD i ⟨0, 0, 0⟩))[j]?
  | 0, h => by omega
  | k + 1, h => by
    have hl := wcs_len G l k
    by_cases e : i < k
    · simp only [wcs]
      rw [List.getElem?_append_left (by omega)]
      exact wcs_get G l j hj i k e
    · obtain rfl : i = k := by omega
      simp only [wcs]
      rw [List.getElem?_append_right (by omega), hl]
      congr 1
      omega
/-- The two cells of a told line that are looked at. -/
theorem wrow_cells {w : World} {A : Option Addr} {n c g : Nat} {G : Ge} {l : List Ln} {nb : Nat} (h : RowAt w A n c g 43 5 (wcs G l nb)) {i : Nat} (hi : i < nb) (hl : i < l.length) :
    ∃ off, A = some ⟨g, off, none⟩ ∧ w.cell? ⟨g, off + i * 5, none⟩ = some (.int .i64 (l[i]).s) ∧ w.cell? ⟨g, off + i * 5 + 1, none⟩ = some (.int .i64 (l[i]).w) := by
  have hx : l.getD i ⟨0, 0, 0⟩ = l[i] := by simp [List.getD, hl]
  have hlen := wcs_len G l nb
  obtain ⟨off, rfl, _, hr⟩ := h.rd.at (fun e => by rw [e] at hlen; simp at hlen; omega)
  refine ⟨off, rfl, ?_, ?_⟩
  · have := hr (i * 5 + 0) (.int .i64 (l[i]).s) (by rw [wcs_get G l 0 (by omega) i nb hi, hx]; rfl)
    exact this
  · have := hr (i * 5 + 1) (.int .i64 (l[i]).w) (by rw [wcs_get G l 1 (by omega) i nb hi, hx]; rfl)
    rw [Nat.add_assoc]
    exact this

set_option maxRecDepth 100000 in
set_option maxHeartbeats 16000000 in
theorem linesLeast_walk (G : Ge) (hw : G.Wf) (good wear : List Int) (Ag Aw : Option Addr) (cg cw gg gw : Nat) (go co : Nat) (Ao : Option Addr) (ops : List Opr) (w : World) (hg : Rd w gg Ag (iv good)) (hwr : Rd w gw Aw (iv wear)) (hro : Rd w go Ao (ocs ops)) :
    Calls Try.prog 4 #[G.val, .agg #[.slice Ag good.length cg, .slice Aw wear.length cw], .slice Ao ops.length co] w fun e w' => e = .returned (.bool true) ∧ Below w.heap.size w w' := by
  have o1 := (Only.refl (fun _ => False) w).alloc (.cells #[.int .i64 G.c, .int .i64 G.l, .int .i64 G.b, .int .i64 G.p, .int .i64 G.s] 23)
  have n1 := At.new w 23 #[.int .i64 G.c, .int .i64 G.l, .int .i64 G.b, .int .i64 G.p, .int .i64 G.s]
  have hs1 : (w.alloc (.cells #[.int .i64 G.c, .int .i64 G.l, .int .i64 G.b, .int .i64 G.p, .int .i64 G.s] 23)).heap.size = w.heap.size + 1 := by simp
  have HO0 := Lib.hid (o1.alloc (.cells #[.slice Ag good.length cg, .slice Aw wear.length cw] 36))
  have HN0 := Lib.hid (n1.alloc (.cells #[.slice Ag good.length cg, .slice Aw wear.length cw] 36))
  have m1 := At.new (w.alloc (.cells #[.int .i64 G.c, .int .i64 G.l, .int .i64 G.b, .int .i64 G.p, .int .i64 G.s] 23)) 36 #[.slice Ag good.length cg, .slice Aw wear.length cw]
  rw [hs1] at m1
  have HM0 := Lib.hid m1
  have HNEW : Hid (∀ W, Only (fun _ => False) w W → Calls Try.prog 10 #[G.val, .slice Ag good.length cg, .slice Aw wear.length cw] W (NewP G good wear W)) :=
    Lib.hid (fun W o => new_any G hw good wear Ag Aw cg cw gg gw W (hg.only o id) (hwr.only o id))
  have HR := Lib.hid hro
  clear o1 n1 hs1 m1 hg hwr hw hro
  obtain ⟨N, hN⟩ : ∃ N, ops.length = N := ⟨_, rfl⟩
  have HL := Lib.hid hN
  unfold Ge.val at HNEW ⊢
  rw [hN]
  clear hN
  go_enter Try.func4, Try.ntmps4
  go_wp2_with (fail)
  refine (awake_any _).mono ?_
  rintro e w1 ⟨rfl, hO⟩
  have HO1 := Lib.hid (HO0.out.trans hO)
  have a1 := HN0.out.only hO id
  have s1 := HM0.out.only hO id
  have g0 := a1.cell 0
  have g1 := a1.cell 1
  have g2 := a1.cell 2
  have g3 := a1.cell 3
  have g4 := a1.cell 4
  have q0 := s1.cell 0
  have q1 := s1.cell 1
  simp only [List.getElem?_toArray, List.getElem?_cons_zero, List.getElem?_cons_succ] at g0 g1 g2 g3 g4 q0 q1
  have HN1 := Lib.hid a1
  clear hO a1 s1 HN0 HM0 HO0
  go_wp2_with (fail)
  refine (HNEW.out w1 HO1.out).mono ?_
  rintro e w2 (⟨hok, b, off, c, gb, rfl, k, hb1, hb2, hO⟩ | ⟨hno, rfl, hO⟩)
  case inr =>
    have HO2 := Lib.hid (HO1.out.trans hO)
    clear hno hO HO1 HN1
    go_wp2
    go_ret
    exact ⟨rfl, HO2.out.below (Nat.le_refl _) (fun _ _ => id)⟩
  obtain ⟨hG, hgo, hwo, hso⟩ := newOk_g hok
  have hinv := Inv.new hok
  have hlb := newL_len good wear good.length
  have hbl := hok.2.1
  obtain ⟨l0, hl⟩ : ∃ l, newL good wear good.length = l := ⟨_, rfl⟩
  rw [hl] at k hinv hlb
  obtain ⟨nb, hnb⟩ : ∃ nb, l0.length = nb := ⟨_, rfl⟩
  have hgb : G.b = (nb : Int) := by omega
  have hnb64 : 1 ≤ nb ∧ nb ≤ 64 := by have := k.len; omega
  have HO2 := Lib.hid (HO1.out.trans hO)
  have HN2 := Lib.hid (HN1.out.only hO id)
  have hlb1 : w.heap.size < b ∧ w.heap.size < gb := by have := HN1.out.lt; omega
  have HGB := Lib.hid hlb1
  have HK := Lib.hid k
  have HI := Lib.hid hinv
  have HG := Lib.hid hG
  have HNB := Lib.hid hnb
  have HGBE := Lib.hid hgb
  clear hok hb1 hb2 k hgo hwo hso hl HO1 HN1 HNEW g0 g1 g2 g3 g4 q0 q1 hinv hlb hbl hnb hgb hO hG
  obtain ⟨i0t, hi⟩ : ∃ i, Try.prog.info? 43 = some i := ⟨_, rfl⟩
  have hz0 : i0t.zero = some (.agg #[.int .i64 0, .int .i64 0, .int .i64 0, .int .i64 0, .int .i64 0]) := by cases hi; rfl
  have hz1 : i0t.size = 5 := by cases hi; rfl
  have hz2 : i0t.bytes = 40 := by cases hi; rfl
  have HIT := Lib.hid (And.intro hi (And.intro hz0 (And.intro hz1 hz2)))
  clear hi hz0 hz1 hz2
  go_wp2_with (fail)
  go_loopw [10, 11, 12, 13, 14, 15, 16, 17, 18, 63, 152, 156, 161] (fun v10 v11 v12 v13 v14 v15 v16 v17 v18 v63 v152 v156 v161 wr => ∃ (i : Nat) (l : List Ln) (op : Int), i ≤ N ∧ i ≤ 100 ∧ v10 = .int .i64 i ∧ LAt wr b G l off c gb op ∧ Inv l op ∧ l.length = nb ∧
      At wr w.heap.size 23 #[.int .i64 G.c, .int .i64 G.l, .int .i64 G.b, .int .i64 G.p, .int .i64 G.s] ∧ Only (fun _ => False) w wr) (fun v10 _ _ _ _ _ _ _ _ _ _ _ _ wr => (N - intOf v10).toNat)
  case atStart => exact ⟨0, l0, -1, by omega, by omega, rfl, HK.out, HI.out, HNB.out, HN2.out, HO2.out⟩
  case round =>
    obtain ⟨i, l, op, hi, hi100, rfl, hk, hI, hln, hbox, hO⟩ := hrel
    have HK := Lib.hid hk
    have HI := Lib.hid hI
    have HLN := Lib.hid hln
    have HBX := Lib.hid hbox
    have HO := Lib.hid hO
    clear hk hI hln hbox hO HO2 HN2
    by_cases hin : i < N
    case neg =>
      obtain rfl : i = N := by omega
      have i1 : decide ((i : Int) < i) = false := by simp
      go_wp2
      go_ret
      exact ⟨rfl, HO.out.below (Nat.le_refl _) (fun _ _ => id)⟩
    have i0 : (0 : Int) ≤ i := by omega
    have i1 : (i : Int) < N := by omega
    by_cases h100 : i < 100
    case neg =>
      have i2 : decide ((i : Int) < 100) = false := by simp; omega
      go_wp2
      go_ret
      exact ⟨rfl, HO.out.below (Nat.le_refl _) (fun _ _ => id)⟩
    have i2 : (i : Int) < 100 := by omega
    obtain ⟨offo, rfl, c0, c1, c2⟩ := op_cells HR.out HO.out (show i < ops.length by rw [HL.out]; exact hin)
    generalize ops[i]'(by rw [HL.out]; exact hin) = o at *
    obtain ⟨od, on, own⟩ := o
    simp only at c0 c1 c2
    have HCU := Lib.hid (current_any b off c gb G l op wr HK.out)
    go_upto_if 55 with (fail)
    go_cut [11] (fun v11 wy => (∃ nn : Int, v11 = .int .i64 nn) ∧ wy = wr)
    case first =>
      cases own
      · go_wp2_with (fail)
        go_meet
        exact ⟨⟨_, rfl⟩, rfl⟩
      · go_wp2_with (fail)
        refine HCU.out.mono ?_
        rintro e w4 ⟨rfl, rfl⟩
        go_wp2_with (fail)
        go_meet
        exact ⟨⟨_, rfl⟩, rfl⟩
    case rest =>
      obtain ⟨⟨nn, rfl⟩, rfl⟩ := hcut
      clear HCU c1 c2
      by_cases hput : od = 0 ∨ od = 1
      case neg =>
        have n0 : (od == 0) = false := beq_false_of_ne (fun h => hput (.inl h))
        have n1 : (od == 1) = false := beq_false_of_ne (fun h => hput (.inr h))
        clear hput
        by_cases h2 : od = 2
        case pos =>
          subst h2
          clear n0 n1
          have HD := Lib.hid (close_done HI.out wc HK.out)
          go_wp2_with (fail)
          refine HD.out.mono ?_
          rintro e w4 ⟨⟨v, rfl⟩, hD⟩
          obtain ⟨l', op', hk, hI', hln', _, hO'⟩ := hD.h
          have HFIN := Lib.hid (And.intro hk (And.intro hI' (And.intro (hln'.trans HLN.out) (And.intro (HBX.out.only hO' (by have := HGB.out; omega)) (HO.out.trans' hO' (fun j hj h => by have := HGB.out; have h : j = b ∨ j = gb := h; omega) : Only (fun _ => False) w w4)))))
          clear hk hI' hln' hO' hD HD
          go_wp2
          go_roundw
          case rel => exact ⟨i + 1, l', op', by omega, by omega, by simp, HFIN.out.1, HFIN.out.2.1, HFIN.out.2.2.1, HFIN.out.2.2.2.1, HFIN.out.2.2.2.2⟩
          case measure => simp [intOf]; omega
        have n2 : (od == 2) = false := beq_false_of_ne h2
        clear h2
        by_cases h3 : od = 3
        case pos =>
          subst h3
          clear n0 n1 n2
          have HD := Lib.hid (release_done HI.out nn wc HK.out)
          go_wp2_with (fail)
          refine HD.out.mono ?_
          rintro e w4 ⟨⟨v, rfl⟩, hD⟩
          obtain ⟨l', op', hk, hI', hln', _, hO'⟩ := hD.h
          have HFIN := Lib.hid (And.intro hk (And.intro hI' (And.intro (hln'.trans HLN.out) (And.intro (HBX.out.only hO' (by have := HGB.out; omega)) (HO.out.trans' hO' (fun j hj h => by have := HGB.out; have h : j = b ∨ j = gb := h; omega) : Only (fun _ => False) w w4)))))
          clear hk hI' hln' hO' hD HD
          go_wp2
          go_roundw
          case rel => exact ⟨i + 1, l', op', by omega, by omega, by simp, HFIN.out.1, HFIN.out.2.1, HFIN.out.2.2.1, HFIN.out.2.2.2.1, HFIN.out.2.2.2.2⟩
          case measure => simp [intOf]; omega
        have n3 : (od == 3) = false := beq_false_of_ne h3
        clear h3
        by_cases h4 : od = 4
        case pos =>
          subst h4
          clear n0 n1 n2 n3
          have HD := Lib.hid (erased_done HI.out nn wc HK.out)
          go_wp2_with (fail)
          refine HD.out.mono ?_
          rintro e w4 ⟨⟨v, rfl⟩, hD⟩
          obtain ⟨l', op', hk, hI', hln', _, hO'⟩ := hD.h
          have HFIN := Lib.hid (And.intro hk (And.intro hI' (And.intro (hln'.trans HLN.out) (And.intro (HBX.out.only hO' (by have := HGB.out; omega)) (HO.out.trans' hO' (fun j hj h => by have := HGB.out; have h : j = b ∨ j = gb := h; omega) : Only (fun _ => False) w w4)))))
          clear hk hI' hln' hO' hD HD
          go_wp2
          go_roundw
          case rel => exact ⟨i + 1, l', op', by omega, by omega, by simp, HFIN.out.1, HFIN.out.2.1, HFIN.out.2.2.1, HFIN.out.2.2.2.1, HFIN.out.2.2.2.2⟩
          case measure => simp [intOf]; omega
        have n4 : (od == 4) = false := beq_false_of_ne h4
        clear h4
        go_wp2
        go_roundw
        case rel => exact ⟨i + 1, l, op, by omega, by omega, by simp, HK.out, HI.out, HLN.out, HBX.out, HO.out⟩
        case measure => simp [intOf]; omega
      have hp2 : ((od == 0) = true) ∨ ((od == 0) = false ∧ (od == 1) = true) := by
        rcases hput with h | h
        · exact .inl (by simp [h])
        · exact .inr (by simp [h])
      clear hput
      rcases hp2 with t0 | ⟨t0, t1⟩
      all_goals
        have hbx2 := HBX.out.cell 2
        simp only [List.getElem?_toArray, List.getElem?_cons_zero, List.getElem?_cons_succ] at hbx2
        go_wp2_with (fail)
        clear c0 hbx2
        go_loopw [12, 13, 14, 15] (fun v12 v13 v14 v15 wq => ∃ (k : Nat) (A : Option Addr) (cO gO : Nat), k ≤ nb ∧ v13 = .int .i64 k ∧ v12 = .slice A k cO ∧ RowAt wq A k cO gO 43 5 (wcs G l k) ∧ (A ≠ none → w.heap.size ≤ gO) ∧ LAt wq b G l off c gb op ∧ At wq w.heap.size 23 #[.int .i64 G.c, .int .i64 G.l, .int .i64 G.b, .int .i64 G.p, .int .i64 G.s] ∧ Only (fun _ => False) w wq) (fun _ v13 _ _ wq => (nb - intOf v13).toNat)
        case atStart => exact ⟨0, none, 0, 0, by omega, rfl, rfl, .inl ⟨rfl, rfl, rfl, rfl⟩, fun h => absurd rfl h, HK.out, HBX.out, HO.out⟩
        case round =>
          obtain ⟨k, A, cO, gO, hkn, rfl, rfl, hrow, hgO, hk, hbox, hO⟩ := hrel
          have HROW := Lib.hid hrow
          have HGO := Lib.hid hgO
          have HKk := Lib.hid hk
          have HBk := Lib.hid hbox
          have HOk := Lib.hid hO
          have hb2 := hbox.cell 2
          simp only [List.getElem?_toArray, List.getElem?_cons_zero, List.getElem?_cons_succ] at hb2
          rw [HGBE.out] at hb2
          clear hrow hgO hk hbox hO HK HBX HO
          by_cases hlt : k < nb
          case pos =>
            have k0 : (0 : Int) ≤ k := by omega
            have k1 : (k : Int) < nb := by omega
            have k2 : (k : Int) < 64 := by omega
            have hkl : k < l.length := by rw [HLN.out]; exact hlt
            have hgt := get_any b off c gb G HG.out l HI.out.g op k wr HKk.out
            have hv : getV G l k = lnV G l[k] ∧ getE l k = 0 := by
              unfold getV getE
              rw [if_neg (by omega), if_neg (by omega), at'_nat hkl]
              exact ⟨rfl, rfl⟩
            rw [hv.1, hv.2] at hgt
            have HGT := Lib.hid hgt
            unfold lnV at HGT
            have HS : Hid (wcs G l (k + 1) = wcs G l k ++ wc5 G l[k]) := Lib.hid (by simp [wcs, List.getD, hkl])
            unfold wc5 at HS
            clear hgt hv
            generalize l[k] = x at *
            obtain ⟨xs, xw, xg⟩ := x
            simp only at HGT HS
            generalize rm G xg = rr at *
            go_wp2_with (fail)
            refine HGT.out.mono ?_
            rintro e w5 ⟨rfl, hO5⟩
            have o6 := (hO5.alloc (.cells #[.int .i64 xs, .int .i64 xw, .int .i64 xg, .int .i64 0, .int .i64 rr] 43)).alloc (.cells #[.int .i64 xs, .int .i64 xw, .int .i64 xg, .int .i64 0, .int .i64 rr] 43)
            have HK6 := Lib.hid (HKk.out.quiet o6)
            have HB6 := Lib.hid (HBk.out.only o6 id)
            have HO6 := Lib.hid (HOk.out.trans o6)
            have HR6 := Lib.hid (HROW.out.only o6 (fun _ => id))
            have e6 : w5.heap.size + 1 = (w5.alloc (.cells #[.int .i64 xs, .int .i64 xw, .int .i64 xg, .int .i64 0, .int .i64 rr] 43)).heap.size := by simp
            have HN6 := Lib.hid (At.new' e6 43 #[.int .i64 xs, .int .i64 xw, .int .i64 xg, .int .i64 0, .int .i64 rr])
            have hkm : k + 1 ≤ maxLen := by unfold maxLen; omega
            have hsz6 := HO6.out.size
            clear hO5 o6 HGT hb2 e6
            go_wp2_with (at_builtin; go_loud (refine wpList_append_row _ rfl (.tmp 82) (.tmp 84) 41 rfl 43 i0t (.agg #[.int .i64 0, .int .i64 0, .int .i64 0, .int .i64 0, .int .i64 0]) 5 40 Try.underlying41 HIT.out.1 HIT.out.2.1 HIT.out.2.2.1 HIT.out.2.2.2 rfl (by decide) A k cO gO (wcs G l k) rfl HR6.out ⟨w5.heap.size + 1, 0, none⟩ [.int .i64 xs, .int .i64 xw, .int .i64 xg, .int .i64 0, .int .i64 rr] 1 rfl rfl (fun j u hj => HN6.out.reads j u hj) (by simp [Value.oneCell']) hkm (by omega) ?_); intro A3 c3 g3 w8 hrow3 hO3 hA3; have HR3 := Lib.hid hrow3; have HO3 := Lib.hid hO3; have HA3 := Lib.hid hA3; clear hrow3 hO3 hA3)
            go_roundw
            case rel =>
              refine ⟨k + 1, A3, c3, g3, by omega, by simp, rfl, by rw [HS.out]; exact HR3.out, ?_, HK6.out.only HO3.out ?_ ?_, HB6.out.only HO3.out ?_, HO6.out.trans' HO3.out ?_⟩
              · intro _
                rcases HA3.out.2 with ⟨h1, h2⟩ | h2
                · rw [h2]; exact HGO.out h1
                · omega
              · exact fun h => HR6.out.neAt HK6.out.st h.1 (by decide) h.2.symm
              · exact fun h => HR6.out.ne HK6.out.row h.1 (by simp) (by decide) h.2.symm
              · exact fun h => HR6.out.neAt HB6.out h.1 (by decide) h.2.symm
              · exact fun i hi h => by have := HGO.out h.1; omega
            case measure => simp [intOf]; omega
          case neg =>
            obtain rfl : k = nb := by omega
            have k1 : ¬ (k : Int) < k := by omega
            have HOP := Lib.hid (open_least HI.out wr HKk.out)
            clear hlt
            go_wp2_with (fail)
            refine HOP.out.mono ?_
            rintro e w5 ⟨n, er, rfl, hD, hP⟩
            have HP := Lib.hid hP
            obtain ⟨l', op', hk, hI', hln', _, hO'⟩ := hD.h
            have hrow5 := HROW.out.only hO' (fun hA h => by
              rcases h with h | h
              · exact HROW.out.neAt HKk.out.st hA (by decide) h
              · exact HROW.out.ne HKk.out.row hA (by simp) (by decide) h)
            have HFIN := Lib.hid (And.intro hk (And.intro hI' (And.intro (hln'.trans HLN.out) (And.intro (HBk.out.only hO' (by have := HGB.out; omega)) (HOk.out.trans' hO' (fun j hj h => by have := HGB.out; have h : j = b ∨ j = gb := h; omega) : Only (fun _ => False) w w5)))))
            have HROW5 := Lib.hid hrow5
            clear hk hI' hln' hO' hD HOP hP hrow5 hb2
            by_cases her : er = 0
            case neg =>
              have t2 : (er != 0) = true := by simp [her]
              clear her
              go_wp2
              go_roundw
              case rel => exact ⟨i + 1, l', op', by omega, by omega, by simp, HFIN.out.1, HFIN.out.2.1, HFIN.out.2.2.1, HFIN.out.2.2.2.1, HFIN.out.2.2.2.2⟩
              case measure => simp [intOf]; omega
            obtain ⟨j, hnj, hjl, hjs, hleast⟩ := HP.out her
            subst her
            subst hnj
            have hjk : j < k := by have := HLN.out; omega
            obtain ⟨offw, rfl, d0, d1⟩ := wrow_cells HROW5.out hjk hjl
            rw [hjs] at d0
            have HLE := Lib.hid hleast
            have HDJ : Hid (∀ W, Only (fun _ => False) w5 W → W.cell? ⟨gO, offw + j * 5 + 1, none⟩ = some (.int .i64 (l[j]).w)) := Lib.hid (fun W o => (o.cell (p := ⟨gO, offw + j * 5 + 1, none⟩) (World.block_lt_of_cell? _ _ d1) id).trans d1)
            have j0 : (0 : Int) ≤ j := by omega
            have j1 : (j : Int) < k := by omega
            have j2 : decide ((j : Int) < 0) = false := decide_eq_false (by omega)
            have j3 : decide (k ≤ j) = false := decide_eq_false (by omega)
            have j4 : ¬ (j : Int) < 0 := by omega
            clear hleast hjs HP
            generalize l[j] = y at *
            obtain ⟨ys, yw, yg⟩ := y
            simp only at d1 HLE HDJ
            go_wp2_with (fail)
            clear d0 d1
            go_loopw [18] (fun v18 wq => ∃ q : Nat, q ≤ k ∧ v18 = .int .i64 q ∧ Only (fun _ => False) w5 wq) (fun v18 wq => (k - intOf v18).toNat)
            case atStart => exact ⟨0, by omega, rfl, Only.refl _ _⟩
            case round =>
              obtain ⟨q, hq, rfl, hOq⟩ := hrel
              have HOQ := Lib.hid hOq
              clear hOq
              by_cases hqk : q < k
              case pos =>
                have q0 : (0 : Int) ≤ q := by omega
                have q1 : (q : Int) < k := by omega
                have hql : q < l.length := by have := HLN.out; omega
                obtain ⟨offw', hoff, f0, f1⟩ := wrow_cells (HROW5.out.only HOQ.out (fun _ => id)) hqk hql
                injection hoff with hoff
                injection hoff with _ hoff _
                subst hoff
                have hle := HLE.out q hql
                have d1 : wr.cell? ⟨gO, offw + j * 5 + 1, none⟩ = some (.int .i64 yw) := HDJ.out _ HOQ.out
                generalize l[q] = x at *
                obtain ⟨xs, xw, xg⟩ := x
                simp only at f0 f1 hle
                by_cases hs : xs = 0
                · have hle := hle hs
                  have s1 : (xs == 0) = true := by simp [hs]
                  have s2 : decide (xw < yw) = false := by have := hle.1; simp; omega
                  by_cases he : xw = yw
                  · have s3 : (xw == yw) = true := by simp [he]
                    have s4 : decide ((q : Int) < j) = false := by have := hle.2 he; simp; omega
                    have s5 : decide (q < j) = false := by have := hle.2 he; simp; omega
                    clear hle hs he
                    go_wp2_with (fail)
                    refine wp_region_held_drew (S := (fun W => (W.cell? ⟨gO, offw + q * 5, none⟩ = some (.int .i64 xs) ∧ W.cell? ⟨gO, offw + q * 5 + 1, none⟩ = some (.int .i64 xw)) ∧ W.cell? ⟨gO, offw + j * 5 + 1, none⟩ = some (.int .i64 yw))) (by kernel_rfl) ?_ (fun hHeld => ?_)
                    · exact ⟨⟨f0, f1⟩, d1⟩
                    refine wpAnyH_take (i := 0) (oi := { dst := some 115, op := Op.move (Operand.tmp 12), type := 41, pos := "law.go:133", after := #[], guard := none }) (v := ?_) rfl (by kernel_rfl) (by kernel_rfl) (by kernel_rfl) (fun _ _ _ h => h) (Or.inl ⟨by rfl, ?_⟩) (by assumption) ?_
                    rotate_left
                    · (intro w hSw; (try dsimp only at hSw); (try obtain ⟨hSa, hSb⟩ := hSw); go_simp; try with_reducible rfl)
                    try simp only [Act.put, List.setIfInBounds_toArray, List.set_cons_zero, List.set_cons_succ]
                    refine wpAnyH_take (i := 1) (oi := { dst := some 116, op := Op.move (Operand.tmp 18), type := 3, pos := "law.go:133", after := #[], guard := none }) (v := ?_) rfl (by kernel_rfl) (by kernel_rfl) (by kernel_rfl) (fun _ _ _ h => h) (Or.inl ⟨by rfl, ?_⟩) (by assumption) ?_
                    rotate_left
                    · (intro w hSw; (try dsimp only at hSw); (try obtain ⟨hSa, hSb⟩ := hSw); go_simp; try with_reducible rfl)
                    try simp only [Act.put, List.setIfInBounds_toArray, List.set_cons_zero, List.set_cons_succ]
                    refine wpAnyH_take (i := 2) (oi := { dst := some 117, op := Op.indexAddr 41 (Operand.tmp 115) (Operand.tmp 116), type := 0, pos := "law.go:133", after := #[{ on := 0, ground := Ground.data }, { on := 1, ground := Ground.data }], guard := none }) (v := ?_) rfl (by kernel_rfl) (by kernel_rfl) (by kernel_rfl) (fun _ _ _ h => h) (Or.inl ⟨by rfl, ?_⟩) (by assumption) ?_
                    rotate_left
                    · (intro w hSw; (try dsimp only at hSw); (try obtain ⟨hSa, hSb⟩ := hSw); go_simp; try with_reducible rfl)
                    try simp only [Act.put, List.setIfInBounds_toArray, List.set_cons_zero, List.set_cons_succ]
                    refine wpAnyH_take (i := 3) (oi := { dst := some 118, op := Op.fieldAddr 43 (Operand.tmp 117) 0, type := 0, pos := "law.go:133", after := #[{ on := 2, ground := Ground.data }], guard := none }) (v := ?_) rfl (by kernel_rfl) (by kernel_rfl) (by kernel_rfl) (fun _ _ _ h => h) (Or.inl ⟨by rfl, ?_⟩) (by assumption) ?_
                    rotate_left
                    · (intro w hSw; (try dsimp only at hSw); (try obtain ⟨hSa, hSb⟩ := hSw); go_simp; try with_reducible rfl)
                    try simp only [Act.put, List.setIfInBounds_toArray, List.set_cons_zero, List.set_cons_succ]
                    refine wpAnyH_take (i := 4) (oi := { dst := some 119, op := Op.load 3 (Operand.tmp 118), type := 3, pos := "law.go:133", after := #[{ on := 3, ground := Ground.data }], guard := none }) (v := ?_) rfl (by kernel_rfl) (by kernel_rfl) (by kernel_rfl) (fun _ _ _ h => h) (Or.inl ⟨by rfl, ?_⟩) (by assumption) ?_
                    rotate_left
                    · (intro w hSw; (try dsimp only at hSw); (try obtain ⟨hSa, hSb⟩ := hSw); go_simp; try with_reducible rfl)
                    try simp only [Act.put, List.setIfInBounds_toArray, List.set_cons_zero, List.set_cons_succ]
                    refine wpAnyH_take (i := 5) (oi := { dst := some 120, op := Op.binOp BinOp.eql 3 (Operand.tmp 119) (Operand.const (Value.int IntKind.i64 0)) 3, type := 4, pos := "law.go:133", after := #[{ on := 4, ground := Ground.data }], guard := none }) (v := ?_) rfl (by kernel_rfl) (by kernel_rfl) (by kernel_rfl) (fun _ _ _ h => h) (Or.inl ⟨by rfl, ?_⟩) (by assumption) ?_
                    rotate_left
                    · (intro w hSw; (try dsimp only at hSw); (try obtain ⟨hSa, hSb⟩ := hSw); go_simp; try with_reducible rfl)
                    try simp only [Act.put, List.setIfInBounds_toArray, List.set_cons_zero, List.set_cons_succ]
                    refine wpAnyH_take (i := 6) (oi := { dst := some 121, op := Op.move (Operand.tmp 120), type := 4, pos := "law.go:133", after := #[{ on := 5, ground := Ground.data }], guard := none }) (v := ?_) rfl (by kernel_rfl) (by kernel_rfl) (by kernel_rfl) (fun _ _ _ h => h) (Or.inl ⟨by rfl, ?_⟩) (by assumption) ?_
                    rotate_left
                    · (intro w hSw; (try dsimp only at hSw); (try obtain ⟨hSa, hSb⟩ := hSw); go_simp; try with_reducible rfl)
                    try simp only [Act.put, List.setIfInBounds_toArray, List.set_cons_zero, List.set_cons_succ]
                    refine wpAnyH_take (i := 7) (oi := { dst := some 122, op := Op.move (Operand.tmp 12), type := 41, pos := "law.go:133", after := #[{ on := 6, ground := Ground.guard }], guard := some (6, true) }) (v := ?_) rfl (by kernel_rfl) (by kernel_rfl) (by kernel_rfl) (fun _ _ _ h => h) (Or.inl ⟨by rfl, ?_⟩) (by assumption) ?_
                    rotate_left
                    · (intro w hSw; (try dsimp only at hSw); (try obtain ⟨hSa, hSb⟩ := hSw); go_simp; try with_reducible rfl)
                    try simp only [Act.put, List.setIfInBounds_toArray, List.set_cons_zero, List.set_cons_succ]
                    refine wpAnyH_take (i := 8) (oi := { dst := some 123, op := Op.move (Operand.tmp 18), type := 3, pos := "law.go:133", after := #[{ on := 6, ground := Ground.guard }], guard := some (6, true) }) (v := ?_) rfl (by kernel_rfl) (by kernel_rfl) (by kernel_rfl) (fun _ _ _ h => h) (Or.inl ⟨by rfl, ?_⟩) (by assumption) ?_
                    rotate_left
                    · (intro w hSw; (try dsimp only at hSw); (try obtain ⟨hSa, hSb⟩ := hSw); go_simp; try with_reducible rfl)
                    try simp only [Act.put, List.setIfInBounds_toArray, List.set_cons_zero, List.set_cons_succ]
                    refine wpAnyH_take (i := 9) (oi := { dst := some 124, op := Op.indexAddr 41 (Operand.tmp 122) (Operand.tmp 123), type := 0, pos := "law.go:133", after := #[{ on := 7, ground := Ground.data }, { on := 8, ground := Ground.data }, { on := 6, ground := Ground.guard }], guard := some (6, true) }) (v := ?_) rfl (by kernel_rfl) (by kernel_rfl) (by kernel_rfl) (fun _ _ _ h => h) (Or.inl ⟨by rfl, ?_⟩) (by assumption) ?_
                    rotate_left
                    · (intro w hSw; (try dsimp only at hSw); (try obtain ⟨hSa, hSb⟩ := hSw); go_simp; try with_reducible rfl)
                    try simp only [Act.put, List.setIfInBounds_toArray, List.set_cons_zero, List.set_cons_succ]
                    refine wpAnyH_take (i := 10) (oi := { dst := some 125, op := Op.fieldAddr 43 (Operand.tmp 124) 1, type := 0, pos := "law.go:133", after := #[{ on := 9, ground := Ground.data }, { on := 6, ground := Ground.guard }], guard := some (6, true) }) (v := ?_) rfl (by kernel_rfl) (by kernel_rfl) (by kernel_rfl) (fun _ _ _ h => h) (Or.inl ⟨by rfl, ?_⟩) (by assumption) ?_
                    rotate_left
                    · (intro w hSw; (try dsimp only at hSw); (try obtain ⟨hSa, hSb⟩ := hSw); go_simp; try with_reducible rfl)
                    try simp only [Act.put, List.setIfInBounds_toArray, List.set_cons_zero, List.set_cons_succ]
                    refine wpAnyH_take (i := 11) (oi := { dst := some 126, op := Op.load 3 (Operand.tmp 125), type := 3, pos := "law.go:133", after := #[{ on := 10, ground := Ground.data }, { on := 6, ground := Ground.guard }], guard := some (6, true) }) (v := ?_) rfl (by kernel_rfl) (by kernel_rfl) (by kernel_rfl) (fun _ _ _ h => h) (Or.inl ⟨by rfl, ?_⟩) (by assumption) ?_
                    rotate_left
                    · (intro w hSw; (try dsimp only at hSw); (try obtain ⟨hSa, hSb⟩ := hSw); go_simp; try with_reducible rfl)
                    try simp only [Act.put, List.setIfInBounds_toArray, List.set_cons_zero, List.set_cons_succ]
                    refine wpAnyH_take (i := 12) (oi := { dst := some 127, op := Op.move (Operand.tmp 12), type := 41, pos := "law.go:133", after := #[{ on := 6, ground := Ground.guard }], guard := some (6, true) }) (v := ?_) rfl (by kernel_rfl) (by kernel_rfl) (by kernel_rfl) (fun _ _ _ h => h) (Or.inl ⟨by rfl, ?_⟩) (by assumption) ?_
                    rotate_left
                    · (intro w hSw; (try dsimp only at hSw); (try obtain ⟨hSa, hSb⟩ := hSw); go_simp; try with_reducible rfl)
                    try simp only [Act.put, List.setIfInBounds_toArray, List.set_cons_zero, List.set_cons_succ]
                    refine wpAnyH_take (i := 13) (oi := { dst := some 128, op := Op.move (Operand.tmp 16), type := 3, pos := "law.go:133", after := #[{ on := 6, ground := Ground.guard }], guard := some (6, true) }) (v := ?_) rfl (by kernel_rfl) (by kernel_rfl) (by kernel_rfl) (fun _ _ _ h => h) (Or.inl ⟨by rfl, ?_⟩) (by assumption) ?_
                    rotate_left
                    · (intro w hSw; (try dsimp only at hSw); (try obtain ⟨hSa, hSb⟩ := hSw); go_simp; try with_reducible rfl)
                    try simp only [Act.put, List.setIfInBounds_toArray, List.set_cons_zero, List.set_cons_succ]
                    refine wpAnyH_take (i := 14) (oi := { dst := some 129, op := Op.indexAddr 41 (Operand.tmp 127) (Operand.tmp 128), type := 0, pos := "law.go:133", after := #[{ on := 12, ground := Ground.data }, { on := 13, ground := Ground.data }, { on := 6, ground := Ground.guard }], guard := some (6, true) }) (v := ?_) rfl (by kernel_rfl) (by kernel_rfl) (by kernel_rfl) (fun _ _ _ h => h) (Or.inl ⟨by rfl, ?_⟩) (by assumption) ?_
                    rotate_left
                    · (intro w hSw; (try dsimp only at hSw); (try obtain ⟨hSa, hSb⟩ := hSw); go_simp; try with_reducible rfl)
                    try simp only [Act.put, List.setIfInBounds_toArray, List.set_cons_zero, List.set_cons_succ]
                    refine wpAnyH_take (i := 15) (oi := { dst := some 130, op := Op.fieldAddr 43 (Operand.tmp 129) 1, type := 0, pos := "law.go:133", after := #[{ on := 14, ground := Ground.data }, { on := 6, ground := Ground.guard }], guard := some (6, true) }) (v := ?_) rfl (by kernel_rfl) (by kernel_rfl) (by kernel_rfl) (fun _ _ _ h => h) (Or.inl ⟨by rfl, ?_⟩) (by assumption) ?_
                    rotate_left
                    · (intro w hSw; (try dsimp only at hSw); (try obtain ⟨hSa, hSb⟩ := hSw); go_simp; try with_reducible rfl)
                    try simp only [Act.put, List.setIfInBounds_toArray, List.set_cons_zero, List.set_cons_succ]
                    refine wpAnyH_take (i := 16) (oi := { dst := some 131, op := Op.load 3 (Operand.tmp 130), type := 3, pos := "law.go:133", after := #[{ on := 15, ground := Ground.data }, { on := 6, ground := Ground.guard }], guard := some (6, true) }) (v := ?_) rfl (by kernel_rfl) (by kernel_rfl) (by kernel_rfl) (fun _ _ _ h => h) (Or.inl ⟨by rfl, ?_⟩) (by assumption) ?_
                    rotate_left
                    · (intro w hSw; (try dsimp only at hSw); (try obtain ⟨hSa, hSb⟩ := hSw); go_simp; try with_reducible rfl)
                    try simp only [Act.put, List.setIfInBounds_toArray, List.set_cons_zero, List.set_cons_succ]
                    refine wpAnyH_take (i := 17) (oi := { dst := some 132, op := Op.binOp BinOp.lss 3 (Operand.tmp 126) (Operand.tmp 131) 3, type := 4, pos := "law.go:133", after := #[{ on := 11, ground := Ground.data }, { on := 16, ground := Ground.data }, { on := 6, ground := Ground.guard }], guard := some (6, true) }) (v := ?_) rfl (by kernel_rfl) (by kernel_rfl) (by kernel_rfl) (fun _ _ _ h => h) (Or.inl ⟨by rfl, ?_⟩) (by assumption) ?_
                    rotate_left
                    · (intro w hSw; (try dsimp only at hSw); (try obtain ⟨hSa, hSb⟩ := hSw); go_simp; try with_reducible rfl)
                    try simp only [Act.put, List.setIfInBounds_toArray, List.set_cons_zero, List.set_cons_succ]
                    refine wpAnyH_take (i := 18) (oi := { dst := some 133, op := Op.move (Operand.tmp 132), type := 4, pos := "law.go:133", after := #[{ on := 17, ground := Ground.data }, { on := 6, ground := Ground.chain }, { on := 6, ground := Ground.guard }], guard := some (6, true) }) (v := ?_) rfl (by kernel_rfl) (by kernel_rfl) (by kernel_rfl) (fun _ _ _ h => h) (Or.inl ⟨by rfl, ?_⟩) (by assumption) ?_
                    rotate_left
                    · (intro w hSw; (try dsimp only at hSw); (try obtain ⟨hSa, hSb⟩ := hSw); go_simp; try with_reducible rfl)
                    try simp only [Act.put, List.setIfInBounds_toArray, List.set_cons_zero, List.set_cons_succ]
                    refine wpAnyH_take (i := 19) (oi := { dst := some 134, op := Op.move (Operand.tmp 12), type := 41, pos := "law.go:133", after := #[{ on := 18, ground := Ground.guard }], guard := some (18, false) }) (v := ?_) rfl (by kernel_rfl) (by kernel_rfl) (by kernel_rfl) (fun _ _ _ h => h) (Or.inl ⟨by rfl, ?_⟩) (by assumption) ?_
                    rotate_left
                    · (intro w hSw; (try dsimp only at hSw); (try obtain ⟨hSa, hSb⟩ := hSw); go_simp; try with_reducible rfl)
                    try simp only [Act.put, List.setIfInBounds_toArray, List.set_cons_zero, List.set_cons_succ]
                    refine wpAnyH_take (i := 20) (oi := { dst := some 135, op := Op.move (Operand.tmp 18), type := 3, pos := "law.go:133", after := #[{ on := 18, ground := Ground.guard }], guard := some (18, false) }) (v := ?_) rfl (by kernel_rfl) (by kernel_rfl) (by kernel_rfl) (fun _ _ _ h => h) (Or.inl ⟨by rfl, ?_⟩) (by assumption) ?_
                    rotate_left
                    · (intro w hSw; (try dsimp only at hSw); (try obtain ⟨hSa, hSb⟩ := hSw); go_simp; try with_reducible rfl)
                    try simp only [Act.put, List.setIfInBounds_toArray, List.set_cons_zero, List.set_cons_succ]
                    refine wpAnyH_take (i := 21) (oi := { dst := some 136, op := Op.indexAddr 41 (Operand.tmp 134) (Operand.tmp 135), type := 0, pos := "law.go:133", after := #[{ on := 19, ground := Ground.data }, { on := 20, ground := Ground.data }, { on := 18, ground := Ground.guard }], guard := some (18, false) }) (v := ?_) rfl (by kernel_rfl) (by kernel_rfl) (by kernel_rfl) (fun _ _ _ h => h) (Or.inl ⟨by rfl, ?_⟩) (by assumption) ?_
                    rotate_left
                    · (intro w hSw; (try dsimp only at hSw); (try obtain ⟨hSa, hSb⟩ := hSw); go_simp; try with_reducible rfl)
                    try simp only [Act.put, List.setIfInBounds_toArray, List.set_cons_zero, List.set_cons_succ]
                    refine wpAnyH_take (i := 22) (oi := { dst := some 137, op := Op.fieldAddr 43 (Operand.tmp 136) 1, type := 0, pos := "law.go:133", after := #[{ on := 21, ground := Ground.data }, { on := 18, ground := Ground.guard }], guard := some (18, false) }) (v := ?_) rfl (by kernel_rfl) (by kernel_rfl) (by kernel_rfl) (fun _ _ _ h => h) (Or.inl ⟨by rfl, ?_⟩) (by assumption) ?_
                    rotate_left
                    · (intro w hSw; (try dsimp only at hSw); (try obtain ⟨hSa, hSb⟩ := hSw); go_simp; try with_reducible rfl)
                    try simp only [Act.put, List.setIfInBounds_toArray, List.set_cons_zero, List.set_cons_succ]
                    refine wpAnyH_take (i := 23) (oi := { dst := some 138, op := Op.load 3 (Operand.tmp 137), type := 3, pos := "law.go:133", after := #[{ on := 22, ground := Ground.data }, { on := 18, ground := Ground.guard }], guard := some (18, false) }) (v := ?_) rfl (by kernel_rfl) (by kernel_rfl) (by kernel_rfl) (fun _ _ _ h => h) (Or.inl ⟨by rfl, ?_⟩) (by assumption) ?_
                    rotate_left
                    · (intro w hSw; (try dsimp only at hSw); (try obtain ⟨hSa, hSb⟩ := hSw); go_simp; try with_reducible rfl)
                    try simp only [Act.put, List.setIfInBounds_toArray, List.set_cons_zero, List.set_cons_succ]
                    refine wpAnyH_take (i := 24) (oi := { dst := some 139, op := Op.move (Operand.tmp 12), type := 41, pos := "law.go:133", after := #[{ on := 18, ground := Ground.guard }], guard := some (18, false) }) (v := ?_) rfl (by kernel_rfl) (by kernel_rfl) (by kernel_rfl) (fun _ _ _ h => h) (Or.inl ⟨by rfl, ?_⟩) (by assumption) ?_
                    rotate_left
                    · (intro w hSw; (try dsimp only at hSw); (try obtain ⟨hSa, hSb⟩ := hSw); go_simp; try with_reducible rfl)
                    try simp only [Act.put, List.setIfInBounds_toArray, List.set_cons_zero, List.set_cons_succ]
                    refine wpAnyH_take (i := 25) (oi := { dst := some 140, op := Op.move (Operand.tmp 16), type := 3, pos := "law.go:133", after := #[{ on := 18, ground := Ground.guard }], guard := some (18, false) }) (v := ?_) rfl (by kernel_rfl) (by kernel_rfl) (by kernel_rfl) (fun _ _ _ h => h) (Or.inl ⟨by rfl, ?_⟩) (by assumption) ?_
                    rotate_left
                    · (intro w hSw; (try dsimp only at hSw); (try obtain ⟨hSa, hSb⟩ := hSw); go_simp; try with_reducible rfl)
                    try simp only [Act.put, List.setIfInBounds_toArray, List.set_cons_zero, List.set_cons_succ]
                    refine wpAnyH_take (i := 26) (oi := { dst := some 141, op := Op.indexAddr 41 (Operand.tmp 139) (Operand.tmp 140), type := 0, pos := "law.go:133", after := #[{ on := 24, ground := Ground.data }, { on := 25, ground := Ground.data }, { on := 18, ground := Ground.guard }], guard := some (18, false) }) (v := ?_) rfl (by kernel_rfl) (by kernel_rfl) (by kernel_rfl) (fun _ _ _ h => h) (Or.inl ⟨by rfl, ?_⟩) (by assumption) ?_
                    rotate_left
                    · (intro w hSw; (try dsimp only at hSw); (try obtain ⟨hSa, hSb⟩ := hSw); go_simp; try with_reducible rfl)
                    try simp only [Act.put, List.setIfInBounds_toArray, List.set_cons_zero, List.set_cons_succ]
                    refine wpAnyH_take (i := 27) (oi := { dst := some 142, op := Op.fieldAddr 43 (Operand.tmp 141) 1, type := 0, pos := "law.go:133", after := #[{ on := 26, ground := Ground.data }, { on := 18, ground := Ground.guard }], guard := some (18, false) }) (v := ?_) rfl (by kernel_rfl) (by kernel_rfl) (by kernel_rfl) (fun _ _ _ h => h) (Or.inl ⟨by rfl, ?_⟩) (by assumption) ?_
                    rotate_left
                    · (intro w hSw; (try dsimp only at hSw); (try obtain ⟨hSa, hSb⟩ := hSw); go_simp; try with_reducible rfl)
                    try simp only [Act.put, List.setIfInBounds_toArray, List.set_cons_zero, List.set_cons_succ]
                    refine wpAnyH_take (i := 28) (oi := { dst := some 143, op := Op.load 3 (Operand.tmp 142), type := 3, pos := "law.go:133", after := #[{ on := 27, ground := Ground.data }, { on := 18, ground := Ground.guard }], guard := some (18, false) }) (v := ?_) rfl (by kernel_rfl) (by kernel_rfl) (by kernel_rfl) (fun _ _ _ h => h) (Or.inl ⟨by rfl, ?_⟩) (by assumption) ?_
                    rotate_left
                    · (intro w hSw; (try dsimp only at hSw); (try obtain ⟨hSa, hSb⟩ := hSw); go_simp; try with_reducible rfl)
                    try simp only [Act.put, List.setIfInBounds_toArray, List.set_cons_zero, List.set_cons_succ]
                    refine wpAnyH_take (i := 29) (oi := { dst := some 144, op := Op.binOp BinOp.eql 3 (Operand.tmp 138) (Operand.tmp 143) 3, type := 4, pos := "law.go:133", after := #[{ on := 23, ground := Ground.data }, { on := 28, ground := Ground.data }, { on := 18, ground := Ground.guard }], guard := some (18, false) }) (v := ?_) rfl (by kernel_rfl) (by kernel_rfl) (by kernel_rfl) (fun _ _ _ h => h) (Or.inl ⟨by rfl, ?_⟩) (by assumption) ?_
                    rotate_left
                    · (intro w hSw; (try dsimp only at hSw); (try obtain ⟨hSa, hSb⟩ := hSw); go_simp; try with_reducible rfl)
                    try simp only [Act.put, List.setIfInBounds_toArray, List.set_cons_zero, List.set_cons_succ]
                    refine wpAnyH_take (i := 30) (oi := { dst := some 145, op := Op.move (Operand.tmp 144), type := 4, pos := "law.go:133", after := #[{ on := 29, ground := Ground.data }, { on := 18, ground := Ground.chain }, { on := 18, ground := Ground.guard }], guard := some (18, false) }) (v := ?_) rfl (by kernel_rfl) (by kernel_rfl) (by kernel_rfl) (fun _ _ _ h => h) (Or.inl ⟨by rfl, ?_⟩) (by assumption) ?_
                    rotate_left
                    · (intro w hSw; (try dsimp only at hSw); (try obtain ⟨hSa, hSb⟩ := hSw); go_simp; try with_reducible rfl)
                    try simp only [Act.put, List.setIfInBounds_toArray, List.set_cons_zero, List.set_cons_succ]
                    refine wpAnyH_take (i := 31) (oi := { dst := some 146, op := Op.move (Operand.tmp 18), type := 3, pos := "law.go:133", after := #[{ on := 30, ground := Ground.guard }], guard := some (30, true) }) (v := ?_) rfl (by kernel_rfl) (by kernel_rfl) (by kernel_rfl) (fun _ _ _ h => h) (Or.inl ⟨by rfl, ?_⟩) (by assumption) ?_
                    rotate_left
                    · (intro w hSw; (try dsimp only at hSw); (try obtain ⟨hSa, hSb⟩ := hSw); go_simp; try with_reducible rfl)
                    try simp only [Act.put, List.setIfInBounds_toArray, List.set_cons_zero, List.set_cons_succ]
                    refine wpAnyH_take (i := 32) (oi := { dst := some 147, op := Op.move (Operand.tmp 16), type := 3, pos := "law.go:133", after := #[{ on := 30, ground := Ground.guard }], guard := some (30, true) }) (v := ?_) rfl (by kernel_rfl) (by kernel_rfl) (by kernel_rfl) (fun _ _ _ h => h) (Or.inl ⟨by rfl, ?_⟩) (by assumption) ?_
                    rotate_left
                    · (intro w hSw; (try dsimp only at hSw); (try obtain ⟨hSa, hSb⟩ := hSw); go_simp; try with_reducible rfl)
                    try simp only [Act.put, List.setIfInBounds_toArray, List.set_cons_zero, List.set_cons_succ]
                    refine wpAnyH_take (i := 33) (oi := { dst := some 148, op := Op.binOp BinOp.lss 3 (Operand.tmp 146) (Operand.tmp 147) 3, type := 4, pos := "law.go:133", after := #[{ on := 31, ground := Ground.data }, { on := 32, ground := Ground.data }, { on := 30, ground := Ground.guard }], guard := some (30, true) }) (v := ?_) rfl (by kernel_rfl) (by kernel_rfl) (by kernel_rfl) (fun _ _ _ h => h) (Or.inl ⟨by rfl, ?_⟩) (by assumption) ?_
                    rotate_left
                    · (intro w hSw; (try dsimp only at hSw); (try obtain ⟨hSa, hSb⟩ := hSw); go_simp; try with_reducible rfl)
                    try simp only [Act.put, List.setIfInBounds_toArray, List.set_cons_zero, List.set_cons_succ]
                    refine wpAnyH_take (i := 34) (oi := { dst := some 149, op := Op.pick (Operand.tmp 145) (Operand.tmp 148) (Operand.const (Value.bool false)), type := 4, pos := "law.go:133", after := #[{ on := 30, ground := Ground.data }, { on := 33, ground := Ground.data }, { on := 18, ground := Ground.guard }], guard := some (18, false) }) (v := ?_) rfl (by kernel_rfl) (by kernel_rfl) (by kernel_rfl) (fun _ _ _ h => h) (Or.inl ⟨by rfl, ?_⟩) (by assumption) ?_
                    rotate_left
                    · (intro w hSw; (try dsimp only at hSw); (try obtain ⟨hSa, hSb⟩ := hSw); go_simp; try with_reducible rfl)
                    try simp only [Act.put, List.setIfInBounds_toArray, List.set_cons_zero, List.set_cons_succ]
                    refine wpAnyH_take (i := 35) (oi := { dst := some 150, op := Op.pick (Operand.tmp 133) (Operand.const (Value.bool true)) (Operand.tmp 149), type := 4, pos := "law.go:133", after := #[{ on := 18, ground := Ground.data }, { on := 34, ground := Ground.data }, { on := 6, ground := Ground.guard }], guard := some (6, true) }) (v := ?_) rfl (by kernel_rfl) (by kernel_rfl) (by kernel_rfl) (fun _ _ _ h => h) (Or.inl ⟨by rfl, ?_⟩) (by assumption) ?_
                    rotate_left
                    · (intro w hSw; (try dsimp only at hSw); (try obtain ⟨hSa, hSb⟩ := hSw); go_simp; try with_reducible rfl)
                    try simp only [Act.put, List.setIfInBounds_toArray, List.set_cons_zero, List.set_cons_succ]
                    refine wpAnyH_take (i := 36) (oi := { dst := some 151, op := Op.pick (Operand.tmp 121) (Operand.tmp 150) (Operand.const (Value.bool false)), type := 4, pos := "law.go:133", after := #[{ on := 6, ground := Ground.data }, { on := 35, ground := Ground.data }], guard := none }) (v := ?_) rfl (by kernel_rfl) (by kernel_rfl) (by kernel_rfl) (fun _ _ _ h => h) (Or.inl ⟨by rfl, ?_⟩) (by assumption) ?_
                    rotate_left
                    · (intro w hSw; (try dsimp only at hSw); (try obtain ⟨hSa, hSb⟩ := hSw); go_simp; try with_reducible rfl)
                    try simp only [Act.put, List.setIfInBounds_toArray, List.set_cons_zero, List.set_cons_succ]
                    refine wpAnyH_done (by kernel_rfl) ?_ _
                    go_wp2
                    go_roundw
                    case rel => exact ⟨q + 1, by omega, by simp, HOQ.out.drew⟩
                    case measure => simp [intOf]; omega
                  · have s3 : (xw == yw) = false := beq_false_of_ne he
                    clear hle hs he
                    go_wp2_with (fail)
                    refine wp_region_held_drew (S := (fun W => (W.cell? ⟨gO, offw + q * 5, none⟩ = some (.int .i64 xs) ∧ W.cell? ⟨gO, offw + q * 5 + 1, none⟩ = some (.int .i64 xw)) ∧ W.cell? ⟨gO, offw + j * 5 + 1, none⟩ = some (.int .i64 yw))) (by kernel_rfl) ?_ (fun hHeld => ?_)
                    · exact ⟨⟨f0, f1⟩, d1⟩
                    refine wpAnyH_take (i := 0) (oi := { dst := some 115, op := Op.move (Operand.tmp 12), type := 41, pos := "law.go:133", after := #[], guard := none }) (v := ?_) rfl (by kernel_rfl) (by kernel_rfl) (by kernel_rfl) (fun _ _ _ h => h) (Or.inl ⟨by rfl, ?_⟩) (by assumption) ?_
                    rotate_left
                    · (intro w hSw; (try dsimp only at hSw); (try obtain ⟨hSa, hSb⟩ := hSw); go_simp; try with_reducible rfl)
                    try simp only [Act.put, List.setIfInBounds_toArray, List.set_cons_zero, List.set_cons_succ]
                    refine wpAnyH_take (i := 1) (oi := { dst := some 116, op := Op.move (Operand.tmp 18), type := 3, pos := "law.go:133", after := #[], guard := none }) (v := ?_) rfl (by kernel_rfl) (by kernel_rfl) (by kernel_rfl) (fun _ _ _ h => h) (Or.inl ⟨by rfl, ?_⟩) (by assumption) ?_
                    rotate_left
                    · (intro w hSw; (try dsimp only at hSw); (try obtain ⟨hSa, hSb⟩ := hSw); go_simp; try with_reducible rfl)
                    try simp only [Act.put, List.setIfInBounds_toArray, List.set_cons_zero, List.set_cons_succ]
                    refine wpAnyH_take (i := 2) (oi := { dst := some 117, op := Op.indexAddr 41 (Operand.tmp 115) (Operand.tmp 116), type := 0, pos := "law.go:133", after := #[{ on := 0, ground := Ground.data }, { on := 1, ground := Ground.data }], guard := none }) (v := ?_) rfl (by kernel_rfl) (by kernel_rfl) (by kernel_rfl) (fun _ _ _ h => h) (Or.inl ⟨by rfl, ?_⟩) (by assumption) ?_
                    rotate_left
                    · (intro w hSw; (try dsimp only at hSw); (try obtain ⟨hSa, hSb⟩ := hSw); go_simp; try with_reducible rfl)
                    try simp only [Act.put, List.setIfInBounds_toArray, List.set_cons_zero, List.set_cons_succ]
                    refine wpAnyH_take (i := 3) (oi := { dst := some 118, op := Op.fieldAddr 43 (Operand.tmp 117) 0, type := 0, pos := "law.go:133", after := #[{ on := 2, ground := Ground.data }], guard := none }) (v := ?_) rfl (by kernel_rfl) (by kernel_rfl) (by kernel_rfl) (fun _ _ _ h => h) (Or.inl ⟨by rfl, ?_⟩) (by assumption) ?_
                    rotate_left
                    · (intro w hSw; (try dsimp only at hSw); (try obtain ⟨hSa, hSb⟩ := hSw); go_simp; try with_reducible rfl)
                    try simp only [Act.put, List.setIfInBounds_toArray, List.set_cons_zero, List.set_cons_succ]
                    refine wpAnyH_take (i := 4) (oi := { dst := some 119, op := Op.load 3 (Operand.tmp 118), type := 3, pos := "law.go:133", after := #[{ on := 3, ground := Ground.data }], guard := none }) (v := ?_) rfl (by kernel_rfl) (by kernel_rfl) (by kernel_rfl) (fun _ _ _ h => h) (Or.inl ⟨by rfl, ?_⟩) (by assumption) ?_
                    rotate_left
                    · (intro w hSw; (try dsimp only at hSw); (try obtain ⟨hSa, hSb⟩ := hSw); go_simp; try with_reducible rfl)
                    try simp only [Act.put, List.setIfInBounds_toArray, List.set_cons_zero, List.set_cons_succ]
                    refine wpAnyH_take (i := 5) (oi := { dst := some 120, op := Op.binOp BinOp.eql 3 (Operand.tmp 119) (Operand.const (Value.int IntKind.i64 0)) 3, type := 4, pos := "law.go:133", after := #[{ on := 4, ground := Ground.data }], guard := none }) (v := ?_) rfl (by kernel_rfl) (by kernel_rfl) (by kernel_rfl) (fun _ _ _ h => h) (Or.inl ⟨by rfl, ?_⟩) (by assumption) ?_
                    rotate_left
                    · (intro w hSw; (try dsimp only at hSw); (try obtain ⟨hSa, hSb⟩ := hSw); go_simp; try with_reducible rfl)
                    try simp only [Act.put, List.setIfInBounds_toArray, List.set_cons_zero, List.set_cons_succ]
                    refine wpAnyH_take (i := 6) (oi := { dst := some 121, op := Op.move (Operand.tmp 120), type := 4, pos := "law.go:133", after := #[{ on := 5, ground := Ground.data }], guard := none }) (v := ?_) rfl (by kernel_rfl) (by kernel_rfl) (by kernel_rfl) (fun _ _ _ h => h) (Or.inl ⟨by rfl, ?_⟩) (by assumption) ?_
                    rotate_left
                    · (intro w hSw; (try dsimp only at hSw); (try obtain ⟨hSa, hSb⟩ := hSw); go_simp; try with_reducible rfl)
                    try simp only [Act.put, List.setIfInBounds_toArray, List.set_cons_zero, List.set_cons_succ]
                    refine wpAnyH_take (i := 7) (oi := { dst := some 122, op := Op.move (Operand.tmp 12), type := 41, pos := "law.go:133", after := #[{ on := 6, ground := Ground.guard }], guard := some (6, true) }) (v := ?_) rfl (by kernel_rfl) (by kernel_rfl) (by kernel_rfl) (fun _ _ _ h => h) (Or.inl ⟨by rfl, ?_⟩) (by assumption) ?_
                    rotate_left
                    · (intro w hSw; (try dsimp only at hSw); (try obtain ⟨hSa, hSb⟩ := hSw); go_simp; try with_reducible rfl)
                    try simp only [Act.put, List.setIfInBounds_toArray, List.set_cons_zero, List.set_cons_succ]
                    refine wpAnyH_take (i := 8) (oi := { dst := some 123, op := Op.move (Operand.tmp 18), type := 3, pos := "law.go:133", after := #[{ on := 6, ground := Ground.guard }], guard := some (6, true) }) (v := ?_) rfl (by kernel_rfl) (by kernel_rfl) (by kernel_rfl) (fun _ _ _ h => h) (Or.inl ⟨by rfl, ?_⟩) (by assumption) ?_
                    rotate_left
                    · (intro w hSw; (try dsimp only at hSw); (try obtain ⟨hSa, hSb⟩ := hSw); go_simp; try with_reducible rfl)
                    try simp only [Act.put, List.setIfInBounds_toArray, List.set_cons_zero, List.set_cons_succ]
                    refine wpAnyH_take (i := 9) (oi := { dst := some 124, op := Op.indexAddr 41 (Operand.tmp 122) (Operand.tmp 123), type := 0, pos := "law.go:133", after := #[{ on := 7, ground := Ground.data }, { on := 8, ground := Ground.data }, { on := 6, ground := Ground.guard }], guard := some (6, true) }) (v := ?_) rfl (by kernel_rfl) (by kernel_rfl) (by kernel_rfl) (fun _ _ _ h => h) (Or.inl ⟨by rfl, ?_⟩) (by assumption) ?_
                    rotate_left
                    · (intro w hSw; (try dsimp only at hSw); (try obtain ⟨hSa, hSb⟩ := hSw); go_simp; try with_reducible rfl)
                    try simp only [Act.put, List.setIfInBounds_toArray, List.set_cons_zero, List.set_cons_succ]
                    refine wpAnyH_take (i := 10) (oi := { dst := some 125, op := Op.fieldAddr 43 (Operand.tmp 124) 1, type := 0, pos := "law.go:133", after := #[{ on := 9, ground := Ground.data }, { on := 6, ground := Ground.guard }], guard := some (6, true) }) (v := ?_) rfl (by kernel_rfl) (by kernel_rfl) (by kernel_rfl) (fun _ _ _ h => h) (Or.inl ⟨by rfl, ?_⟩) (by assumption) ?_
                    rotate_left
                    · (intro w hSw; (try dsimp only at hSw); (try obtain ⟨hSa, hSb⟩ := hSw); go_simp; try with_reducible rfl)
                    try simp only [Act.put, List.setIfInBounds_toArray, List.set_cons_zero, List.set_cons_succ]
                    refine wpAnyH_take (i := 11) (oi := { dst := some 126, op := Op.load 3 (Operand.tmp 125), type := 3, pos := "law.go:133", after := #[{ on := 10, ground := Ground.data }, { on := 6, ground := Ground.guard }], guard := some (6, true) }) (v := ?_) rfl (by kernel_rfl) (by kernel_rfl) (by kernel_rfl) (fun _ _ _ h => h) (Or.inl ⟨by rfl, ?_⟩) (by assumption) ?_
                    rotate_left
                    · (intro w hSw; (try dsimp only at hSw); (try obtain ⟨hSa, hSb⟩ := hSw); go_simp; try with_reducible rfl)
                    try simp only [Act.put, List.setIfInBounds_toArray, List.set_cons_zero, List.set_cons_succ]
                    refine wpAnyH_take (i := 12) (oi := { dst := some 127, op := Op.move (Operand.tmp 12), type := 41, pos := "law.go:133", after := #[{ on := 6, ground := Ground.guard }], guard := some (6, true) }) (v := ?_) rfl (by kernel_rfl) (by kernel_rfl) (by kernel_rfl) (fun _ _ _ h => h) (Or.inl ⟨by rfl, ?_⟩) (by assumption) ?_
                    rotate_left
                    · (intro w hSw; (try dsimp only at hSw); (try obtain ⟨hSa, hSb⟩ := hSw); go_simp; try with_reducible rfl)
                    try simp only [Act.put, List.setIfInBounds_toArray, List.set_cons_zero, List.set_cons_succ]
                    refine wpAnyH_take (i := 13) (oi := { dst := some 128, op := Op.move (Operand.tmp 16), type := 3, pos := "law.go:133", after := #[{ on := 6, ground := Ground.guard }], guard := some (6, true) }) (v := ?_) rfl (by kernel_rfl) (by kernel_rfl) (by kernel_rfl) (fun _ _ _ h => h) (Or.inl ⟨by rfl, ?_⟩) (by assumption) ?_
                    rotate_left
                    · (intro w hSw; (try dsimp only at hSw); (try obtain ⟨hSa, hSb⟩ := hSw); go_simp; try with_reducible rfl)
                    try simp only [Act.put, List.setIfInBounds_toArray, List.set_cons_zero, List.set_cons_succ]
                    refine wpAnyH_take (i := 14) (oi := { dst := some 129, op := Op.indexAddr 41 (Operand.tmp 127) (Operand.tmp 128), type := 0, pos := "law.go:133", after := #[{ on := 12, ground := Ground.data }, { on := 13, ground := Ground.data }, { on := 6, ground := Ground.guard }], guard := some (6, true) }) (v := ?_) rfl (by kernel_rfl) (by kernel_rfl) (by kernel_rfl) (fun _ _ _ h => h) (Or.inl ⟨by rfl, ?_⟩) (by assumption) ?_
                    rotate_left
                    · (intro w hSw; (try dsimp only at hSw); (try obtain ⟨hSa, hSb⟩ := hSw); go_simp; try with_reducible rfl)
                    try simp only [Act.put, List.setIfInBounds_toArray, List.set_cons_zero, List.set_cons_succ]
                    refine wpAnyH_take (i := 15) (oi := { dst := some 130, op := Op.fieldAddr 43 (Operand.tmp 129) 1, type := 0, pos := "law.go:133", after := #[{ on := 14, ground := Ground.data }, { on := 6, ground := Ground.guard }], guard := some (6, true) }) (v := ?_) rfl (by kernel_rfl) (by kernel_rfl) (by kernel_rfl) (fun _ _ _ h => h) (Or.inl ⟨by rfl, ?_⟩) (by assumption) ?_
                    rotate_left
                    · (intro w hSw; (try dsimp only at hSw); (try obtain ⟨hSa, hSb⟩ := hSw); go_simp; try with_reducible rfl)
                    try simp only [Act.put, List.setIfInBounds_toArray, List.set_cons_zero, List.set_cons_succ]
                    refine wpAnyH_take (i := 16) (oi := { dst := some 131, op := Op.load 3 (Operand.tmp 130), type := 3, pos := "law.go:133", after := #[{ on := 15, ground := Ground.data }, { on := 6, ground := Ground.guard }], guard := some (6, true) }) (v := ?_) rfl (by kernel_rfl) (by kernel_rfl) (by kernel_rfl) (fun _ _ _ h => h) (Or.inl ⟨by rfl, ?_⟩) (by assumption) ?_
                    rotate_left
                    · (intro w hSw; (try dsimp only at hSw); (try obtain ⟨hSa, hSb⟩ := hSw); go_simp; try with_reducible rfl)
                    try simp only [Act.put, List.setIfInBounds_toArray, List.set_cons_zero, List.set_cons_succ]
                    refine wpAnyH_take (i := 17) (oi := { dst := some 132, op := Op.binOp BinOp.lss 3 (Operand.tmp 126) (Operand.tmp 131) 3, type := 4, pos := "law.go:133", after := #[{ on := 11, ground := Ground.data }, { on := 16, ground := Ground.data }, { on := 6, ground := Ground.guard }], guard := some (6, true) }) (v := ?_) rfl (by kernel_rfl) (by kernel_rfl) (by kernel_rfl) (fun _ _ _ h => h) (Or.inl ⟨by rfl, ?_⟩) (by assumption) ?_
                    rotate_left
                    · (intro w hSw; (try dsimp only at hSw); (try obtain ⟨hSa, hSb⟩ := hSw); go_simp; try with_reducible rfl)
                    try simp only [Act.put, List.setIfInBounds_toArray, List.set_cons_zero, List.set_cons_succ]
                    refine wpAnyH_take (i := 18) (oi := { dst := some 133, op := Op.move (Operand.tmp 132), type := 4, pos := "law.go:133", after := #[{ on := 17, ground := Ground.data }, { on := 6, ground := Ground.chain }, { on := 6, ground := Ground.guard }], guard := some (6, true) }) (v := ?_) rfl (by kernel_rfl) (by kernel_rfl) (by kernel_rfl) (fun _ _ _ h => h) (Or.inl ⟨by rfl, ?_⟩) (by assumption) ?_
                    rotate_left
                    · (intro w hSw; (try dsimp only at hSw); (try obtain ⟨hSa, hSb⟩ := hSw); go_simp; try with_reducible rfl)
                    try simp only [Act.put, List.setIfInBounds_toArray, List.set_cons_zero, List.set_cons_succ]
                    refine wpAnyH_take (i := 19) (oi := { dst := some 134, op := Op.move (Operand.tmp 12), type := 41, pos := "law.go:133", after := #[{ on := 18, ground := Ground.guard }], guard := some (18, false) }) (v := ?_) rfl (by kernel_rfl) (by kernel_rfl) (by kernel_rfl) (fun _ _ _ h => h) (Or.inl ⟨by rfl, ?_⟩) (by assumption) ?_
                    rotate_left
                    · (intro w hSw; (try dsimp only at hSw); (try obtain ⟨hSa, hSb⟩ := hSw); go_simp; try with_reducible rfl)
                    try simp only [Act.put, List.setIfInBounds_toArray, List.set_cons_zero, List.set_cons_succ]
                    refine wpAnyH_take (i := 20) (oi := { dst := some 135, op := Op.move (Operand.tmp 18), type := 3, pos := "law.go:133", after := #[{ on := 18, ground := Ground.guard }], guard := some (18, false) }) (v := ?_) rfl (by kernel_rfl) (by kernel_rfl) (by kernel_rfl) (fun _ _ _ h => h) (Or.inl ⟨by rfl, ?_⟩) (by assumption) ?_
                    rotate_left
                    · (intro w hSw; (try dsimp only at hSw); (try obtain ⟨hSa, hSb⟩ := hSw); go_simp; try with_reducible rfl)
                    try simp only [Act.put, List.setIfInBounds_toArray, List.set_cons_zero, List.set_cons_succ]
                    refine wpAnyH_take (i := 21) (oi := { dst := some 136, op := Op.indexAddr 41 (Operand.tmp 134) (Operand.tmp 135), type := 0, pos := "law.go:133", after := #[{ on := 19, ground := Ground.data }, { on := 20, ground := Ground.data }, { on := 18, ground := Ground.guard }], guard := some (18, false) }) (v := ?_) rfl (by kernel_rfl) (by kernel_rfl) (by kernel_rfl) (fun _ _ _ h => h) (Or.inl ⟨by rfl, ?_⟩) (by assumption) ?_
                    rotate_left
                    · (intro w hSw; (try dsimp only at hSw); (try obtain ⟨hSa, hSb⟩ := hSw); go_simp; try with_reducible rfl)
                    try simp only [Act.put, List.setIfInBounds_toArray, List.set_cons_zero, List.set_cons_succ]
                    refine wpAnyH_take (i := 22) (oi := { dst := some 137, op := Op.fieldAddr 43 (Operand.tmp 136) 1, type := 0, pos := "law.go:133", after := #[{ on := 21, ground := Ground.data }, { on := 18, ground := Ground.guard }], guard := some (18, false) }) (v := ?_) rfl (by kernel_rfl) (by kernel_rfl) (by kernel_rfl) (fun _ _ _ h => h) (Or.inl ⟨by rfl, ?_⟩) (by assumption) ?_
                    rotate_left
                    · (intro w hSw; (try dsimp only at hSw); (try obtain ⟨hSa, hSb⟩ := hSw); go_simp; try with_reducible rfl)
                    try simp only [Act.put, List.setIfInBounds_toArray, List.set_cons_zero, List.set_cons_succ]
                    refine wpAnyH_take (i := 23) (oi := { dst := some 138, op := Op.load 3 (Operand.tmp 137), type := 3, pos := "law.go:133", after := #[{ on := 22, ground := Ground.data }, { on := 18, ground := Ground.guard }], guard := some (18, false) }) (v := ?_) rfl (by kernel_rfl) (by kernel_rfl) (by kernel_rfl) (fun _ _ _ h => h) (Or.inl ⟨by rfl, ?_⟩) (by assumption) ?_
                    rotate_left
                    · (intro w hSw; (try dsimp only at hSw); (try obtain ⟨hSa, hSb⟩ := hSw); go_simp; try with_reducible rfl)
                    try simp only [Act.put, List.setIfInBounds_toArray, List.set_cons_zero, List.set_cons_succ]
                    refine wpAnyH_take (i := 24) (oi := { dst := some 139, op := Op.move (Operand.tmp 12), type := 41, pos := "law.go:133", after := #[{ on := 18, ground := Ground.guard }], guard := some (18, false) }) (v := ?_) rfl (by kernel_rfl) (by kernel_rfl) (by kernel_rfl) (fun _ _ _ h => h) (Or.inl ⟨by rfl, ?_⟩) (by assumption) ?_
                    rotate_left
                    · (intro w hSw; (try dsimp only at hSw); (try obtain ⟨hSa, hSb⟩ := hSw); go_simp; try with_reducible rfl)
                    try simp only [Act.put, List.setIfInBounds_toArray, List.set_cons_zero, List.set_cons_succ]
                    refine wpAnyH_take (i := 25) (oi := { dst := some 140, op := Op.move (Operand.tmp 16), type := 3, pos := "law.go:133", after := #[{ on := 18, ground := Ground.guard }], guard := some (18, false) }) (v := ?_) rfl (by kernel_rfl) (by kernel_rfl) (by kernel_rfl) (fun _ _ _ h => h) (Or.inl ⟨by rfl, ?_⟩) (by assumption) ?_
                    rotate_left
                    · (intro w hSw; (try dsimp only at hSw); (try obtain ⟨hSa, hSb⟩ := hSw); go_simp; try with_reducible rfl)
                    try simp only [Act.put, List.setIfInBounds_toArray, List.set_cons_zero, List.set_cons_succ]
                    refine wpAnyH_take (i := 26) (oi := { dst := some 141, op := Op.indexAddr 41 (Operand.tmp 139) (Operand.tmp 140), type := 0, pos := "law.go:133", after := #[{ on := 24, ground := Ground.data }, { on := 25, ground := Ground.data }, { on := 18, ground := Ground.guard }], guard := some (18, false) }) (v := ?_) rfl (by kernel_rfl) (by kernel_rfl) (by kernel_rfl) (fun _ _ _ h => h) (Or.inl ⟨by rfl, ?_⟩) (by assumption) ?_
                    rotate_left
                    · (intro w hSw; (try dsimp only at hSw); (try obtain ⟨hSa, hSb⟩ := hSw); go_simp; try with_reducible rfl)
                    try simp only [Act.put, List.setIfInBounds_toArray, List.set_cons_zero, List.set_cons_succ]
                    refine wpAnyH_take (i := 27) (oi := { dst := some 142, op := Op.fieldAddr 43 (Operand.tmp 141) 1, type := 0, pos := "law.go:133", after := #[{ on := 26, ground := Ground.data }, { on := 18, ground := Ground.guard }], guard := some (18, false) }) (v := ?_) rfl (by kernel_rfl) (by kernel_rfl) (by kernel_rfl) (fun _ _ _ h => h) (Or.inl ⟨by rfl, ?_⟩) (by assumption) ?_
                    rotate_left
                    · (intro w hSw; (try dsimp only at hSw); (try obtain ⟨hSa, hSb⟩ := hSw); go_simp; try with_reducible rfl)
                    try simp only [Act.put, List.setIfInBounds_toArray, List.set_cons_zero, List.set_cons_succ]
                    refine wpAnyH_take (i := 28) (oi := { dst := some 143, op := Op.load 3 (Operand.tmp 142), type := 3, pos := "law.go:133", after := #[{ on := 27, ground := Ground.data }, { on := 18, ground := Ground.guard }], guard := some (18, false) }) (v := ?_) rfl (by kernel_rfl) (by kernel_rfl) (by kernel_rfl) (fun _ _ _ h => h) (Or.inl ⟨by rfl, ?_⟩) (by assumption) ?_
                    rotate_left
                    · (intro w hSw; (try dsimp only at hSw); (try obtain ⟨hSa, hSb⟩ := hSw); go_simp; try with_reducible rfl)
                    try simp only [Act.put, List.setIfInBounds_toArray, List.set_cons_zero, List.set_cons_succ]
                    refine wpAnyH_take (i := 29) (oi := { dst := some 144, op := Op.binOp BinOp.eql 3 (Operand.tmp 138) (Operand.tmp 143) 3, type := 4, pos := "law.go:133", after := #[{ on := 23, ground := Ground.data }, { on := 28, ground := Ground.data }, { on := 18, ground := Ground.guard }], guard := some (18, false) }) (v := ?_) rfl (by kernel_rfl) (by kernel_rfl) (by kernel_rfl) (fun _ _ _ h => h) (Or.inl ⟨by rfl, ?_⟩) (by assumption) ?_
                    rotate_left
                    · (intro w hSw; (try dsimp only at hSw); (try obtain ⟨hSa, hSb⟩ := hSw); go_simp; try with_reducible rfl)
                    try simp only [Act.put, List.setIfInBounds_toArray, List.set_cons_zero, List.set_cons_succ]
                    refine wpAnyH_take (i := 30) (oi := { dst := some 145, op := Op.move (Operand.tmp 144), type := 4, pos := "law.go:133", after := #[{ on := 29, ground := Ground.data }, { on := 18, ground := Ground.chain }, { on := 18, ground := Ground.guard }], guard := some (18, false) }) (v := ?_) rfl (by kernel_rfl) (by kernel_rfl) (by kernel_rfl) (fun _ _ _ h => h) (Or.inl ⟨by rfl, ?_⟩) (by assumption) ?_
                    rotate_left
                    · (intro w hSw; (try dsimp only at hSw); (try obtain ⟨hSa, hSb⟩ := hSw); go_simp; try with_reducible rfl)
                    try simp only [Act.put, List.setIfInBounds_toArray, List.set_cons_zero, List.set_cons_succ]
                    refine wpAnyH_take (i := 31) (oi := { dst := some 146, op := Op.move (Operand.tmp 18), type := 3, pos := "law.go:133", after := #[{ on := 30, ground := Ground.guard }], guard := some (30, true) }) (v := undef) rfl (by kernel_rfl) (by kernel_rfl) (by kernel_rfl) (fun _ _ _ h => h) (Or.inr ⟨by rfl, rfl⟩) (by assumption) ?_
                    try simp only [Act.put, List.setIfInBounds_toArray, List.set_cons_zero, List.set_cons_succ]
                    refine wpAnyH_take (i := 32) (oi := { dst := some 147, op := Op.move (Operand.tmp 16), type := 3, pos := "law.go:133", after := #[{ on := 30, ground := Ground.guard }], guard := some (30, true) }) (v := undef) rfl (by kernel_rfl) (by kernel_rfl) (by kernel_rfl) (fun _ _ _ h => h) (Or.inr ⟨by rfl, rfl⟩) (by assumption) ?_
                    try simp only [Act.put, List.setIfInBounds_toArray, List.set_cons_zero, List.set_cons_succ]
                    refine wpAnyH_take (i := 33) (oi := { dst := some 148, op := Op.binOp BinOp.lss 3 (Operand.tmp 146) (Operand.tmp 147) 3, type := 4, pos := "law.go:133", after := #[{ on := 31, ground := Ground.data }, { on := 32, ground := Ground.data }, { on := 30, ground := Ground.guard }], guard := some (30, true) }) (v := undef) rfl (by kernel_rfl) (by kernel_rfl) (by kernel_rfl) (fun _ _ _ h => h) (Or.inr ⟨by rfl, rfl⟩) (by assumption) ?_
                    try simp only [Act.put, List.setIfInBounds_toArray, List.set_cons_zero, List.set_cons_succ]
                    refine wpAnyH_take (i := 34) (oi := { dst := some 149, op := Op.pick (Operand.tmp 145) (Operand.tmp 148) (Operand.const (Value.bool false)), type := 4, pos := "law.go:133", after := #[{ on := 30, ground := Ground.data }, { on := 33, ground := Ground.data }, { on := 18, ground := Ground.guard }], guard := some (18, false) }) (v := ?_) rfl (by kernel_rfl) (by kernel_rfl) (by kernel_rfl) (fun _ _ _ h => h) (Or.inl ⟨by rfl, ?_⟩) (by assumption) ?_
                    rotate_left
                    · (intro w hSw; (try dsimp only at hSw); (try obtain ⟨hSa, hSb⟩ := hSw); go_simp; try with_reducible rfl)
                    try simp only [Act.put, List.setIfInBounds_toArray, List.set_cons_zero, List.set_cons_succ]
                    refine wpAnyH_take (i := 35) (oi := { dst := some 150, op := Op.pick (Operand.tmp 133) (Operand.const (Value.bool true)) (Operand.tmp 149), type := 4, pos := "law.go:133", after := #[{ on := 18, ground := Ground.data }, { on := 34, ground := Ground.data }, { on := 6, ground := Ground.guard }], guard := some (6, true) }) (v := ?_) rfl (by kernel_rfl) (by kernel_rfl) (by kernel_rfl) (fun _ _ _ h => h) (Or.inl ⟨by rfl, ?_⟩) (by assumption) ?_
                    rotate_left
                    · (intro w hSw; (try dsimp only at hSw); (try obtain ⟨hSa, hSb⟩ := hSw); go_simp; try with_reducible rfl)
                    try simp only [Act.put, List.setIfInBounds_toArray, List.set_cons_zero, List.set_cons_succ]
                    refine wpAnyH_take (i := 36) (oi := { dst := some 151, op := Op.pick (Operand.tmp 121) (Operand.tmp 150) (Operand.const (Value.bool false)), type := 4, pos := "law.go:133", after := #[{ on := 6, ground := Ground.data }, { on := 35, ground := Ground.data }], guard := none }) (v := ?_) rfl (by kernel_rfl) (by kernel_rfl) (by kernel_rfl) (fun _ _ _ h => h) (Or.inl ⟨by rfl, ?_⟩) (by assumption) ?_
                    rotate_left
                    · (intro w hSw; (try dsimp only at hSw); (try obtain ⟨hSa, hSb⟩ := hSw); go_simp; try with_reducible rfl)
                    try simp only [Act.put, List.setIfInBounds_toArray, List.set_cons_zero, List.set_cons_succ]
                    refine wpAnyH_done (by kernel_rfl) ?_ _
                    go_wp2
                    go_roundw
                    case rel => exact ⟨q + 1, by omega, by simp, HOQ.out.drew⟩
                    case measure => simp [intOf]; omega
                · have s1 : (xs == 0) = false := beq_false_of_ne hs
                  clear hle hs
                  go_wp2_with (fail)
                  refine wp_region_held_drew (S := (fun W => (W.cell? ⟨gO, offw + q * 5, none⟩ = some (.int .i64 xs) ∧ W.cell? ⟨gO, offw + q * 5 + 1, none⟩ = some (.int .i64 xw)) ∧ W.cell? ⟨gO, offw + j * 5 + 1, none⟩ = some (.int .i64 yw))) (by kernel_rfl) ?_ (fun hHeld => ?_)
                  · exact ⟨⟨f0, f1⟩, d1⟩
                  refine wpAnyH_take (i := 0) (oi := { dst := some 115, op := Op.move (Operand.tmp 12), type := 41, pos := "law.go:133", after := #[], guard := none }) (v := ?_) rfl (by kernel_rfl) (by kernel_rfl) (by kernel_rfl) (fun _ _ _ h => h) (Or.inl ⟨by rfl, ?_⟩) (by assumption) ?_
                  rotate_left
                  · (intro w hSw; (try dsimp only at hSw); (try obtain ⟨hSa, hSb⟩ := hSw); go_simp; try with_reducible rfl)
                  try simp only [Act.put, List.setIfInBounds_toArray, List.set_cons_zero, List.set_cons_succ]
                  refine wpAnyH_take (i := 1) (oi := { dst := some 116, op := Op.move (Operand.tmp 18), type := 3, pos := "law.go:133", after := #[], guard := none }) (v := ?_) rfl (by kernel_rfl) (by kernel_rfl) (by kernel_rfl) (fun _ _ _ h => h) (Or.inl ⟨by rfl, ?_⟩) (by assumption) ?_
                  rotate_left
                  · (intro w hSw; (try dsimp only at hSw); (try obtain ⟨hSa, hSb⟩ := hSw); go_simp; try with_reducible rfl)
                  try simp only [Act.put, List.setIfInBounds_toArray, List.set_cons_zero, List.set_cons_succ]
                  refine wpAnyH_take (i := 2) (oi := { dst := some 117, op := Op.indexAddr 41 (Operand.tmp 115) (Operand.tmp 116), type := 0, pos := "law.go:133", after := #[{ on := 0, ground := Ground.data }, { on := 1, ground := Ground.data }], guard := none }) (v := ?_) rfl (by kernel_rfl) (by kernel_rfl) (by kernel_rfl) (fun _ _ _ h => h) (Or.inl ⟨by rfl, ?_⟩) (by assumption) ?_
                  rotate_left
                  · (intro w hSw; (try dsimp only at hSw); (try obtain ⟨hSa, hSb⟩ := hSw); go_simp; try with_reducible rfl)
                  try simp only [Act.put, List.setIfInBounds_toArray, List.set_cons_zero, List.set_cons_succ]
                  refine wpAnyH_take (i := 3) (oi := { dst := some 118, op := Op.fieldAddr 43 (Operand.tmp 117) 0, type := 0, pos := "law.go:133", after := #[{ on := 2, ground := Ground.data }], guard := none }) (v := ?_) rfl (by kernel_rfl) (by kernel_rfl) (by kernel_rfl) (fun _ _ _ h => h) (Or.inl ⟨by rfl, ?_⟩) (by assumption) ?_
                  rotate_left
                  · (intro w hSw; (try dsimp only at hSw); (try obtain ⟨hSa, hSb⟩ := hSw); go_simp; try with_reducible rfl)
                  try simp only [Act.put, List.setIfInBounds_toArray, List.set_cons_zero, List.set_cons_succ]
                  refine wpAnyH_take (i := 4) (oi := { dst := some 119, op := Op.load 3 (Operand.tmp 118), type := 3, pos := "law.go:133", after := #[{ on := 3, ground := Ground.data }], guard := none }) (v := ?_) rfl (by kernel_rfl) (by kernel_rfl) (by kernel_rfl) (fun _ _ _ h => h) (Or.inl ⟨by rfl, ?_⟩) (by assumption) ?_
                  rotate_left
                  · (intro w hSw; (try dsimp only at hSw); (try obtain ⟨hSa, hSb⟩ := hSw); go_simp; try with_reducible rfl)
                  try simp only [Act.put, List.setIfInBounds_toArray, List.set_cons_zero, List.set_cons_succ]
                  refine wpAnyH_take (i := 5) (oi := { dst := some 120, op := Op.binOp BinOp.eql 3 (Operand.tmp 119) (Operand.const (Value.int IntKind.i64 0)) 3, type := 4, pos := "law.go:133", after := #[{ on := 4, ground := Ground.data }], guard := none }) (v := ?_) rfl (by kernel_rfl) (by kernel_rfl) (by kernel_rfl) (fun _ _ _ h => h) (Or.inl ⟨by rfl, ?_⟩) (by assumption) ?_
                  rotate_left
                  · (intro w hSw; (try dsimp only at hSw); (try obtain ⟨hSa, hSb⟩ := hSw); go_simp; try with_reducible rfl)
                  try simp only [Act.put, List.setIfInBounds_toArray, List.set_cons_zero, List.set_cons_succ]
                  refine wpAnyH_take (i := 6) (oi := { dst := some 121, op := Op.move (Operand.tmp 120), type := 4, pos := "law.go:133", after := #[{ on := 5, ground := Ground.data }], guard := none }) (v := ?_) rfl (by kernel_rfl) (by kernel_rfl) (by kernel_rfl) (fun _ _ _ h => h) (Or.inl ⟨by rfl, ?_⟩) (by assumption) ?_
                  rotate_left
                  · (intro w hSw; (try dsimp only at hSw); (try obtain ⟨hSa, hSb⟩ := hSw); go_simp; try with_reducible rfl)
                  try simp only [Act.put, List.setIfInBounds_toArray, List.set_cons_zero, List.set_cons_succ]
                  refine wpAnyH_take (i := 7) (oi := { dst := some 122, op := Op.move (Operand.tmp 12), type := 41, pos := "law.go:133", after := #[{ on := 6, ground := Ground.guard }], guard := some (6, true) }) (v := undef) rfl (by kernel_rfl) (by kernel_rfl) (by kernel_rfl) (fun _ _ _ h => h) (Or.inr ⟨by rfl, rfl⟩) (by assumption) ?_
                  try simp only [Act.put, List.setIfInBounds_toArray, List.set_cons_zero, List.set_cons_succ]
                  refine wpAnyH_take (i := 8) (oi := { dst := some 123, op := Op.move (Operand.tmp 18), type := 3, pos := "law.go:133", after := #[{ on := 6, ground := Ground.guard }], guard := some (6, true) }) (v := undef) rfl (by kernel_rfl) (by kernel_rfl) (by kernel_rfl) (fun _ _ _ h => h) (Or.inr ⟨by rfl, rfl⟩) (by assumption) ?_
                  try simp only [Act.put, List.setIfInBounds_toArray, List.set_cons_zero, List.set_cons_succ]
                  refine wpAnyH_take (i := 9) (oi := { dst := some 124, op := Op.indexAddr 41 (Operand.tmp 122) (Operand.tmp 123), type := 0, pos := "law.go:133", after := #[{ on := 7, ground := Ground.data }, { on := 8, ground := Ground.data }, { on := 6, ground := Ground.guard }], guard := some (6, true) }) (v := undef) rfl (by kernel_rfl) (by kernel_rfl) (by kernel_rfl) (fun _ _ _ h => h) (Or.inr ⟨by rfl, rfl⟩) (by assumption) ?_
                  try simp only [Act.put, List.setIfInBounds_toArray, List.set_cons_zero, List.set_cons_succ]
                  refine wpAnyH_take (i := 10) (oi := { dst := some 125, op := Op.fieldAddr 43 (Operand.tmp 124) 1, type := 0, pos := "law.go:133", after := #[{ on := 9, ground := Ground.data }, { on := 6, ground := Ground.guard }], guard := some (6, true) }) (v := undef) rfl (by kernel_rfl) (by kernel_rfl) (by kernel_rfl) (fun _ _ _ h => h) (Or.inr ⟨by rfl, rfl⟩) (by assumption) ?_
                  try simp only [Act.put, List.setIfInBounds_toArray, List.set_cons_zero, List.set_cons_succ]
                  refine wpAnyH_take (i := 11) (oi := { dst := some 126, op := Op.load 3 (Operand.tmp 125), type := 3, pos := "law.go:133", after := #[{ on := 10, ground := Ground.data }, { on := 6, ground := Ground.guard }], guard := some (6, true) }) (v := undef) rfl (by kernel_rfl) (by kernel_rfl) (by kernel_rfl) (fun _ _ _ h => h) (Or.inr ⟨by rfl, rfl⟩) (by assumption) ?_
                  try simp only [Act.put, List.setIfInBounds_toArray, List.set_cons_zero, List.set_cons_succ]
                  refine wpAnyH_take (i := 12) (oi := { dst := some 127, op := Op.move (Operand.tmp 12), type := 41, pos := "law.go:133", after := #[{ on := 6, ground := Ground.guard }], guard := some (6, true) }) (v := undef) rfl (by kernel_rfl) (by kernel_rfl) (by kernel_rfl) (fun _ _ _ h => h) (Or.inr ⟨by rfl, rfl⟩) (by assumption) ?_
                  try simp only [Act.put, List.setIfInBounds_toArray, List.set_cons_zero, List.set_cons_succ]
                  refine wpAnyH_take (i := 13) (oi := { dst := some 128, op := Op.move (Operand.tmp 16), type := 3, pos := "law.go:133", after := #[{ on := 6, ground := Ground.guard }], guard := some (6, true) }) (v := undef) rfl (by kernel_rfl) (by kernel_rfl) (by kernel_rfl) (fun _ _ _ h => h) (Or.inr ⟨by rfl, rfl⟩) (by assumption) ?_
                  try simp only [Act.put, List.setIfInBounds_toArray, List.set_cons_zero, List.set_cons_succ]
                  refine wpAnyH_take (i := 14) (oi := { dst := some 129, op := Op.indexAddr 41 (Operand.tmp 127) (Operand.tmp 128), type := 0, pos := "law.go:133", after := #[{ on := 12, ground := Ground.data }, { on := 13, ground := Ground.data }, { on := 6, ground := Ground.guard }], guard := some (6, true) }) (v := undef) rfl (by kernel_rfl) (by kernel_rfl) (by kernel_rfl) (fun _ _ _ h => h) (Or.inr ⟨by rfl, rfl⟩) (by assumption) ?_
                  try simp only [Act.put, List.setIfInBounds_toArray, List.set_cons_zero, List.set_cons_succ]
                  refine wpAnyH_take (i := 15) (oi := { dst := some 130, op := Op.fieldAddr 43 (Operand.tmp 129) 1, type := 0, pos := "law.go:133", after := #[{ on := 14, ground := Ground.data }, { on := 6, ground := Ground.guard }], guard := some (6, true) }) (v := undef) rfl (by kernel_rfl) (by kernel_rfl) (by kernel_rfl) (fun _ _ _ h => h) (Or.inr ⟨by rfl, rfl⟩) (by assumption) ?_
                  try simp only [Act.put, List.setIfInBounds_toArray, List.set_cons_zero, List.set_cons_succ]
                  refine wpAnyH_take (i := 16) (oi := { dst := some 131, op := Op.load 3 (Operand.tmp 130), type := 3, pos := "law.go:133", after := #[{ on := 15, ground := Ground.data }, { on := 6, ground := Ground.guard }], guard := some (6, true) }) (v := undef) rfl (by kernel_rfl) (by kernel_rfl) (by kernel_rfl) (fun _ _ _ h => h) (Or.inr ⟨by rfl, rfl⟩) (by assumption) ?_
                  try simp only [Act.put, List.setIfInBounds_toArray, List.set_cons_zero, List.set_cons_succ]
                  refine wpAnyH_take (i := 17) (oi := { dst := some 132, op := Op.binOp BinOp.lss 3 (Operand.tmp 126) (Operand.tmp 131) 3, type := 4, pos := "law.go:133", after := #[{ on := 11, ground := Ground.data }, { on := 16, ground := Ground.data }, { on := 6, ground := Ground.guard }], guard := some (6, true) }) (v := undef) rfl (by kernel_rfl) (by kernel_rfl) (by kernel_rfl) (fun _ _ _ h => h) (Or.inr ⟨by rfl, rfl⟩) (by assumption) ?_
                  try simp only [Act.put, List.setIfInBounds_toArray, List.set_cons_zero, List.set_cons_succ]
                  refine wpAnyH_take (i := 18) (oi := { dst := some 133, op := Op.move (Operand.tmp 132), type := 4, pos := "law.go:133", after := #[{ on := 17, ground := Ground.data }, { on := 6, ground := Ground.chain }, { on := 6, ground := Ground.guard }], guard := some (6, true) }) (v := undef) rfl (by kernel_rfl) (by kernel_rfl) (by kernel_rfl) (fun _ _ _ h => h) (Or.inr ⟨by rfl, rfl⟩) (by assumption) ?_
                  try simp only [Act.put, List.setIfInBounds_toArray, List.set_cons_zero, List.set_cons_succ]
                  refine wpAnyH_take (i := 19) (oi := { dst := some 134, op := Op.move (Operand.tmp 12), type := 41, pos := "law.go:133", after := #[{ on := 18, ground := Ground.guard }], guard := some (18, false) }) (v := undef) rfl (by kernel_rfl) (by kernel_rfl) (by kernel_rfl) (fun _ _ _ h => h) (Or.inr ⟨by rfl, rfl⟩) (by assumption) ?_
                  try simp only [Act.put, List.setIfInBounds_toArray, List.set_cons_zero, List.set_cons_succ]
                  refine wpAnyH_take (i := 20) (oi := { dst := some 135, op := Op.move (Operand.tmp 18), type := 3, pos := "law.go:133", after := #[{ on := 18, ground := Ground.guard }], guard := some (18, false) }) (v := undef) rfl (by kernel_rfl) (by kernel_rfl) (by kernel_rfl) (fun _ _ _ h => h) (Or.inr ⟨by rfl, rfl⟩) (by assumption) ?_
                  try simp only [Act.put, List.setIfInBounds_toArray, List.set_cons_zero, List.set_cons_succ]
                  refine wpAnyH_take (i := 21) (oi := { dst := some 136, op := Op.indexAddr 41 (Operand.tmp 134) (Operand.tmp 135), type := 0, pos := "law.go:133", after := #[{ on := 19, ground := Ground.data }, { on := 20, ground := Ground.data }, { on := 18, ground := Ground.guard }], guard := some (18, false) }) (v := undef) rfl (by kernel_rfl) (by kernel_rfl) (by kernel_rfl) (fun _ _ _ h => h) (Or.inr ⟨by rfl, rfl⟩) (by assumption) ?_
                  try simp only [Act.put, List.setIfInBounds_toArray, List.set_cons_zero, List.set_cons_succ]
                  refine wpAnyH_take (i := 22) (oi := { dst := some 137, op := Op.fieldAddr 43 (Operand.tmp 136) 1, type := 0, pos := "law.go:133", after := #[{ on := 21, ground := Ground.data }, { on := 18, ground := Ground.guard }], guard := some (18, false) }) (v := undef) rfl (by kernel_rfl) (by kernel_rfl) (by kernel_rfl) (fun _ _ _ h => h) (Or.inr ⟨by rfl, rfl⟩) (by assumption) ?_
                  try simp only [Act.put, List.setIfInBounds_toArray, List.set_cons_zero, List.set_cons_succ]
                  refine wpAnyH_take (i := 23) (oi := { dst := some 138, op := Op.load 3 (Operand.tmp 137), type := 3, pos := "law.go:133", after := #[{ on := 22, ground := Ground.data }, { on := 18, ground := Ground.guard }], guard := some (18, false) }) (v := undef) rfl (by kernel_rfl) (by kernel_rfl) (by kernel_rfl) (fun _ _ _ h => h) (Or.inr ⟨by rfl, rfl⟩) (by assumption) ?_
                  try simp only [Act.put, List.setIfInBounds_toArray, List.set_cons_zero, List.set_cons_succ]
                  refine wpAnyH_take (i := 24) (oi := { dst := some 139, op := Op.move (Operand.tmp 12), type := 41, pos := "law.go:133", after := #[{ on := 18, ground := Ground.guard }], guard := some (18, false) }) (v := undef) rfl (by kernel_rfl) (by kernel_rfl) (by kernel_rfl) (fun _ _ _ h => h) (Or.inr ⟨by rfl, rfl⟩) (by assumption) ?_
                  try simp only [Act.put, List.setIfInBounds_toArray, List.set_cons_zero, List.set_cons_succ]
                  refine wpAnyH_take (i := 25) (oi := { dst := some 140, op := Op.move (Operand.tmp 16), type := 3, pos := "law.go:133", after := #[{ on := 18, ground := Ground.guard }], guard := some (18, false) }) (v := undef) rfl (by kernel_rfl) (by kernel_rfl) (by kernel_rfl) (fun _ _ _ h => h) (Or.inr ⟨by rfl, rfl⟩) (by assumption) ?_
                  try simp only [Act.put, List.setIfInBounds_toArray, List.set_cons_zero, List.set_cons_succ]
                  refine wpAnyH_take (i := 26) (oi := { dst := some 141, op := Op.indexAddr 41 (Operand.tmp 139) (Operand.tmp 140), type := 0, pos := "law.go:133", after := #[{ on := 24, ground := Ground.data }, { on := 25, ground := Ground.data }, { on := 18, ground := Ground.guard }], guard := some (18, false) }) (v := undef) rfl (by kernel_rfl) (by kernel_rfl) (by kernel_rfl) (fun _ _ _ h => h) (Or.inr ⟨by rfl, rfl⟩) (by assumption) ?_
                  try simp only [Act.put, List.setIfInBounds_toArray, List.set_cons_zero, List.set_cons_succ]
                  refine wpAnyH_take (i := 27) (oi := { dst := some 142, op := Op.fieldAddr 43 (Operand.tmp 141) 1, type := 0, pos := "law.go:133", after := #[{ on := 26, ground := Ground.data }, { on := 18, ground := Ground.guard }], guard := some (18, false) }) (v := undef) rfl (by kernel_rfl) (by kernel_rfl) (by kernel_rfl) (fun _ _ _ h => h) (Or.inr ⟨by rfl, rfl⟩) (by assumption) ?_
                  try simp only [Act.put, List.setIfInBounds_toArray, List.set_cons_zero, List.set_cons_succ]
                  refine wpAnyH_take (i := 28) (oi := { dst := some 143, op := Op.load 3 (Operand.tmp 142), type := 3, pos := "law.go:133", after := #[{ on := 27, ground := Ground.data }, { on := 18, ground := Ground.guard }], guard := some (18, false) }) (v := undef) rfl (by kernel_rfl) (by kernel_rfl) (by kernel_rfl) (fun _ _ _ h => h) (Or.inr ⟨by rfl, rfl⟩) (by assumption) ?_
                  try simp only [Act.put, List.setIfInBounds_toArray, List.set_cons_zero, List.set_cons_succ]
                  refine wpAnyH_take (i := 29) (oi := { dst := some 144, op := Op.binOp BinOp.eql 3 (Operand.tmp 138) (Operand.tmp 143) 3, type := 4, pos := "law.go:133", after := #[{ on := 23, ground := Ground.data }, { on := 28, ground := Ground.data }, { on := 18, ground := Ground.guard }], guard := some (18, false) }) (v := undef) rfl (by kernel_rfl) (by kernel_rfl) (by kernel_rfl) (fun _ _ _ h => h) (Or.inr ⟨by rfl, rfl⟩) (by assumption) ?_
                  try simp only [Act.put, List.setIfInBounds_toArray, List.set_cons_zero, List.set_cons_succ]
                  refine wpAnyH_take (i := 30) (oi := { dst := some 145, op := Op.move (Operand.tmp 144), type := 4, pos := "law.go:133", after := #[{ on := 29, ground := Ground.data }, { on := 18, ground := Ground.chain }, { on := 18, ground := Ground.guard }], guard := some (18, false) }) (v := undef) rfl (by kernel_rfl) (by kernel_rfl) (by kernel_rfl) (fun _ _ _ h => h) (Or.inr ⟨by rfl, rfl⟩) (by assumption) ?_
                  try simp only [Act.put, List.setIfInBounds_toArray, List.set_cons_zero, List.set_cons_succ]
                  refine wpAnyH_take (i := 31) (oi := { dst := some 146, op := Op.move (Operand.tmp 18), type := 3, pos := "law.go:133", after := #[{ on := 30, ground := Ground.guard }], guard := some (30, true) }) (v := undef) rfl (by kernel_rfl) (by kernel_rfl) (by kernel_rfl) (fun _ _ _ h => h) (Or.inr ⟨by rfl, rfl⟩) (by assumption) ?_
                  try simp only [Act.put, List.setIfInBounds_toArray, List.set_cons_zero, List.set_cons_succ]
                  refine wpAnyH_take (i := 32) (oi := { dst := some 147, op := Op.move (Operand.tmp 16), type := 3, pos := "law.go:133", after := #[{ on := 30, ground := Ground.guard }], guard := some (30, true) }) (v := undef) rfl (by kernel_rfl) (by kernel_rfl) (by kernel_rfl) (fun _ _ _ h => h) (Or.inr ⟨by rfl, rfl⟩) (by assumption) ?_
                  try simp only [Act.put, List.setIfInBounds_toArray, List.set_cons_zero, List.set_cons_succ]
                  refine wpAnyH_take (i := 33) (oi := { dst := some 148, op := Op.binOp BinOp.lss 3 (Operand.tmp 146) (Operand.tmp 147) 3, type := 4, pos := "law.go:133", after := #[{ on := 31, ground := Ground.data }, { on := 32, ground := Ground.data }, { on := 30, ground := Ground.guard }], guard := some (30, true) }) (v := undef) rfl (by kernel_rfl) (by kernel_rfl) (by kernel_rfl) (fun _ _ _ h => h) (Or.inr ⟨by rfl, rfl⟩) (by assumption) ?_
                  try simp only [Act.put, List.setIfInBounds_toArray, List.set_cons_zero, List.set_cons_succ]
                  refine wpAnyH_take (i := 34) (oi := { dst := some 149, op := Op.pick (Operand.tmp 145) (Operand.tmp 148) (Operand.const (Value.bool false)), type := 4, pos := "law.go:133", after := #[{ on := 30, ground := Ground.data }, { on := 33, ground := Ground.data }, { on := 18, ground := Ground.guard }], guard := some (18, false) }) (v := undef) rfl (by kernel_rfl) (by kernel_rfl) (by kernel_rfl) (fun _ _ _ h => h) (Or.inr ⟨by rfl, rfl⟩) (by assumption) ?_
                  try simp only [Act.put, List.setIfInBounds_toArray, List.set_cons_zero, List.set_cons_succ]
                  refine wpAnyH_take (i := 35) (oi := { dst := some 150, op := Op.pick (Operand.tmp 133) (Operand.const (Value.bool true)) (Operand.tmp 149), type := 4, pos := "law.go:133", after := #[{ on := 18, ground := Ground.data }, { on := 34, ground := Ground.data }, { on := 6, ground := Ground.guard }], guard := some (6, true) }) (v := undef) rfl (by kernel_rfl) (by kernel_rfl) (by kernel_rfl) (fun _ _ _ h => h) (Or.inr ⟨by rfl, rfl⟩) (by assumption) ?_
                  try simp only [Act.put, List.setIfInBounds_toArray, List.set_cons_zero, List.set_cons_succ]
                  refine wpAnyH_take (i := 36) (oi := { dst := some 151, op := Op.pick (Operand.tmp 121) (Operand.tmp 150) (Operand.const (Value.bool false)), type := 4, pos := "law.go:133", after := #[{ on := 6, ground := Ground.data }, { on := 35, ground := Ground.data }], guard := none }) (v := ?_) rfl (by kernel_rfl) (by kernel_rfl) (by kernel_rfl) (fun _ _ _ h => h) (Or.inl ⟨by rfl, ?_⟩) (by assumption) ?_
                  rotate_left
                  · (intro w hSw; (try dsimp only at hSw); (try obtain ⟨hSa, hSb⟩ := hSw); go_simp; try with_reducible rfl)
                  try simp only [Act.put, List.setIfInBounds_toArray, List.set_cons_zero, List.set_cons_succ]
                  refine wpAnyH_done (by kernel_rfl) ?_ _
                  go_wp2
                  go_roundw
                  case rel => exact ⟨q + 1, by omega, by simp, HOQ.out.drew⟩
                  case measure => simp [intOf]; omega
              case neg =>
                obtain rfl : q = k := by omega
                have q1 : ¬ (q : Int) < q := by omega
                go_wp2
                go_roundw
                case rel => exact ⟨i + 1, l', op', by omega, by omega, by simp, HFIN.out.1.quiet HOQ.out, HFIN.out.2.1, HFIN.out.2.2.1, HFIN.out.2.2.2.1.only HOQ.out id, HFIN.out.2.2.2.2.trans HOQ.out⟩
                case measure => simp [intOf]; omega
end Go.Proofs.Ytlenjgofiocaaaa
