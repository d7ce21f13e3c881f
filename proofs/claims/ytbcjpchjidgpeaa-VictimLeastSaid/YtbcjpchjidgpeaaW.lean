/- Victim: Order. -/
import Derived.Test.YtbcjpchjidgpeaaU
namespace Go.Proofs.Ytbcjpchjidgpeaa
open Go.RowKit

/-- The lines that may be moved, as they stand. -/
def mayL (l : List Ln) : Nat → List Nat
  | 0 => []
  | k + 1 => if (gl l k).may = true then mayL l k ++ [k] else mayL l k
theorem mem_mayL (l : List Ln) (e k : Nat) : e ∈ mayL l k ↔ e < k ∧ (gl l e).may = true := by
  induction k with
  | zero => simp [mayL]
  | succ k ih =>
    simp only [mayL]
    split
    · rename_i h
      simp only [List.mem_append, ih, List.mem_singleton]
      constructor
      · rintro (⟨h1, h2⟩ | h1)
        · exact ⟨by omega, h2⟩
        · subst h1; exact ⟨by omega, h⟩
      · rintro ⟨h1, h2⟩
        by_cases he : e = k
        · exact .inr he
        · exact .inl ⟨by omega, h2⟩
    · rename_i h
      rw [ih]
      constructor
      · rintro ⟨h1, h2⟩; exact ⟨by omega, h2⟩
      · rintro ⟨h1, h2⟩
        by_cases he : e = k
        · subst he; exact absurd h2 h
        · exact ⟨by omega, h2⟩
theorem mayL_le (l : List Ln) (k : Nat) : (mayL l k).length ≤ k := by
  induction k with
  | zero => simp [mayL]
  | succ k ih =>
    simp only [mayL]
    split
    · simp; omega
    · omega
theorem ix_app (d : List Nat) (z p : Nat) : ix (d ++ [z]) p = if p = d.length then z else ix d p := by
  simp only [ix, List.getD]
  by_cases h : p = d.length
  · subst h; simp
  · rw [if_neg h]
    by_cases h' : p < d.length
    · rw [List.getElem?_append_left h']
    · rw [List.getElem?_eq_none (by simp; omega), List.getElem?_eq_none (by omega)]
theorem ix_mem (d : List Nat) (p : Nat) (h : p < d.length) : ix d p ∈ d := by
  simp only [ix, List.getD, List.getElem?_eq_getElem h, Option.getD_some]
  exact List.getElem_mem _
theorem mayL_asc (l : List Ln) (k : Nat) : Asc (mayL l k) 0 (mayL l k).length := by
  induction k with
  | zero => intro p q _ _ h; simp [mayL] at h
  | succ k ih =>
    simp only [mayL]
    split
    · intro p q _ h1 h2
      rw [List.length_append, List.length_singleton] at h2
      rw [ix_app, ix_app]
      by_cases hq : q = (mayL l k).length
      · rw [if_pos hq, if_neg (by omega)]
        exact ((mem_mayL l _ k).1 (ix_mem _ p (by omega))).1
      · rw [if_neg hq, if_neg (by omega)]
        exact ih p q (by omega) h1 (by omega)
    · exact ih
theorem mayL_bd (l : List Ln) (k : Nat) (hk : k ≤ l.length) : Bd l (mayL l k) := fun e he => by have := ((mem_mayL l e k).1 he).1; omega
theorem nv_app (d : List Nat) (z : Nat) : nv (d ++ [z]) = nv d ++ [.int .i64 (z : Int)] := by simp [nv]

def OrdP (l : List Ln) (w : World) (e : Ending) (w' : World) : Prop :=
  ∃ (A : Option Addr) (c g : Nat) (d : List Nat), e = .returned (.slice A d.length c) ∧ RowAt w' A d.length c g 3 1 (nv d) ∧ d.Perm (mayL l l.length) ∧ So l d 0 d.length ∧ Only (fun _ => False) w w'

theorem At.reads {w : World} {g : Nat} {t : TypeId} {cs : Array Value} (h : At w g t cs) (j : Nat) (u : Value) (hj : cs.toList[j]? = some u) : w.cell? ((⟨g, 0, none⟩ : Addr).add j) = some u := by
  have e : w.cell? ⟨g, j, none⟩ = some u := by rw [h.cell]; simpa using hj
  unfold Addr.add
  split
  · subst j; exact e
  · simpa using e

set_option maxRecDepth 100000 in
set_option maxHeartbeats 8000000 in
theorem order_any (gA0 cA : Nat) (Al : Option Addr) (l : List Ln) (w : World) (hlen : l.length ≤ 1000) (hr0 : Rd w gA0 Al (lv l)) :
    Calls Try.prog 15 #[.slice Al l.length cA] w (OrdP l w) := by
  obtain ⟨gA, hgA, hr⟩ : ∃ gA, gA ≤ w.heap.size ∧ Rd w gA Al (lv l) := by
    rcases hr0 with h | ⟨off, h1, h2, h3⟩
    · exact ⟨w.heap.size, Nat.le_refl _, .inl h⟩
    · exact ⟨gA0, by omega, .inr ⟨off, h1, h2, h3⟩⟩
  clear hr0
  obtain ⟨i0, hi⟩ : ∃ i, Try.prog.info? 3 = some i := ⟨_, rfl⟩
  have hz0 : i0.zero = some (.int .i64 0) := by cases hi; rfl
  have hz1 : i0.size = 1 := by cases hi; rfl
  have hz2 : i0.bytes = 8 := by cases hi; rfl
  have HI := Lib.hid (And.intro hi (And.intro hz0 (And.intro hz1 hz2)))
  have HR := Lib.hid hr
  have HX := Lib.hid (At.new w 22 #[.slice Al l.length cA])
  have HO1 := Lib.hid ((Only.refl (fun _ => False) w).alloc (.cells #[.slice Al l.length cA] 22))
  have hs1 : (w.alloc (.cells #[.slice Al l.length cA] 22)).heap.size = w.heap.size + 1 := by simp
  have HGA := Lib.hid hgA
  have hx0 : (w.alloc (.cells #[.slice Al l.length cA] 22)).cell? ⟨w.heap.size, 0, none⟩ = some (.slice Al l.length cA) := HX.out.cell 0
  obtain ⟨n, hn⟩ : ∃ n, l.length = n := ⟨_, rfl⟩
  have HN := Lib.hid hn
  rw [hn] at hlen HX HO1 hs1 hx0 ⊢
  clear hi hz0 hz1 hz2 hr hn hgA
  unfold OrdP
  go_enter Try.func15, Try.ntmps15
  go_wp2_with (fail)
  go_loopw [3, 4, 5, 8] (fun v3 v4 v5 v8 wr => ∃ (i : Nat) (A : Option Addr) (c g : Nat), i ≤ n ∧ v8 = .int .i64 i ∧ v3 = .slice A (mayL l i).length c ∧ RowAt wr A (mayL l i).length c g 3 1 (nv (mayL l i)) ∧ (A ≠ none → w.heap.size < g) ∧ At wr w.heap.size 22 #[.slice Al n cA] ∧ Only (fun _ => False) w wr) (fun _ _ _ v8 _ => (n - intOf v8).toNat)
  case atStart => exact ⟨0, none, 0, 0, by omega, rfl, rfl, .inl ⟨rfl, rfl, rfl, rfl⟩, fun h => absurd rfl h, HX.out, HO1.out⟩
  case round =>
    obtain ⟨i, A, c, g, hi, rfl, rfl, hrow, hg, hx, hO⟩ := hrel
    have HROW := Lib.hid hrow
    have HG := Lib.hid hg
    have HXR := Lib.hid hx
    have HO := Lib.hid hO
    clear hrow hg hx hO hx0
    by_cases hin : i < n
    · have i1 : (i : Int) < n := by omega
      have i2 : (0 : Int) ≤ i := by omega
      have hil : i < l.length := by rw [HN.out]; exact hin
      obtain ⟨off, rfl, hgl, hc⟩ := (HR.out.only HO.out id).at (by intro e; have := lv_length l; rw [e] at this; simp at this; omega)
      obtain ⟨x0, x1, x2, x3, x4⟩ := LnAt.of hc i hil
      rw [gl_eq l i hil] at x0 x1 x2 x3 x4
      have hm1 : mayL l (i + 1) = if (gl l i).may = true then mayL l i ++ [i] else mayL l i := rfl
      generalize gl l i = y at *
      have HM := Lib.hid hm1
      clear hm1 hgl
      clear hc
      have ob := (Only.refl (fun _ => False) wr).alloc (.cells #[.int .i64 y.st, .int .i64 y.we, .int .i64 y.go, .int .i64 y.va, .int .i64 y.ro] 33)
      have HY := Lib.hid (At.new wr 33 #[.int .i64 y.st, .int .i64 y.we, .int .i64 y.go, .int .i64 y.va, .int .i64 y.ro])
      have HOB := Lib.hid ob
      have y0 := HY.out.cell 0
      have y1 := HY.out.cell 1
      have y2 := HY.out.cell 2
      have y3 := HY.out.cell 3
      have y4 := HY.out.cell 4
      simp only [List.getElem?_toArray, List.getElem?_cons_zero, List.getElem?_cons_succ] at y0 y1 y2 y3 y4
      have HMAY := Lib.hid (may_any y)
      unfold Ln.val at HMAY
      clear ob
      go_wp2_with (fail)
      refine (HMAY.out _).mono ?_
      rintro e w1 ⟨rfl, hO1⟩
      have HOW := Lib.hid (HO.out.trans (HOB.out.trans hO1))
      have HXW := Lib.hid (HXR.out.only (HOB.out.trans hO1) id)
      have HRW := Lib.hid (HROW.out.only (HOB.out.trans hO1) (fun _ => id))
      clear hO1 HOB HXR HROW HO y0 y1 y2 y3 y4 x0 x1 x2 x3 x4
      by_cases hy : y.may = true
      · have HM2 : Hid (mayL l (i + 1) = mayL l i ++ [i]) := Lib.hid (by rw [HM.out, if_pos hy])
        have hml := mayL_le l i
        rw [hy]
        have HN2 := Lib.hid (At.new w1 3 #[.int .i64 (i : Int)])
        have HOA := Lib.hid ((Only.refl (fun _ => False) w1).alloc (.cells #[.int .i64 (i : Int)] 3))
        have HRW2 := Lib.hid (HRW.out.only HOA.out (fun _ => id))
        have HXW2 := Lib.hid (HXW.out.only HOA.out id)
        have HOW2 := Lib.hid (HOW.out.trans HOA.out)
        clear hy HM HRW HXW HOW
        obtain ⟨q, hq⟩ : ∃ q, mayL l i = q := ⟨_, rfl⟩
        rw [hq] at HM2 hml HRW2 ⊢
        have HQ := Lib.hid hq
        clear hq
        go_wp2_with (at_builtin; go_loud (refine wpList_append_row _ rfl (.tmp 15) (.tmp 17) 30 rfl 3 i0 (.int .i64 0) 1 8 Try.underlying30 HI.out.1 HI.out.2.1 HI.out.2.2.1 HI.out.2.2.2 rfl (by decide) A q.length c g (nv q) rfl HRW2.out ⟨w1.heap.size, 0, none⟩ [.int .i64 i] 1 rfl rfl (fun j u hj => HN2.out.reads j u hj) (by simp [Value.oneCell']) (by unfold maxLen; omega) (by omega) ?_); intro A3 c3 g3 w3 hrow3 hO3 hA3; have HROW3 := Lib.hid hrow3; have HO3 := Lib.hid hO3; have HA3 := Lib.hid hA3; clear hrow3 hO3 hA3)
        go_roundw
        case rel =>
          have hsz := HOW2.out.size
          have hlt := HXW2.out.lt
          refine ⟨i + 1, A3, c3, g3, by omega, by simp, by rw [HM2.out]; simp, ?_, fun _ => ?_, HXW2.out.only HO3.out (fun e => by have := HG.out e.1; omega), HOW2.out.trans' HO3.out (fun j hj e => by have := HG.out e.1; omega)⟩
          · rw [HM2.out, List.length_append, nv_app]
            exact HROW3.out
          · rcases HA3.out.2 with ⟨q1, q2⟩ | q2
            · rw [q2]; exact HG.out q1
            · omega
        case measure => simp [intOf]; omega
      · have hy' : y.may = false := by simpa using hy
        have HM2 : Hid (mayL l (i + 1) = mayL l i) := Lib.hid (by rw [HM.out, if_neg hy])
        rw [hy']
        clear hy hy' HM
        go_wp2
        go_roundw
        case rel => exact ⟨i + 1, A, c, g, by omega, by simp, by rw [HM2.out], by rw [HM2.out]; exact HRW.out, HG.out, HXW.out, HOW.out⟩
        case measure => simp [intOf]; omega
    · obtain rfl : i = n := by omega
      have i1 : decide ((i : Int) < i) = false := by simp
      have hml := mayL_le l i
      obtain ⟨g', hg1, hg2, hrow⟩ : ∃ g', w.heap.size < g' ∧ gA ≠ g' ∧ RowAt wr A (mayL l i).length c g' 3 1 (nv (mayL l i)) := by
        by_cases hA : A = none
        · subst hA
          rcases HROW.out with h | ⟨_, _, h, _⟩
          · exact ⟨w.heap.size + 1, by omega, by have := HGA.out; omega, .inl h⟩
          · cases h
        · exact ⟨g, HG.out hA, by have h1 := HG.out hA; have h2 := HGA.out; omega, HROW.out⟩
      have hC : Cmp l w.heap.size g' wr := cmp_of (A := Al) (c := cA) (by rw [HN.out]; exact HXR.out) (HR.out.only HO.out id) (by rw [HN.out]; omega) (by omega) hg2
      have HS := Lib.hid (sort_any l w.heap.size A c g' (mayL l i) _ rfl wr hrow hC (mayL_bd l i (by rw [HN.out]; exact Nat.le_refl _)) (mayL_asc l i) (by omega))
      have HG1 := Lib.hid hg1
      clear hrow hC hg1 hg2
      go_wp2_with (fail)
      refine HS.out.mono ?_
      rintro e2 w1 ⟨d', rfl, hf, ho, hr1, hO1⟩
      have HF := Lib.hid (And.intro hf.perm (And.intro ho (And.intro hr1 (HO.out.trans' hO1 (S := fun _ => False) (fun j hj e => by have := HG1.out; omega)))))
      clear hf ho hr1 hO1
      go_wp2
      go_ret
      have hdl := HF.out.1.length_eq
      refine ⟨A, c, g', d', by rw [hdl]; rfl, by rw [hdl]; exact HF.out.2.2.1, by rw [HN.out]; exact HF.out.1, by rw [hdl]; exact HF.out.2.1, HF.out.2.2.2⟩
end Go.Proofs.Ytbcjpchjidgpeaa
