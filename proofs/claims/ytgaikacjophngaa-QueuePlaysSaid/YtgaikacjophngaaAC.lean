/- Queue: the reference's Pop, Put. -/
import Derived.Test.YtgaikacjophngaaAB
namespace Go.Proofs.Ytgaikacjophngaa
open Go.RowKit

def RL.off (x : RL) : RL := { x with gone := true }

theorem rv_set (l : List RL) (m : Nat) (h : m < l.length) : (rv l).set (m * 7 + 6) (.bool true) = rv (l.set m (l[m]).off) := by
  induction l generalizing m with
  | nil => simp at h
  | cons x t ih =>
    cases m with
    | zero =>
      simp only [rv, List.flatMap_cons, Nat.zero_mul, Nat.zero_add, List.set_cons_zero, List.getElem_cons_zero]
      rw [List.set_append_left _ _ (by simp [RL.cells])]
      rfl
    | succ m =>
      have := ih m (by simpa using h)
      simp only [rv, List.flatMap_cons, List.set_cons_succ, List.getElem_cons_succ] at this ⊢
      rw [List.set_append_right _ _ (by simp [RL.cells]; omega), ← this]
      congr 2
      simp [RL.cells]; omega

theorem RowAt.setc {w : World} {A : Option Addr} {n c g : Nat} {e : TypeId} {sz : Nat} {xs : List Value} {off : Nat} (h : RowAt w A n c g e sz xs) (hA : A = some ⟨g, off, none⟩) (j : Nat) (hj : j < xs.length) (v : Value) :
    RowAt (w.setCell ⟨g, off + j, none⟩ v) A n c g e sz (xs.set j v) := by
  rcases h with ⟨h, _⟩ | ⟨off', cells, h1, h2, h3, h4, h5, h6, h7⟩
  · rw [h] at hA; cases hA
  · rw [hA] at h1
    injection h1 with h1
    injection h1 with _ h1 _
    subst h1
    refine .inr ⟨off, cells.setIfInBounds (off + j) v, hA, h2.set _ _, h3, h4, by simpa using h5, by rw [List.length_set, h6], fun i u hu => ?_⟩
    have hlen : xs.length ≤ c * sz := by rw [h6]; exact Nat.mul_le_mul_right _ h3
    by_cases hij : i = j
    · subst hij
      rw [Array.getElem?_setIfInBounds_self_of_lt (by omega)]
      rw [List.getElem?_set_self hj] at hu
      exact hu
    · rw [Array.getElem?_setIfInBounds_ne (by omega)]
      rw [List.getElem?_set_ne (fun e => hij e.symm)] at hu
      exact h7 i u hu

set_option maxRecDepth 100000 in
set_option maxHeartbeats 4000000 in
theorem refPop_at (rb chans : Nat) (A : Option Addr) (cap g : Nat) (rl : List RL) (c : Int) (m : Nat) (w : World) (h : RAt w rb chans A cap g rl) (hm : m < rl.length) (hl : rl.length ≤ 100000) (hit_ : hit c rl[m] = true) (hno : ∀ j (hj : j < rl.length), j < m → hit c rl[j] = false) :
    Calls Try.prog 21 #[.pointer (some ⟨rb, 0, none⟩), .int .i64 c] w fun e w' => ∃ A' c' gp, e = .returned (.tuple #[.agg #[.int .i64 rl[m].s.j.k, .int .i64 rl[m].s.j.l, .int .i64 rl[m].s.j.u, .int .i64 rl[m].s.j.p, .slice A' rl[m].s.j.pos.length c'], .bool true]) ∧
      RowAt w' A' rl[m].s.j.pos.length c' gp 3 1 (iv rl[m].s.j.pos) ∧ A' ≠ none ∧ w.heap.size ≤ gp ∧ RAt w' rb chans A cap g (rl.set m rl[m].off) ∧ Only (fun i => A ≠ none ∧ i = g) w w' := by
  have hR := h.quiet ((Only.refl (fun _ => False) w).alloc (.cells #[.int .i64 0, .int .i64 0, .int .i64 0, .int .i64 0, .slice none 0 0] 31))
  have HLT := Lib.hid (fun i (hi : RS rb A g i ∨ RP rl i) => h.lt hi)
  have HF := Lib.hid (first_at rb chans A cap g rl c m _ hR hm hl hit_ hno)
  have HZ := Lib.hid (At.new w 31 #[.int .i64 0, .int .i64 0, .int .i64 0, .int .i64 0, .slice none 0 0])
  have c1 := hR.st.cell 1
  simp at c1
  obtain ⟨off, hA, d0, d1, d2, d3, d4, d5, d6⟩ := hR.cells hm
  have hgr := hR.g_ne (by rw [hA]; simp)
  have hglt : g < w.heap.size := HLT.out g (.inl (.inr ⟨by rw [hA]; simp, rfl⟩))
  have hrblt : rb < w.heap.size := HLT.out rb (.inl (.inl rfl))
  have f6 : (w.alloc (.cells #[.int .i64 0, .int .i64 0, .int .i64 0, .int .i64 0, .slice none 0 0] 31)).frozen? ⟨g, off + m * 7 + 6, none⟩ = false := by
    rcases hR.row with ⟨h, _⟩ | ⟨_, cells, _, h2, _⟩
    · rw [hA] at h; cases h
    · exact h2.frozen _
  -- behind the store
  have hset := hR.row.setc hA (m * 7 + 6) (by rw [rv_len]; omega) (.bool true)
  rw [rv_set rl m hm] at hset
  have hOs := Only.setCell (S := fun i => i = g) (p := ⟨g, off + (m * 7 + 6), none⟩) (Only.refl _ (w.alloc (.cells #[.int .i64 0, .int .i64 0, .int .i64 0, .int .i64 0, .slice none 0 0] 31))) (fun _ => rfl) (.bool true)
  have hR2 : RAt ((w.alloc (.cells #[.int .i64 0, .int .i64 0, .int .i64 0, .int .i64 0, .slice none 0 0] 31)).setCell ⟨g, off + (m * 7 + 6), none⟩ (.bool true)) rb chans A cap g (rl.set m rl[m].off) := by
    refine ⟨by rw [List.length_set]; exact hR.st.only hOs (Ne.symm hgr), by rw [List.length_set]; exact hset, fun x hx => ?_, hR.hc⟩
    have hx' : ∃ y ∈ rl, x.s = y.s := by
      rcases List.mem_or_eq_of_mem_set hx with hx | rfl
      · exact ⟨x, hx, rfl⟩
      · exact ⟨_, List.getElem_mem hm, rfl⟩
    obtain ⟨y, hy, he⟩ := hx'
    rw [he]
    refine (hR.ok y hy).only hOs (fun hA' e => ?_)
    exact hR.apart ⟨y, hy, hA', rfl⟩ (.inr ⟨by rw [hA]; simp, e⟩)
  rw [← Nat.add_assoc] at hR2 hOs
  have hcomm := World.setCell_alloc_past (w := w) (.cells #[.int .i64 0, .int .i64 0, .int .i64 0, .int .i64 0, .slice none 0 0] 31) g (off + m * 7 + 6) (.bool true) hglt
  rw [hcomm] at hR2 hOs
  have HR2 := Lib.hid hR2
  have HOS := Lib.hid hOs
  have e1 := hR2.st.cell 1
  simp at e1
  obtain ⟨off2, hA2, g0, g1, g2, g3, g4, g5, g6⟩ := hR2.cells (m := m) (by rw [List.length_set]; exact hm)
  have hoo : off2 = off := by rw [hA] at hA2; injection hA2 with h; injection h with _ h _; exact h.symm
  subst hoo
  rw [List.getElem_set_self] at g0 g1 g2 g3 g4 g5 g6
  have hok := hR2.ok _ (List.getElem_mem (by rw [List.length_set]; exact hm : m < (rl.set m rl[m].off).length))
  rw [List.getElem_set_self] at hok
  simp only [RL.off] at g0 g1 g2 g3 g4 g5 g6 hok
  have hset2 : (rl.set m rl[m].off) = (rl.set m rl[m].off) := rfl
  obtain ⟨rl2, hrl2⟩ : ∃ rl2, rl.set m rl[m].off = rl2 := ⟨_, rfl⟩
  rw [hrl2] at HR2 ⊢
  rw [hA] at c1 e1
  have i0 : (0 : Int) ≤ m := by omega
  have i1 : (m : Int) < rl.length := by omega
  have hle2 : rl2.length = rl.length := by rw [← hrl2, List.length_set]
  clear hset2 hrl2 hR2 hset hOs hR
  generalize rl[m] = x at *
  obtain ⟨xc, ⟨⟨jk, jl, ju, jp, pos⟩, Ao, co, go⟩, xg⟩ := x
  simp only at d0 d1 d2 d3 d4 d5 d6 g0 g1 g2 g3 g4 g5 g6 hok ⊢
  have HOw := Lib.hid (refOwn_any jk jl ju jp pos Ao co go _ hok.row.rd hok.len)
  have HAn : Hid (A ≠ none) := Lib.hid (by rw [hA]; simp)
  clear h hno hit_ hA hok hA2 hcomm
  have HZ1 := Lib.hid (At.new' (g := w.heap.size) (w := w.setCell ⟨g, off2 + m * 7 + 6, none⟩ (.bool true)) (by simp [World.setCell]) 31 #[.int .i64 0, .int .i64 0, .int .i64 0, .int .i64 0, .slice none 0 0])
  go_enter Try.func21, Try.ntmps21
  go_wp2_with (fail)
  refine HF.out.mono ?_
  rintro e w1 ⟨rfl, rfl⟩
  go_wp2_with (fail)
  refine HOw.out.mono ?_
  rintro e w2 ⟨A', c', gp, rfl, hr2, hA2, hg2, hO2⟩
  have HRR := Lib.hid hr2
  have HO2 := Lib.hid hO2
  have HZ2 := Lib.hid (HZ1.out.only hO2 id)
  have z0 := HZ2.out.frozen 0
  have y0 := HZ2.out.cell 0
  have z1 := HZ2.out.frozen 1
  have y1 := HZ2.out.cell 1
  have z2 := HZ2.out.frozen 2
  have y2 := HZ2.out.cell 2
  have z3 := HZ2.out.frozen 3
  have y3 := HZ2.out.cell 3
  have z4 := HZ2.out.frozen 4
  have y4 := HZ2.out.cell 4
  simp at y0 y1 y2 y3 y4
  clear hr2 hO2
  go_wp2
  have hk := fun v => only_job w2 w.heap.size jk jl ju jp v
  refine bodyPost_ret (v := .tuple #[.agg #[.int .i64 jk, .int .i64 jl, .int .i64 ju, .int .i64 jp, .slice A' pos.length c'], .bool true])
    (results_row_tmp (p := 4) (u := 5) (ty := 31) rfl _ _ w.heap.size 31 #[.int .i64 jk, .int .i64 jl, .int .i64 ju, .int .i64 jp, .slice A' pos.length c'] (0, 0) _ rfl (((((HZ2.out.set 0 _).set 1 _).set 2 _).set 3 _).set 4 _) Try.underlying31 rfl (by kernel_rfl)) rfl ?_
  have hg2' : w.heap.size + 1 ≤ gp := by
    have e : ((w.setCell ⟨g, off2 + m * 7 + 6, none⟩ (.bool true)).alloc (.cells #[.int .i64 0, .int .i64 0, .int .i64 0, .int .i64 0, .slice none 0 0] 31)).heap.size = w.heap.size + 1 := by simp [World.setCell]
    omega
  have hR3 := HR2.out.quiet HO2.out
  refine ⟨A', c', gp, rfl, HRR.out.only (hk _) (fun _ => by omega), hA2, by omega, hR3.only (hk _) (fun i hi e => ?_) (fun i hi e => ?_), ?_⟩
  · subst e
    rcases hi with hi | ⟨_, hi⟩ <;> omega
  · obtain ⟨cs, hcs⟩ := hR3.tyP hi
    exact hcs.ne HZ2.out (by decide) e
  · exact ((((Only.refl (fun i => A ≠ none ∧ i = g) w).alloc _).trans (HOS.out.mono (fun i _ e => ⟨HAn.out, e⟩))).trans (HO2.out.mono (fun _ _ h => h.elim))).trans' (hk _) (fun i hi e => by omega)

def RPutPost (rb chans : Nat) (A : Option Addr) (g : Nat) (rl : List RL) (ch : Int) (j : Jb) (w : World) (e : Ending) (w' : World) : Prop :=
  ∃ A3 c3 g3 s, e = .returned (.int .i64 0) ∧ RAt w' rb chans A3 c3 g3 (rl ++ [⟨ch, s, false⟩]) ∧ s.j = j ∧ (A ≠ none ∧ g3 = g ∨ w.heap.size ≤ g3) ∧ w.heap.size ≤ s.gp ∧ Only (fun i => i = rb ∨ A ≠ none ∧ i = g) w w'

set_option maxRecDepth 100000 in
set_option maxHeartbeats 4000000 in
theorem refPut_out (rb chans : Nat) (A : Option Addr) (cap g : Nat) (rl : List RL) (n : Int) (hn : n < 0 ∨ chans ≤ n) (v0 v1 v2 v3 v4 : Value) (w : World) (h : RAt w rb chans A cap g rl) :
    Calls Try.prog 20 #[.pointer (some ⟨rb, 0, none⟩), .int .i64 n, .agg #[v0, v1, v2, v3, v4]] w fun e w' => e = .returned (.int .i64 2) ∧ Only (fun _ => False) w w' := by
  have c0 := (h.quiet ((Only.refl (fun _ => False) w).alloc (.cells #[v0, v1, v2, v3, v4] 31))).st.cell 0
  simp at c0
  have h4 := h.hc.2
  clear h
  have hn : n < 0 ∨ (0 ≤ n ∧ (chans : Int) ≤ n) := by omega
  rcases hn with hn | ⟨hn, hn'⟩
  all_goals
    go_enter Try.func20, Try.ntmps20
    go_wp2
    go_ret
    exact ⟨rfl, (Only.refl _ _).alloc _⟩

set_option maxRecDepth 100000 in
set_option maxHeartbeats 4000000 in
theorem refPut_in (rb chans : Nat) (B : Option Addr) (cap g : Nat) (rl : List RL) (ch : Int) (hch : 0 ≤ ch ∧ ch < chans) (k l u p : Int) (pos : List Int) (A : Option Addr) (c gs : Nat) (w : World) (h : RAt w rb chans B cap g rl) (hr : Rd w gs A (iv pos)) (hl : pos.length ≤ 1000000) (hjl : rl.length ≤ 100000) :
    Calls Try.prog 20 #[.pointer (some ⟨rb, 0, none⟩), .int .i64 ch, .agg #[.int .i64 k, .int .i64 l, .int .i64 u, .int .i64 p, .slice A pos.length c]] w (RPutPost rb chans B g rl ch ⟨k, l, u, p, pos⟩ w) := by
  obtain ⟨i0, hi⟩ : ∃ i, Try.prog.info? 57 = some i := ⟨_, rfl⟩
  have hz0 : i0.zero = some (.agg #[.int .i64 0, .int .i64 0, .int .i64 0, .int .i64 0, .int .i64 0, .slice none 0 0, .bool false]) := by cases hi; rfl
  have hz1 : i0.size = 7 := by cases hi; rfl
  have hz2 : i0.bytes = 72 := by cases hi; rfl
  have HI := Lib.hid (And.intro hi (And.intro hz0 (And.intro hz1 hz2)))
  have HLT := Lib.hid (fun i (hi : RS rb B g i ∨ RP rl i) => h.lt hi)
  have hblt : rb < w.heap.size := HLT.out rb (.inl (.inl rfl))
  have hQ1 := h.quiet ((Only.refl _ _).alloc (.cells #[.int .i64 k, .int .i64 l, .int .i64 u, .int .i64 p, .slice A pos.length c] 31))
  have hX := At.new w 31 #[.int .i64 k, .int .i64 l, .int .i64 u, .int .i64 p, .slice A pos.length c]
  have HQ1 := Lib.hid (hQ1.quiet ((Only.refl _ _).drew))
  have HO := Lib.hid (refOwn_any k l u p pos A c gs _ (((hr.only ((Only.refl (fun _ => False) w).alloc (.cells #[.int .i64 k, .int .i64 l, .int .i64 u, .int .i64 p, .slice A pos.length c] 31)) id)).only (S := fun _ => False) ((Only.refl _ _).drew) id) hl)
  have x0 : (w.alloc (.cells #[.int .i64 k, .int .i64 l, .int .i64 u, .int .i64 p, .slice A pos.length c] 31)).cell? ⟨w.heap.size, 0, none⟩ = some (.int .i64 k) := hX.cell 0
  have x1 : (w.alloc (.cells #[.int .i64 k, .int .i64 l, .int .i64 u, .int .i64 p, .slice A pos.length c] 31)).cell? ⟨w.heap.size, 1, none⟩ = some (.int .i64 l) := hX.cell 1
  have x2 : (w.alloc (.cells #[.int .i64 k, .int .i64 l, .int .i64 u, .int .i64 p, .slice A pos.length c] 31)).cell? ⟨w.heap.size, 2, none⟩ = some (.int .i64 u) := hX.cell 2
  have x3 : (w.alloc (.cells #[.int .i64 k, .int .i64 l, .int .i64 u, .int .i64 p, .slice A pos.length c] 31)).cell? ⟨w.heap.size, 3, none⟩ = some (.int .i64 p) := hX.cell 3
  have x4 : (w.alloc (.cells #[.int .i64 k, .int .i64 l, .int .i64 u, .int .i64 p, .slice A pos.length c] 31)).cell? ⟨w.heap.size, 4, none⟩ = some (.slice A pos.length c) := hX.cell 4
  have hc0 : (w.alloc (.cells #[.int .i64 k, .int .i64 l, .int .i64 u, .int .i64 p, .slice A pos.length c] 31)).cell? ⟨rb, 0, none⟩ = some (.int .i64 chans) := hQ1.st.cell 0
  have hc : (w.alloc (.cells #[.int .i64 k, .int .i64 l, .int .i64 u, .int .i64 p, .slice A pos.length c] 31)).cell? ⟨rb, 1, none⟩ = some (.slice B rl.length cap) := hQ1.st.cell 1
  have hjl2 : rl.length + 1 ≤ maxLen := by unfold maxLen; omega
  have h4 := h.hc.2
  obtain ⟨hch1, hch2⟩ := hch
  clear h hQ1 hr hi hz0 hz1 hz2 hX
  go_enter Try.func20, Try.ntmps20
  go_wp2_with (fail)
  go_region_law (first | (refine step_append_row rfl (.tmp 21) (.tmp 26) 53 rfl 57 i0 (.agg #[.int .i64 0, .int .i64 0, .int .i64 0, .int .i64 0, .int .i64 0, .slice none 0 0, .bool false]) 7 72 Try.underlying53 HI.out.1 HI.out.2.1 HI.out.2.2.1 HI.out.2.2.2 rfl (by decide) B rl.length cap g (rv rl) rfl ((HQx.out.quiet ((Only.refl _ _).alloc (.cells #[.int .i64 ch, .int .i64 k, .int .i64 l, .int .i64 u, .int .i64 p, .slice A' pos.length c', .bool false] 57))).row) ⟨wx.heap.size, 0, none⟩ [.int .i64 ch, .int .i64 k, .int .i64 l, .int .i64 u, .int .i64 p, .slice A' pos.length c', .bool false] 1 rfl rfl (fun j u' hj => (At.new wx 57 #[.int .i64 ch, .int .i64 k, .int .i64 l, .int .i64 u, .int .i64 p, .slice A' pos.length c', .bool false]).reads j u' hj) (by simp [Value.oneCell']) hjl2 (by omega) ?_; intro A3 c3 g3 wy hrow3 hO3 hA3; have HR3 := Lib.hid hrow3; have HO3 := Lib.hid hO3; have HA3 := Lib.hid hA3; have hby : ¬ (B ≠ none ∧ rb = g) := (fun h => HQx.out.g_ne h.1 h.2.symm); have hsty := ((HQx.out.quiet ((Only.refl _ _).alloc (.cells #[.int .i64 ch, .int .i64 k, .int .i64 l, .int .i64 u, .int .i64 p, .slice A' pos.length c', .bool false] 57))).st.only hO3 hby); have HSTY := Lib.hid hsty; have fy := hsty.frozen 1; have cy : wy.cell? ⟨rb, 1, none⟩ = some (.slice B rl.length cap) := (hsty.cell 1); clear hrow3 hO3 hA3 hsty hby) | (go_simp; go_at_call 25; refine HO.out.mono ?_; rintro e wx ⟨A', c', gp, rfl, hr2, hA2, hg2, hO2⟩; have hcx : wx.cell? ⟨rb, 1, none⟩ = some (.slice B rl.length cap) := (hO2.cell (p := ⟨rb, 1, none⟩) (by show _ < ((w.alloc (.cells #[.int .i64 k, .int .i64 l, .int .i64 u, .int .i64 p, .slice A pos.length c] 31))).heap.size; simp; omega) id).trans hc; have HO2 := Lib.hid hO2; have HR2 := Lib.hid hr2; have HQx := Lib.hid (HQ1.out.quiet hO2); have hcx2 : (wx.alloc (.cells #[.int .i64 ch, .int .i64 k, .int .i64 l, .int .i64 u, .int .i64 p, .slice A' pos.length c', .bool false] 57)).cell? ⟨rb, 1, none⟩ = some (.slice B rl.length cap) := (HQx.out.quiet ((Only.refl _ _).alloc _)).st.cell 1; have fx := HQx.out.st.frozen 1; clear hr2 hO2; try simp only []))
  go_wp2
  all_goals go_ret
  all_goals
    have hsz : w.heap.size + 1 ≤ wx.heap.size := by have := HO2.out.size; have e : (w.alloc (.cells #[.int .i64 k, .int .i64 l, .int .i64 u, .int .i64 p, .slice A pos.length c] 31)).drew.heap.size = w.heap.size + 1 := (by show ((w.alloc (.cells #[.int .i64 k, .int .i64 l, .int .i64 u, .int .i64 p, .slice A pos.length c] 31))).heap.size = _; simp); omega
    have hgp : w.heap.size + 1 ≤ gp := by have e : (w.alloc (.cells #[.int .i64 k, .int .i64 l, .int .i64 u, .int .i64 p, .slice A pos.length c] 31)).drew.heap.size = w.heap.size + 1 := (by show ((w.alloc (.cells #[.int .i64 k, .int .i64 l, .int .i64 u, .int .i64 p, .slice A pos.length c] 31))).heap.size = _; simp); omega
    have hQX := HQx.out.quiet ((Only.refl _ _).alloc (.cells #[.int .i64 ch, .int .i64 k, .int .i64 l, .int .i64 u, .int .i64 p, .slice A' pos.length c', .bool false] 57))
    have hOX : Only (fun i => i = rb ∨ B ≠ none ∧ i = g) _ wy := HO3.out.mono (fun i _ h => Or.inr h)
    have hOF := Only.setCell (p := ⟨rb, 1, none⟩) hOX (fun _ => Or.inl rfl) (.slice A3 (rl.length + 1) c3)
    have hOb := Only.setCell (S := fun i => i = rb) (p := ⟨rb, 1, none⟩) (Only.refl _ wy) (fun _ => rfl) (.slice A3 (rl.length + 1) c3)
    have hnS : ∀ i, w.heap.size ≤ i → ¬ (i = rb ∨ B ≠ none ∧ i = g) := by
      rintro i hi (h | ⟨h1, h2⟩)
      · omega
      · have := HLT.out i (.inl (.inr ⟨h1, h2⟩)); omega
    have hg3b : g3 ≠ rb := by
      rcases HA3.out.2 with ⟨h1, h2⟩ | h2
      · rw [h2]; exact hQX.g_ne h1
      · simp at h2; omega
    refine ⟨A3, c3, g3, ⟨⟨k, l, u, p, pos⟩, A', c', gp⟩, rfl, ⟨?_, ?_, ?_, hQX.hc⟩, rfl, ?_, by simp only; omega, ?_⟩
    · rw [List.length_append]
      exact HSTY.out.set 1 _
    · rw [List.length_append, rv_append, rv_one]
      exact HR3.out.only hOb (fun _ => hg3b)
    · intro x hx
      rcases List.mem_append.1 hx with hx | hx
      · exact (hQX.ok x hx).only hOF (fun hA h => hQX.apart ⟨x, hx, hA, rfl⟩ h)
      · simp at hx
        subst hx
        exact ⟨(HR2.out.only ((Only.refl (fun _ => False) _).alloc _) (fun _ => id)).only hOF (fun _ => hnS _ (by omega)), hl⟩
    · rcases HA3.out.2 with h | h
      · exact Or.inl h
      · right; simp at h; omega
    · exact (((((Only.refl (fun _ => False) w).alloc _).drew).trans (HO2.out.trans ((Only.refl _ _).alloc _))).mono (fun i _ h => h.elim)).trans hOF
end Go.Proofs.Ytgaikacjophngaa
