/- Lines: New. -/
import Derived.Test.YtjobaplioidogaaGreatI
import Derived.Laws.ResultCell
import Derived.Deep.AppendLies
namespace Go.Proofs.YtjobaplioidogaaGreat
open Go.RowKit

def iv (xs : List Int) : List Value := xs.map (Value.int .i64)
def okTo (good wear : List Int) (u : Int) (k : Nat) : Prop := ∀ i, i < k → 0 ≤ good.getD i 0 ∧ good.getD i 0 ≤ u ∧ 0 ≤ wear.getD i 0 ∧ wear.getD i 0 ≤ 2147483647
theorem okTo_up {good wear : List Int} {u : Int} {k : Nat} (h : okTo good wear u k) (h' : 0 ≤ good.getD k 0 ∧ good.getD k 0 ≤ u ∧ 0 ≤ wear.getD k 0 ∧ wear.getD k 0 ≤ 2147483647) : okTo good wear u (k + 1) := fun i hi => by
  rcases Nat.lt_or_ge i k with h1 | h1
  · exact h i h1
  · obtain rfl : i = k := by omega
    exact h'
def newOk (G : Ge) (good wear : List Int) : Prop := G.ok = true ∧ (good.length : Int) = G.b ∧ (wear.length : Int) = G.b ∧ okTo good wear G.u good.length
def newL (good wear : List Int) : Nat → List Ln
  | 0 => []
  | k + 1 => newL good wear k ++ [⟨un (good.getD k 0), wear.getD k 0, good.getD k 0⟩]
theorem newL_len (good wear : List Int) : ∀ k, (newL good wear k).length = k
  | 0 => rfl
  | k + 1 => by simp [newL, newL_len good wear k]
theorem lcs_app (G : Ge) (l : List Ln) (x : Ln) : lcs G (l ++ [x]) = lcs G l ++ x.cells G := by simp [lcs]
def NewP (G : Ge) (good wear : List Int) (w : World) (e : Ending) (w' : World) : Prop :=
  (newOk G good wear ∧ ∃ b off c gb, e = .returned (.tuple #[.pointer (some ⟨b, 0, none⟩), .int .i64 0]) ∧ LAt w' b G (newL good wear good.length) off c gb (-1) ∧ w.heap.size ≤ b ∧ w.heap.size ≤ gb ∧ Only (fun _ => False) w w') ∨
  (¬ newOk G good wear ∧ e = .returned (.tuple #[.pointer none, .int .i64 1]) ∧ Only (fun _ => False) w w')

theorem run_append_row {P : Program} (w : World) (t ty : TypeId)
    (e : TypeId) (i : TypeInfo) (z : Value) (size bytes : Nat) (h1 : P.underlying t = some (.slice e)) (h2 : P.info? e = some i) (h3 : i.zero = some z) (h4 : i.size = size) (h5 : i.bytes = bytes) (h6 : z.cells.size = size) (h7 : 0 < size)
    (A : Option Addr) (n c g : Nat) (xs : List Value) (hrow : RowAt w A n c g e size xs)
    (ad : Addr) (news : List Value) (cn : Nat) (hn : news.length = size) (hc : ∀ j u, news[j]? = some u → w.cell? (ad.add j) = some u) (h1c : ∀ u ∈ news, u.oneCell' = true)
    (b1 : n + 1 ≤ maxLen) (b2 : (n + 1) * bytes ≤ 140737488355328) :
    ∃ A' c' g' w', (Builtin.append_ #[t, t] ty #[.slice A n c, .slice (some ad) 1 cn]).run P w = .ok (.slice A' (n + 1) c') w' ∧ RowAt w' A' (n + 1) c' g' e size (xs ++ news) ∧ Only (fun i => A ≠ none ∧ i = g) w w' ∧ (A' ≠ none ∧ (A ≠ none ∧ g' = g ∨ w.heap.size ≤ g')) := by
  have hgrow : ∀ v' w', (Builtin.append_ #[t, t] ty #[.slice A n c, .slice (some ad) 1 cn]).run P w = .ok v' w' → w'.ownsRow w.heap.size e size v' (n + 1) (xs ++ news) → w.grownBy w' none →
      ∃ A' c' g' w', (Builtin.append_ #[t, t] ty #[.slice A n c, .slice (some ad) 1 cn]).run P w = .ok (.slice A' (n + 1) c') w' ∧ RowAt w' A' (n + 1) c' g' e size (xs ++ news) ∧ Only (fun i => A ≠ none ∧ i = g) w w' ∧ (A' ≠ none ∧ (A ≠ none ∧ g' = g ∨ w.heap.size ≤ g')) := by
    intro v' w' r0 r1 r2
    obtain ⟨A', c', rfl, hle⟩ := ownsRow_form r1
    obtain ⟨g', hb, hr⟩ := ownsRow_rowAt r1
    have hA : A' ≠ none := by
      rintro rfl
      rcases hr with ⟨_, h0, _⟩ | ⟨_, _, h0, _⟩
      · omega
      · cases h0
    exact ⟨A', c', g', w', r0, hr, (Only.of_grown r2).mono (fun i _ hi => by cases hi), hA, .inr (hb hA)⟩
  rcases hrow with ⟨rfl, rfl, rfl, rfl⟩ | ⟨off, cells, rfl, k2, k3, k4, k5, k6, k7⟩
  · obtain ⟨v', w', hrun, r1, r2, _⟩ := run_append_own_at (P := P) w w.heap.size t ty e i z size bytes h1 h2 h3 h4 h5 h6 h7 (.slice none 0 0) 0 [] (World.ownsRow_nil w _ e size) ad 1 cn news (by simpa using hn) hc h1c (by omega) b2 (Nat.le_refl _)
    exact hgrow v' w' hrun r1 r2
  · by_cases hh : n + 1 ≤ c
    · have hcc : off + n * size + news.length ≤ cells.size := by
        have : (n + 1) * size ≤ c * size := Nat.mul_le_mul_right _ hh
        rw [Nat.add_mul] at this
        omega
      have hf : ∀ j, j < news.length → (w.cell? ⟨g, off + n * size + j, none⟩).isSome = true := by
        intro j hj
        rw [k2.cell, Array.getElem?_eq_getElem (by omega)]; rfl
      have hrun := run_append_room_cells (P := P) w t ty e i h1 h2 g off n c ad 1 cn news (by rw [h4]; simpa using hn) hc h1c hh (by rw [h4]; exact hf) (fun j hj => k2.frozen _)
      rw [h4] at hrun
      obtain ⟨cells', q1, q2, q3, q4⟩ := at_setCells news (off + n * size) w cells k2 hcc
      refine ⟨some ⟨g, off, none⟩, c, g, _, hrun, .inr ⟨off, cells', rfl, q1, hh, k4, by omega, by rw [List.length_append, k6, hn, Nat.add_mul, Nat.one_mul], fun j u hu => ?_⟩, only_setCells news _ w w (Only.refl _ w) ⟨by simp, rfl⟩, by simp, .inl ⟨by simp, rfl⟩⟩
      by_cases hj : j < xs.length
      · rw [List.getElem?_append_left hj] at hu
        rw [q4 _ (by omega)]; exact k7 j u hu
      · rw [List.getElem?_append_right (by omega)] at hu
        have := q3 _ u hu
        rw [← this]; congr 1; omega
    · obtain ⟨v', w', hrun, r1, r2⟩ := run_append_arg_grows (P := P) w t ty e i z size bytes h1 h2 h3 h4 h5 h6 h7 ⟨g, off, none⟩ n c xs k6 (fun j u hj => by rw [Addr.add_lit]; exact (k2.cell _).trans (k7 j u hj)) ad 1 cn news (by simpa using hn) hc (by omega) (by omega) b2
      exact hgrow v' w' hrun r1 r2

theorem iv_get (xs : List Int) (k : Nat) (h : k < xs.length) : (iv xs)[k]? = some (.int .i64 (xs.getD k 0)) := by simp [iv, List.getD, h]
theorem iv_ne {xs : List Int} (h : 1 ≤ xs.length) : iv xs ≠ [] := fun e => by cases xs with | nil => simp at h | cons => cases e
theorem At.reads {w : World} {g : Nat} {t : TypeId} {cs : Array Value} (h : At w g t cs) (j : Nat) (u : Value) (hj : cs.toList[j]? = some u) : w.cell? ((⟨g, 0, none⟩ : Addr).add j) = some u := by
  have e : w.cell? ⟨g, j, none⟩ = some u := by rw [h.cell]; simpa using hj
  unfold Addr.add
  split
  · subst j; exact e
  · simpa using e
theorem step_append_row {P : Program} {ops : Array Oper} {o : Oper} {a : Act} {w : World} {K : Act → World → Prop} {Q : Exit → Act → World → Prop} {E : Prop} (hgd : o.guard = none) (s x : Operand) (t : TypeId)
    (ho : o.op = Op.call { callee := Callee.builtin Builtin.append, args := #[s, x], argTypes := #[t, t] })
    (e : TypeId) (i : TypeInfo) (z : Value) (size bytes : Nat) (h1 : P.underlying t = some (.slice e)) (h2 : P.info? e = some i) (h3 : i.zero = some z) (h4 : i.size = size) (h5 : i.bytes = bytes) (h6 : z.cells.size = size) (h7 : 0 < size)
    (A : Option Addr) (n c g : Nat) (xs : List Value) (hs : a.eval s = .slice A n c) (hrow : RowAt w A n c g e size xs)
    (ad : Addr) (news : List Value) (cn : Nat) (hx : a.eval x = .slice (some ad) 1 cn) (hn : news.length = size) (hc : ∀ j u, news[j]? = some u → w.cell? (ad.add j) = some u) (h1c : ∀ u ∈ news, u.oneCell' = true)
    (b1 : n + 1 ≤ maxLen) (b2 : (n + 1) * bytes ≤ 140737488355328)
    (h : ∀ A' c' g' w', RowAt w' A' (n + 1) c' g' e size (xs ++ news) → Only (fun i => A ≠ none ∧ i = g) w w' → (A' ≠ none ∧ (A ≠ none ∧ g' = g ∨ w.heap.size ≤ g')) → K (a.put o.dst (.slice A' (n + 1) c')) w') :
    if Region.wanted o (yielded ops a.tmps) = true then Oper.wp P o a w K Q else E := by
  have hw : Region.wanted o (yielded ops a.tmps) = true := by simp [Region.wanted, hgd]
  rw [if_pos hw]
  obtain ⟨A', c', g', w', hrun, r1, r2, r3⟩ := run_append_row (P := P) w t o.type e i z size bytes h1 h2 h3 h4 h5 h6 h7 A n c g xs hrow ad news cn hn hc h1c b1 b2
  unfold Oper.wp execOp
  simp only [ho, resolve, invoke, builtin, Sem.run_bind, Sem.run_pure, Result.andThen_ok, List.map_toArray, List.map_cons, List.map_nil, hs, hx, hrun]
  exact h A' c' g' w' r1 r2 r3

set_option maxRecDepth 100000 in
set_option maxHeartbeats 8000000 in
theorem new_any (G : Ge) (hw : G.Wf) (good wear : List Int) (Ag Aw : Option Addr) (cg cw gg gw : Nat) (w : World) (hg : Rd w gg Ag (iv good)) (hwr : Rd w gw Aw (iv wear)) :
    Calls Tryz.prog 57 #[G.val, .slice Ag good.length cg, .slice Aw wear.length cw] w (NewP G good wear w) := by
  have HR := Lib.hid (right_any G hw (w.alloc (.cells #[.int .i64 G.c, .int .i64 G.l, .int .i64 G.b, .int .i64 G.p, .int .i64 G.s] 23)))
  have HB0 := Lib.hid (At.new w 23 #[.int .i64 G.c, .int .i64 G.l, .int .i64 G.b, .int .i64 G.p, .int .i64 G.s])
  have HO0 := Lib.hid ((Only.refl (fun _ => False) w).alloc (.cells #[.int .i64 G.c, .int .i64 G.l, .int .i64 G.b, .int .i64 G.p, .int .i64 G.s] 23))
  have hs0 : (w.alloc (.cells #[.int .i64 G.c, .int .i64 G.l, .int .i64 G.b, .int .i64 G.p, .int .i64 G.s] 23)).heap.size = w.heap.size + 1 := by simp
  unfold Ge.val at HR ⊢
  by_cases hok : G.ok = true
  case neg =>
    have hokf : G.ok = false := by simpa using hok
    have HN : Hid (¬ newOk G good wear) := Lib.hid (fun h => hok h.1)
    rw [hokf] at HR
    clear hw hg hwr hok hokf
    go_enter Tryz.func57, Tryz.ntmps57
    go_wp2_with (fail)
    refine HR.out.mono ?_
    rintro e w1 ⟨rfl, hO⟩
    have HO := Lib.hid (HO0.out.trans hO)
    clear hO
    go_wp2
    go_ret2
    exact .inr ⟨HN.out, rfl, HO.out⟩
  rw [hok] at HR
  by_cases hlg : (good.length : Int) = G.b
  case neg =>
    have HN : Hid (¬ newOk G good wear) := Lib.hid (fun h => hlg h.2.1)
    have tb : ((good.length : Int) != G.b) = true := by simp [hlg]
    clear hw hg hwr hok hlg
    go_enter Tryz.func57, Tryz.ntmps57
    go_wp2_with (fail)
    refine HR.out.mono ?_
    rintro e w1 ⟨rfl, hO⟩
    have hb1 := (HB0.out.only hO id).cell 2
    simp only [List.getElem?_toArray, List.getElem?_cons_zero, List.getElem?_cons_succ] at hb1
    have HO := Lib.hid (HO0.out.trans hO)
    clear hO
    go_wp2
    go_ret2
    exact .inr ⟨HN.out, rfl, HO.out⟩
  have tb : ((good.length : Int) != G.b) = false := by simp [hlg]
  by_cases hlw : (wear.length : Int) = G.b
  case neg =>
    have HN : Hid (¬ newOk G good wear) := Lib.hid (fun h => hlw h.2.2.1)
    have tb2 : ((wear.length : Int) != G.b) = true := by simp [hlw]
    clear hw hg hwr hok hlg hlw
    go_enter Tryz.func57, Tryz.ntmps57
    go_wp2_with (fail)
    refine HR.out.mono ?_
    rintro e w1 ⟨rfl, hO⟩
    have hb1 := (HB0.out.only hO id).cell 2
    simp only [List.getElem?_toArray, List.getElem?_cons_zero, List.getElem?_cons_succ] at hb1
    have HO := Lib.hid (HO0.out.trans hO)
    clear hO
    go_wp2
    go_ret2
    exact .inr ⟨HN.out, rfl, HO.out⟩
  have tb2 : ((wear.length : Int) != G.b) = false := by simp [hlw]
  have hGI := Ge.is_of hok
  have HGI := Lib.hid hGI
  have hbr := hGI.b
  obtain ⟨n, hn⟩ : ∃ n, good.length = n := ⟨_, rfl⟩
  have hnw : wear.length = n := by omega
  have hn1 : 1 ≤ n ∧ n ≤ 64 := by omega
  obtain ⟨og, rfl, hgl, hgr⟩ := hg.at (iv_ne (by omega))
  obtain ⟨ow, rfl, hwl, hwr'⟩ := hwr.at (iv_ne (by omega))
  have HRG : Hid (∀ W k, Only (fun _ => False) w W → k < n → W.cell? ⟨gg, og + k, none⟩ = some (.int .i64 (good.getD k 0))) := Lib.hid (fun W k h1 h2 =>
    (h1.cell (p := ⟨gg, og + k, none⟩) hgl id).trans (hgr k _ (iv_get _ _ (by omega))))
  have HRW : Hid (∀ W k, Only (fun _ => False) w W → k < n → W.cell? ⟨gw, ow + k, none⟩ = some (.int .i64 (wear.getD k 0))) := Lib.hid (fun W k h1 h2 =>
    (h1.cell (p := ⟨gw, ow + k, none⟩) hwl id).trans (hwr' k _ (iv_get _ _ (by omega))))
  have HNO : Hid (∀ k, k < n → ¬ (0 ≤ good.getD k 0 ∧ good.getD k 0 ≤ G.u ∧ 0 ≤ wear.getD k 0 ∧ wear.getD k 0 ≤ 2147483647) → ¬ newOk G good wear) := Lib.hid (fun k hk h hh => h (hh.2.2.2 k (by omega)))
  have HYES : Hid (okTo good wear G.u n → newOk G good wear) := Lib.hid (fun h => ⟨hok, hlg, hlw, by rw [hn]; exact h⟩)
  have HN := Lib.hid hn
  rw [hn] at tb ⊢
  rw [hnw] at tb2 ⊢
  have HU : Hid (∀ w, Calls Tryz.prog 39 #[G.val] w fun e w' => e = .returned (.int .i64 G.u) ∧ Only (fun _ => False) w w') := Lib.hid (fun w => units_any G hGI w)
  unfold Ge.val at HU
  obtain ⟨i0t, hi⟩ : ∃ i, Tryz.prog.info? 151 = some i := ⟨_, rfl⟩
  have hz0 : i0t.zero = some (.agg #[.int .i64 0, .int .i64 0, .int .i64 0, .int .i64 0, .int .i64 0, .int .i64 0, .int .i64 0, .int .i64 0]) := by cases hi; rfl
  have hz1 : i0t.size = 8 := by cases hi; rfl
  have hz2 : i0t.bytes = 64 := by cases hi; rfl
  have HI := Lib.hid (And.intro hi (And.intro hz0 (And.intro hz1 hz2)))
  clear hi hz0 hz1 hz2 hn hnw hg hwr hgr hwr' hlg hlw hGI hbr hw hgl hwl hok
  go_enter Tryz.func57, Tryz.ntmps57
  go_wp2_with (fail)
  refine HR.out.mono ?_
  rintro e w1 ⟨rfl, hO⟩
  have HB1 := Lib.hid (HB0.out.only hO id)
  have hb1 := HB1.out.cell 2
  simp only [List.getElem?_toArray, List.getElem?_cons_zero, List.getElem?_cons_succ] at hb1
  have HO1 := Lib.hid (HO0.out.trans hO)
  have hsz1 := hO.size
  rw [hs0] at hsz1
  clear hO HR HB0 HO0 hs0
  go_wp2_with (fail)
  go_loopw [9, 10, 32] (fun v9 v10 v32 wr => ∃ (k : Nat) (A : Option Addr) (c gb : Nat), k ≤ n ∧ v32 = .int .i64 k ∧ okTo good wear G.u k ∧ At wr w.heap.size 23 #[.int .i64 G.c, .int .i64 G.l, .int .i64 G.b, .int .i64 G.p, .int .i64 G.s] ∧
      At wr w1.heap.size 205 #[.slice A k c, .int .i64 (-1)] ∧ RowAt wr A k c gb 151 8 (lcs G (newL good wear k)) ∧ (A ≠ none → w.heap.size < gb) ∧ Only (fun _ => False) w wr) (fun v9 v10 v32 wr => (n - intOf v32).toNat)
  case atStart =>
    exact ⟨0, none, 0, 0, by omega, rfl, fun i hi => by omega, HB1.out.alloc _, At.new _ _ _, .inl ⟨rfl, rfl, rfl, rfl⟩, fun h => absurd rfl h, HO1.out.alloc _⟩
  case round =>
    obtain ⟨k, A, c, gb, hk, rfl, hokT, hB, hOUT, hROW, hGB, hO⟩ := hrel
    have HOKT := Lib.hid hokT
    have HB := Lib.hid hB
    have HOUT := Lib.hid hOUT
    have HROW := Lib.hid hROW
    have HGB := Lib.hid hGB
    have HO := Lib.hid hO
    clear hokT hB hOUT hROW hGB hO
    by_cases hkn : k < n
    · have i0 : (0 : Int) ≤ k := by omega
      have i1 : (k : Int) < n := by omega
      have cg0 := HRG.out wr k HO.out hkn
      have cw0 := HRW.out wr k HO.out hkn
      have HNK := Lib.hid (HNO.out k hkn)
      have HST := Lib.hid (@okTo_up good wear G.u k HOKT.out)
      generalize hgi : good.getD k 0 = gi at *
      generalize hwi : wear.getD k 0 = wi at *
      have HGI2 := Lib.hid (And.intro hgi hwi)
      clear hgi hwi
      go_wp2_with (fail)
      by_cases h1 : gi < 0
      case pos =>
        have HNN := Lib.hid (HNK.out (fun h => by omega))
        have d1 : decide (gi < 0) = true := by simp [h1]
        clear h1
        refine wp_region_held_drew (S := (fun W => ((W.cell? ⟨gg, og + k, none⟩ = some (.int .i64 gi) ∧ W.cell? ⟨gw, ow + k, none⟩ = some (.int .i64 wi)) ∧ (W.cell? ⟨w.heap.size, 0, none⟩ = some (.int .i64 G.c) ∧ W.cell? ⟨w.heap.size, 1, none⟩ = some (.int .i64 G.l))) ∧ ((W.cell? ⟨w.heap.size, 2, none⟩ = some (.int .i64 G.b) ∧ W.cell? ⟨w.heap.size, 3, none⟩ = some (.int .i64 G.p)) ∧ W.cell? ⟨w.heap.size, 4, none⟩ = some (.int .i64 G.s)))) (by kernel_rfl) ?_ (fun hHeld => ?_)
        · exact ⟨⟨⟨cg0, cw0⟩, HB.out.cell 0, HB.out.cell 1⟩, ⟨HB.out.cell 2, HB.out.cell 3⟩, HB.out.cell 4⟩
        refine wpAnyH_take (i := 0) (oi := { dst := some 35, op := Op.move (Operand.tmp 1), type := 26, pos := "lines.go:46", after := #[], guard := none }) (v := ?_) rfl (by kernel_rfl) (by kernel_rfl) (by kernel_rfl) (fun _ _ _ h => h) (Or.inl ⟨by rfl, ?_⟩) (by assumption) ?_
        rotate_left
        · (intro w hSw; (try dsimp only at hSw); (try obtain ⟨hSa, hSb⟩ := hSw); go_simp; try with_reducible rfl)
        try simp only [Act.put, List.setIfInBounds_toArray, List.set_cons_zero, List.set_cons_succ]
        refine wpAnyH_take (i := 1) (oi := { dst := some 36, op := Op.move (Operand.tmp 9), type := 3, pos := "lines.go:46", after := #[], guard := none }) (v := ?_) rfl (by kernel_rfl) (by kernel_rfl) (by kernel_rfl) (fun _ _ _ h => h) (Or.inl ⟨by rfl, ?_⟩) (by assumption) ?_
        rotate_left
        · (intro w hSw; (try dsimp only at hSw); (try obtain ⟨hSa, hSb⟩ := hSw); go_simp; try with_reducible rfl)
        try simp only [Act.put, List.setIfInBounds_toArray, List.set_cons_zero, List.set_cons_succ]
        refine wpAnyH_take (i := 2) (oi := { dst := some 37, op := Op.indexAddr 26 (Operand.tmp 35) (Operand.tmp 36), type := 0, pos := "lines.go:46", after := #[{ on := 0, ground := Ground.data }, { on := 1, ground := Ground.data }], guard := none }) (v := ?_) rfl (by kernel_rfl) (by kernel_rfl) (by kernel_rfl) (fun _ _ _ h => h) (Or.inl ⟨by rfl, ?_⟩) (by assumption) ?_
        rotate_left
        · (intro w hSw; (try dsimp only at hSw); (try obtain ⟨hSa, hSb⟩ := hSw); go_simp; try with_reducible rfl)
        try simp only [Act.put, List.setIfInBounds_toArray, List.set_cons_zero, List.set_cons_succ]
        refine wpAnyH_take (i := 3) (oi := { dst := some 38, op := Op.load 3 (Operand.tmp 37), type := 3, pos := "lines.go:46", after := #[{ on := 2, ground := Ground.data }], guard := none }) (v := ?_) rfl (by kernel_rfl) (by kernel_rfl) (by kernel_rfl) (fun _ _ _ h => h) (Or.inl ⟨by rfl, ?_⟩) (by assumption) ?_
        rotate_left
        · (intro w hSw; (try dsimp only at hSw); (try obtain ⟨hSa, hSb⟩ := hSw); go_simp; try with_reducible rfl)
        try simp only [Act.put, List.setIfInBounds_toArray, List.set_cons_zero, List.set_cons_succ]
        refine wpAnyH_take (i := 4) (oi := { dst := some 39, op := Op.binOp BinOp.lss 3 (Operand.tmp 38) (Operand.const (Value.int IntKind.i64 0)) 3, type := 4, pos := "lines.go:46", after := #[{ on := 3, ground := Ground.data }], guard := none }) (v := ?_) rfl (by kernel_rfl) (by kernel_rfl) (by kernel_rfl) (fun _ _ _ h => h) (Or.inl ⟨by rfl, ?_⟩) (by assumption) ?_
        rotate_left
        · (intro w hSw; (try dsimp only at hSw); (try obtain ⟨hSa, hSb⟩ := hSw); go_simp; try with_reducible rfl)
        try simp only [Act.put, List.setIfInBounds_toArray, List.set_cons_zero, List.set_cons_succ]
        refine wpAnyH_take (i := 5) (oi := { dst := some 40, op := Op.move (Operand.tmp 39), type := 4, pos := "lines.go:46", after := #[{ on := 4, ground := Ground.data }], guard := none }) (v := ?_) rfl (by kernel_rfl) (by kernel_rfl) (by kernel_rfl) (fun _ _ _ h => h) (Or.inl ⟨by rfl, ?_⟩) (by assumption) ?_
        rotate_left
        · (intro w hSw; (try dsimp only at hSw); (try obtain ⟨hSa, hSb⟩ := hSw); go_simp; try with_reducible rfl)
        try simp only [Act.put, List.setIfInBounds_toArray, List.set_cons_zero, List.set_cons_succ]
        refine wpAnyH_take (i := 6) (oi := { dst := some 41, op := Op.move (Operand.tmp 1), type := 26, pos := "lines.go:46", after := #[{ on := 5, ground := Ground.guard }], guard := some (5, false) }) (v := undef) rfl (by kernel_rfl) (by kernel_rfl) (by kernel_rfl) (fun _ _ _ h => h) (Or.inr ⟨by rfl, rfl⟩) (by assumption) ?_
        try simp only [Act.put, List.setIfInBounds_toArray, List.set_cons_zero, List.set_cons_succ]
        refine wpAnyH_take (i := 7) (oi := { dst := some 42, op := Op.move (Operand.tmp 9), type := 3, pos := "lines.go:46", after := #[{ on := 5, ground := Ground.guard }], guard := some (5, false) }) (v := undef) rfl (by kernel_rfl) (by kernel_rfl) (by kernel_rfl) (fun _ _ _ h => h) (Or.inr ⟨by rfl, rfl⟩) (by assumption) ?_
        try simp only [Act.put, List.setIfInBounds_toArray, List.set_cons_zero, List.set_cons_succ]
        refine wpAnyH_take (i := 8) (oi := { dst := some 43, op := Op.indexAddr 26 (Operand.tmp 41) (Operand.tmp 42), type := 0, pos := "lines.go:46", after := #[{ on := 6, ground := Ground.data }, { on := 7, ground := Ground.data }, { on := 5, ground := Ground.guard }], guard := some (5, false) }) (v := undef) rfl (by kernel_rfl) (by kernel_rfl) (by kernel_rfl) (fun _ _ _ h => h) (Or.inr ⟨by rfl, rfl⟩) (by assumption) ?_
        try simp only [Act.put, List.setIfInBounds_toArray, List.set_cons_zero, List.set_cons_succ]
        refine wpAnyH_take (i := 9) (oi := { dst := some 44, op := Op.load 3 (Operand.tmp 43), type := 3, pos := "lines.go:46", after := #[{ on := 8, ground := Ground.data }, { on := 5, ground := Ground.guard }], guard := some (5, false) }) (v := undef) rfl (by kernel_rfl) (by kernel_rfl) (by kernel_rfl) (fun _ _ _ h => h) (Or.inr ⟨by rfl, rfl⟩) (by assumption) ?_
        try simp only [Act.put, List.setIfInBounds_toArray, List.set_cons_zero, List.set_cons_succ]
        refine wpAnyH_take (i := 10) (oi := { dst := some 45, op := Op.load 23 (Operand.tmp 3), type := 23, pos := "lines.go:46", after := #[{ on := 5, ground := Ground.guard }], guard := some (5, false) }) (v := undef) rfl (by kernel_rfl) (by kernel_rfl) (by kernel_rfl) (fun _ _ _ h => h) (Or.inr ⟨by rfl, rfl⟩) (by assumption) ?_
        try simp only [Act.put, List.setIfInBounds_toArray, List.set_cons_zero, List.set_cons_succ]
        refine wpAnyH_take (i := 11) (oi := { dst := some 46, op := Op.call { callee := Callee.value (Operand.func 39), args := #[Operand.tmp 45], argTypes := #[23] }, type := 3, pos := "lines.go:46", after := #[{ on := 10, ground := Ground.data }, { on := 5, ground := Ground.chain }, { on := 5, ground := Ground.guard }], guard := some (5, false) }) (v := undef) rfl (by kernel_rfl) (by kernel_rfl) (by kernel_rfl) (fun _ _ _ h => h) (Or.inr ⟨by rfl, rfl⟩) (by assumption) ?_
        try simp only [Act.put, List.setIfInBounds_toArray, List.set_cons_zero, List.set_cons_succ]
        refine wpAnyH_take (i := 12) (oi := { dst := some 47, op := Op.binOp BinOp.gtr 3 (Operand.tmp 44) (Operand.tmp 46) 3, type := 4, pos := "lines.go:46", after := #[{ on := 9, ground := Ground.data }, { on := 11, ground := Ground.data }, { on := 5, ground := Ground.guard }], guard := some (5, false) }) (v := undef) rfl (by kernel_rfl) (by kernel_rfl) (by kernel_rfl) (fun _ _ _ h => h) (Or.inr ⟨by rfl, rfl⟩) (by assumption) ?_
        try simp only [Act.put, List.setIfInBounds_toArray, List.set_cons_zero, List.set_cons_succ]
        refine wpAnyH_take (i := 13) (oi := { dst := some 48, op := Op.pick (Operand.tmp 40) (Operand.const (Value.bool true)) (Operand.tmp 47), type := 4, pos := "lines.go:46", after := #[{ on := 5, ground := Ground.data }, { on := 12, ground := Ground.data }], guard := none }) (v := ?_) rfl (by kernel_rfl) (by kernel_rfl) (by kernel_rfl) (fun _ _ _ h => h) (Or.inl ⟨by rfl, ?_⟩) (by assumption) ?_
        rotate_left
        · (intro w hSw; (try dsimp only at hSw); (try obtain ⟨hSa, hSb⟩ := hSw); go_simp; try with_reducible rfl)
        try simp only [Act.put, List.setIfInBounds_toArray, List.set_cons_zero, List.set_cons_succ]
        refine wpAnyH_take (i := 14) (oi := { dst := some 49, op := Op.move (Operand.tmp 48), type := 4, pos := "lines.go:46", after := #[{ on := 13, ground := Ground.data }, { on := 11, ground := Ground.chain }], guard := none }) (v := ?_) rfl (by kernel_rfl) (by kernel_rfl) (by kernel_rfl) (fun _ _ _ h => h) (Or.inl ⟨by rfl, ?_⟩) (by assumption) ?_
        rotate_left
        · (intro w hSw; (try dsimp only at hSw); (try obtain ⟨hSa, hSb⟩ := hSw); go_simp; try with_reducible rfl)
        try simp only [Act.put, List.setIfInBounds_toArray, List.set_cons_zero, List.set_cons_succ]
        refine wpAnyH_take (i := 15) (oi := { dst := some 50, op := Op.move (Operand.tmp 2), type := 26, pos := "lines.go:46", after := #[{ on := 14, ground := Ground.guard }], guard := some (14, false) }) (v := undef) rfl (by kernel_rfl) (by kernel_rfl) (by kernel_rfl) (fun _ _ _ h => h) (Or.inr ⟨by rfl, rfl⟩) (by assumption) ?_
        try simp only [Act.put, List.setIfInBounds_toArray, List.set_cons_zero, List.set_cons_succ]
        refine wpAnyH_take (i := 16) (oi := { dst := some 51, op := Op.move (Operand.tmp 9), type := 3, pos := "lines.go:46", after := #[{ on := 14, ground := Ground.guard }], guard := some (14, false) }) (v := undef) rfl (by kernel_rfl) (by kernel_rfl) (by kernel_rfl) (fun _ _ _ h => h) (Or.inr ⟨by rfl, rfl⟩) (by assumption) ?_
        try simp only [Act.put, List.setIfInBounds_toArray, List.set_cons_zero, List.set_cons_succ]
        refine wpAnyH_take (i := 17) (oi := { dst := some 52, op := Op.indexAddr 26 (Operand.tmp 50) (Operand.tmp 51), type := 0, pos := "lines.go:46", after := #[{ on := 15, ground := Ground.data }, { on := 16, ground := Ground.data }, { on := 14, ground := Ground.guard }], guard := some (14, false) }) (v := undef) rfl (by kernel_rfl) (by kernel_rfl) (by kernel_rfl) (fun _ _ _ h => h) (Or.inr ⟨by rfl, rfl⟩) (by assumption) ?_
        try simp only [Act.put, List.setIfInBounds_toArray, List.set_cons_zero, List.set_cons_succ]
        refine wpAnyH_take (i := 18) (oi := { dst := some 53, op := Op.load 3 (Operand.tmp 52), type := 3, pos := "lines.go:46", after := #[{ on := 17, ground := Ground.data }, { on := 14, ground := Ground.guard }], guard := some (14, false) }) (v := undef) rfl (by kernel_rfl) (by kernel_rfl) (by kernel_rfl) (fun _ _ _ h => h) (Or.inr ⟨by rfl, rfl⟩) (by assumption) ?_
        try simp only [Act.put, List.setIfInBounds_toArray, List.set_cons_zero, List.set_cons_succ]
        refine wpAnyH_take (i := 19) (oi := { dst := some 54, op := Op.binOp BinOp.lss 3 (Operand.tmp 53) (Operand.const (Value.int IntKind.i64 0)) 3, type := 4, pos := "lines.go:46", after := #[{ on := 18, ground := Ground.data }, { on := 14, ground := Ground.guard }], guard := some (14, false) }) (v := undef) rfl (by kernel_rfl) (by kernel_rfl) (by kernel_rfl) (fun _ _ _ h => h) (Or.inr ⟨by rfl, rfl⟩) (by assumption) ?_
        try simp only [Act.put, List.setIfInBounds_toArray, List.set_cons_zero, List.set_cons_succ]
        refine wpAnyH_take (i := 20) (oi := { dst := some 55, op := Op.pick (Operand.tmp 49) (Operand.const (Value.bool true)) (Operand.tmp 54), type := 4, pos := "lines.go:46", after := #[{ on := 14, ground := Ground.data }, { on := 19, ground := Ground.data }], guard := none }) (v := ?_) rfl (by kernel_rfl) (by kernel_rfl) (by kernel_rfl) (fun _ _ _ h => h) (Or.inl ⟨by rfl, ?_⟩) (by assumption) ?_
        rotate_left
        · (intro w hSw; (try dsimp only at hSw); (try obtain ⟨hSa, hSb⟩ := hSw); go_simp; try with_reducible rfl)
        try simp only [Act.put, List.setIfInBounds_toArray, List.set_cons_zero, List.set_cons_succ]
        refine wpAnyH_take (i := 21) (oi := { dst := some 56, op := Op.move (Operand.tmp 55), type := 4, pos := "lines.go:46", after := #[{ on := 20, ground := Ground.data }, { on := 14, ground := Ground.chain }], guard := none }) (v := ?_) rfl (by kernel_rfl) (by kernel_rfl) (by kernel_rfl) (fun _ _ _ h => h) (Or.inl ⟨by rfl, ?_⟩) (by assumption) ?_
        rotate_left
        · (intro w hSw; (try dsimp only at hSw); (try obtain ⟨hSa, hSb⟩ := hSw); go_simp; try with_reducible rfl)
        try simp only [Act.put, List.setIfInBounds_toArray, List.set_cons_zero, List.set_cons_succ]
        refine wpAnyH_take (i := 22) (oi := { dst := some 57, op := Op.move (Operand.tmp 2), type := 26, pos := "lines.go:46", after := #[{ on := 21, ground := Ground.guard }], guard := some (21, false) }) (v := undef) rfl (by kernel_rfl) (by kernel_rfl) (by kernel_rfl) (fun _ _ _ h => h) (Or.inr ⟨by rfl, rfl⟩) (by assumption) ?_
        try simp only [Act.put, List.setIfInBounds_toArray, List.set_cons_zero, List.set_cons_succ]
        refine wpAnyH_take (i := 23) (oi := { dst := some 58, op := Op.move (Operand.tmp 9), type := 3, pos := "lines.go:46", after := #[{ on := 21, ground := Ground.guard }], guard := some (21, false) }) (v := undef) rfl (by kernel_rfl) (by kernel_rfl) (by kernel_rfl) (fun _ _ _ h => h) (Or.inr ⟨by rfl, rfl⟩) (by assumption) ?_
        try simp only [Act.put, List.setIfInBounds_toArray, List.set_cons_zero, List.set_cons_succ]
        refine wpAnyH_take (i := 24) (oi := { dst := some 59, op := Op.indexAddr 26 (Operand.tmp 57) (Operand.tmp 58), type := 0, pos := "lines.go:46", after := #[{ on := 22, ground := Ground.data }, { on := 23, ground := Ground.data }, { on := 21, ground := Ground.guard }], guard := some (21, false) }) (v := undef) rfl (by kernel_rfl) (by kernel_rfl) (by kernel_rfl) (fun _ _ _ h => h) (Or.inr ⟨by rfl, rfl⟩) (by assumption) ?_
        try simp only [Act.put, List.setIfInBounds_toArray, List.set_cons_zero, List.set_cons_succ]
        refine wpAnyH_take (i := 25) (oi := { dst := some 60, op := Op.load 3 (Operand.tmp 59), type := 3, pos := "lines.go:46", after := #[{ on := 24, ground := Ground.data }, { on := 21, ground := Ground.guard }], guard := some (21, false) }) (v := undef) rfl (by kernel_rfl) (by kernel_rfl) (by kernel_rfl) (fun _ _ _ h => h) (Or.inr ⟨by rfl, rfl⟩) (by assumption) ?_
        try simp only [Act.put, List.setIfInBounds_toArray, List.set_cons_zero, List.set_cons_succ]
        refine wpAnyH_take (i := 26) (oi := { dst := some 61, op := Op.binOp BinOp.gtr 3 (Operand.tmp 60) (Operand.const (Value.int IntKind.i64 2147483647)) 3, type := 4, pos := "lines.go:46", after := #[{ on := 25, ground := Ground.data }, { on := 21, ground := Ground.guard }], guard := some (21, false) }) (v := undef) rfl (by kernel_rfl) (by kernel_rfl) (by kernel_rfl) (fun _ _ _ h => h) (Or.inr ⟨by rfl, rfl⟩) (by assumption) ?_
        try simp only [Act.put, List.setIfInBounds_toArray, List.set_cons_zero, List.set_cons_succ]
        refine wpAnyH_take (i := 27) (oi := { dst := some 62, op := Op.pick (Operand.tmp 56) (Operand.const (Value.bool true)) (Operand.tmp 61), type := 4, pos := "lines.go:46", after := #[{ on := 21, ground := Ground.data }, { on := 26, ground := Ground.data }], guard := none }) (v := ?_) rfl (by kernel_rfl) (by kernel_rfl) (by kernel_rfl) (fun _ _ _ h => h) (Or.inl ⟨by rfl, ?_⟩) (by assumption) ?_
        rotate_left
        · (intro w hSw; (try dsimp only at hSw); (try obtain ⟨hSa, hSb⟩ := hSw); go_simp; try with_reducible rfl)
        try simp only [Act.put, List.setIfInBounds_toArray, List.set_cons_zero, List.set_cons_succ]
        refine wpAnyH_done (by kernel_rfl) ?_ _
        go_wp2
        go_ret2
        exact .inr ⟨HNN.out, rfl, HO.out.drew⟩
      have d1 : decide (gi < 0) = false := by simp; omega
      by_cases h2 : G.u < gi
      case pos =>
        have HNN := Lib.hid (HNK.out (fun h => by omega))
        have d2 : decide (G.u < gi) = true := by simp [h2]
        clear h1 h2
        refine wp_region_held_drew (S := (fun W => ((W.cell? ⟨gg, og + k, none⟩ = some (.int .i64 gi) ∧ W.cell? ⟨gw, ow + k, none⟩ = some (.int .i64 wi)) ∧ (W.cell? ⟨w.heap.size, 0, none⟩ = some (.int .i64 G.c) ∧ W.cell? ⟨w.heap.size, 1, none⟩ = some (.int .i64 G.l))) ∧ ((W.cell? ⟨w.heap.size, 2, none⟩ = some (.int .i64 G.b) ∧ W.cell? ⟨w.heap.size, 3, none⟩ = some (.int .i64 G.p)) ∧ W.cell? ⟨w.heap.size, 4, none⟩ = some (.int .i64 G.s)))) (by kernel_rfl) ?_ (fun hHeld => ?_)
        · exact ⟨⟨⟨cg0, cw0⟩, HB.out.cell 0, HB.out.cell 1⟩, ⟨HB.out.cell 2, HB.out.cell 3⟩, HB.out.cell 4⟩
        refine wpAnyH_take (i := 0) (oi := { dst := some 35, op := Op.move (Operand.tmp 1), type := 26, pos := "lines.go:46", after := #[], guard := none }) (v := ?_) rfl (by kernel_rfl) (by kernel_rfl) (by kernel_rfl) (fun _ _ _ h => h) (Or.inl ⟨by rfl, ?_⟩) (by assumption) ?_
        rotate_left
        · (intro w hSw; (try dsimp only at hSw); (try obtain ⟨hSa, hSb⟩ := hSw); go_simp; try with_reducible rfl)
        try simp only [Act.put, List.setIfInBounds_toArray, List.set_cons_zero, List.set_cons_succ]
        refine wpAnyH_take (i := 1) (oi := { dst := some 36, op := Op.move (Operand.tmp 9), type := 3, pos := "lines.go:46", after := #[], guard := none }) (v := ?_) rfl (by kernel_rfl) (by kernel_rfl) (by kernel_rfl) (fun _ _ _ h => h) (Or.inl ⟨by rfl, ?_⟩) (by assumption) ?_
        rotate_left
        · (intro w hSw; (try dsimp only at hSw); (try obtain ⟨hSa, hSb⟩ := hSw); go_simp; try with_reducible rfl)
        try simp only [Act.put, List.setIfInBounds_toArray, List.set_cons_zero, List.set_cons_succ]
        refine wpAnyH_take (i := 2) (oi := { dst := some 37, op := Op.indexAddr 26 (Operand.tmp 35) (Operand.tmp 36), type := 0, pos := "lines.go:46", after := #[{ on := 0, ground := Ground.data }, { on := 1, ground := Ground.data }], guard := none }) (v := ?_) rfl (by kernel_rfl) (by kernel_rfl) (by kernel_rfl) (fun _ _ _ h => h) (Or.inl ⟨by rfl, ?_⟩) (by assumption) ?_
        rotate_left
        · (intro w hSw; (try dsimp only at hSw); (try obtain ⟨hSa, hSb⟩ := hSw); go_simp; try with_reducible rfl)
        try simp only [Act.put, List.setIfInBounds_toArray, List.set_cons_zero, List.set_cons_succ]
        refine wpAnyH_take (i := 3) (oi := { dst := some 38, op := Op.load 3 (Operand.tmp 37), type := 3, pos := "lines.go:46", after := #[{ on := 2, ground := Ground.data }], guard := none }) (v := ?_) rfl (by kernel_rfl) (by kernel_rfl) (by kernel_rfl) (fun _ _ _ h => h) (Or.inl ⟨by rfl, ?_⟩) (by assumption) ?_
        rotate_left
        · (intro w hSw; (try dsimp only at hSw); (try obtain ⟨hSa, hSb⟩ := hSw); go_simp; try with_reducible rfl)
        try simp only [Act.put, List.setIfInBounds_toArray, List.set_cons_zero, List.set_cons_succ]
        refine wpAnyH_take (i := 4) (oi := { dst := some 39, op := Op.binOp BinOp.lss 3 (Operand.tmp 38) (Operand.const (Value.int IntKind.i64 0)) 3, type := 4, pos := "lines.go:46", after := #[{ on := 3, ground := Ground.data }], guard := none }) (v := ?_) rfl (by kernel_rfl) (by kernel_rfl) (by kernel_rfl) (fun _ _ _ h => h) (Or.inl ⟨by rfl, ?_⟩) (by assumption) ?_
        rotate_left
        · (intro w hSw; (try dsimp only at hSw); (try obtain ⟨hSa, hSb⟩ := hSw); go_simp; try with_reducible rfl)
        try simp only [Act.put, List.setIfInBounds_toArray, List.set_cons_zero, List.set_cons_succ]
        refine wpAnyH_take (i := 5) (oi := { dst := some 40, op := Op.move (Operand.tmp 39), type := 4, pos := "lines.go:46", after := #[{ on := 4, ground := Ground.data }], guard := none }) (v := ?_) rfl (by kernel_rfl) (by kernel_rfl) (by kernel_rfl) (fun _ _ _ h => h) (Or.inl ⟨by rfl, ?_⟩) (by assumption) ?_
        rotate_left
        · (intro w hSw; (try dsimp only at hSw); (try obtain ⟨hSa, hSb⟩ := hSw); go_simp; try with_reducible rfl)
        try simp only [Act.put, List.setIfInBounds_toArray, List.set_cons_zero, List.set_cons_succ]
        refine wpAnyH_take (i := 6) (oi := { dst := some 41, op := Op.move (Operand.tmp 1), type := 26, pos := "lines.go:46", after := #[{ on := 5, ground := Ground.guard }], guard := some (5, false) }) (v := ?_) rfl (by kernel_rfl) (by kernel_rfl) (by kernel_rfl) (fun _ _ _ h => h) (Or.inl ⟨by rfl, ?_⟩) (by assumption) ?_
        rotate_left
        · (intro w hSw; (try dsimp only at hSw); (try obtain ⟨hSa, hSb⟩ := hSw); go_simp; try with_reducible rfl)
        try simp only [Act.put, List.setIfInBounds_toArray, List.set_cons_zero, List.set_cons_succ]
        refine wpAnyH_take (i := 7) (oi := { dst := some 42, op := Op.move (Operand.tmp 9), type := 3, pos := "lines.go:46", after := #[{ on := 5, ground := Ground.guard }], guard := some (5, false) }) (v := ?_) rfl (by kernel_rfl) (by kernel_rfl) (by kernel_rfl) (fun _ _ _ h => h) (Or.inl ⟨by rfl, ?_⟩) (by assumption) ?_
        rotate_left
        · (intro w hSw; (try dsimp only at hSw); (try obtain ⟨hSa, hSb⟩ := hSw); go_simp; try with_reducible rfl)
        try simp only [Act.put, List.setIfInBounds_toArray, List.set_cons_zero, List.set_cons_succ]
        refine wpAnyH_take (i := 8) (oi := { dst := some 43, op := Op.indexAddr 26 (Operand.tmp 41) (Operand.tmp 42), type := 0, pos := "lines.go:46", after := #[{ on := 6, ground := Ground.data }, { on := 7, ground := Ground.data }, { on := 5, ground := Ground.guard }], guard := some (5, false) }) (v := ?_) rfl (by kernel_rfl) (by kernel_rfl) (by kernel_rfl) (fun _ _ _ h => h) (Or.inl ⟨by rfl, ?_⟩) (by assumption) ?_
        rotate_left
        · (intro w hSw; (try dsimp only at hSw); (try obtain ⟨hSa, hSb⟩ := hSw); go_simp; try with_reducible rfl)
        try simp only [Act.put, List.setIfInBounds_toArray, List.set_cons_zero, List.set_cons_succ]
        refine wpAnyH_take (i := 9) (oi := { dst := some 44, op := Op.load 3 (Operand.tmp 43), type := 3, pos := "lines.go:46", after := #[{ on := 8, ground := Ground.data }, { on := 5, ground := Ground.guard }], guard := some (5, false) }) (v := ?_) rfl (by kernel_rfl) (by kernel_rfl) (by kernel_rfl) (fun _ _ _ h => h) (Or.inl ⟨by rfl, ?_⟩) (by assumption) ?_
        rotate_left
        · (intro w hSw; (try dsimp only at hSw); (try obtain ⟨hSa, hSb⟩ := hSw); go_simp; try with_reducible rfl)
        try simp only [Act.put, List.setIfInBounds_toArray, List.set_cons_zero, List.set_cons_succ]
        refine wpAnyH_take (i := 10) (oi := { dst := some 45, op := Op.load 23 (Operand.tmp 3), type := 23, pos := "lines.go:46", after := #[{ on := 5, ground := Ground.guard }], guard := some (5, false) }) (v := ?_) rfl (by kernel_rfl) (by kernel_rfl) (by kernel_rfl) (fun _ _ _ h => h) (Or.inl ⟨by rfl, ?_⟩) (by assumption) ?_
        rotate_left
        · (intro w hSw; (try dsimp only at hSw); (try obtain ⟨hSa, hSb⟩ := hSw); go_simp; try with_reducible rfl)
        try simp only [Act.put, List.setIfInBounds_toArray, List.set_cons_zero, List.set_cons_succ]
        refine wpAnyH_ready (rs := [11]) (by kernel_rfl) (by simp) ?_
        refine AllReadyH.cons (o := { dst := some 46, op := Op.call { callee := Callee.value (Operand.func 39), args := #[Operand.tmp 45], argTypes := #[23] }, type := 3, pos := "lines.go:46", after := #[{ on := 10, ground := Ground.data }, { on := 5, ground := Ground.chain }, { on := 5, ground := Ground.guard }], guard := some (5, false) }) rfl (fun K hK => ?_) AllReadyH.nil
        go_simp
        (refine (HU.out _).mono ?_; rintro e w2 ⟨rfl, hO2⟩; have hOd := (Only.refl (fun _ => False) wr).drew.trans hO2; have HO2 := Lib.hid (HO.out.trans hOd); have HB2 := Lib.hid (HB.out.only hOd id); have HOUT2 := Lib.hid (HOUT.out.only hOd id); have HROW2 := Lib.hid (HROW.out.only hOd (fun _ => id)); have cg2 := HRG.out w2 k HO2.out hkn; have cw2 := HRW.out w2 k HO2.out hkn; rw [HGI2.out.1] at cg2; rw [HGI2.out.2] at cw2; clear hO2 hOd; try simp only [])
        refine hK.out _ _ ?_ (fun hHeld => ?_)
        · exact ⟨⟨⟨cg2, cw2⟩, HB2.out.cell 0, HB2.out.cell 1⟩, ⟨HB2.out.cell 2, HB2.out.cell 3⟩, HB2.out.cell 4⟩
        clear hK K
        try simp only [Act.put, List.setIfInBounds_toArray, List.set_cons_zero, List.set_cons_succ]
        refine wpAnyH_take (i := 12) (oi := { dst := some 47, op := Op.binOp BinOp.gtr 3 (Operand.tmp 44) (Operand.tmp 46) 3, type := 4, pos := "lines.go:46", after := #[{ on := 9, ground := Ground.data }, { on := 11, ground := Ground.data }, { on := 5, ground := Ground.guard }], guard := some (5, false) }) (v := ?_) rfl (by kernel_rfl) (by kernel_rfl) (by kernel_rfl) (fun _ _ _ h => h) (Or.inl ⟨by rfl, ?_⟩) (by assumption) ?_
        rotate_left
        · (intro w hSw; (try dsimp only at hSw); (try obtain ⟨hSa, hSb⟩ := hSw); go_simp; try with_reducible rfl)
        try simp only [Act.put, List.setIfInBounds_toArray, List.set_cons_zero, List.set_cons_succ]
        refine wpAnyH_take (i := 13) (oi := { dst := some 48, op := Op.pick (Operand.tmp 40) (Operand.const (Value.bool true)) (Operand.tmp 47), type := 4, pos := "lines.go:46", after := #[{ on := 5, ground := Ground.data }, { on := 12, ground := Ground.data }], guard := none }) (v := ?_) rfl (by kernel_rfl) (by kernel_rfl) (by kernel_rfl) (fun _ _ _ h => h) (Or.inl ⟨by rfl, ?_⟩) (by assumption) ?_
        rotate_left
        · (intro w hSw; (try dsimp only at hSw); (try obtain ⟨hSa, hSb⟩ := hSw); go_simp; try with_reducible rfl)
        try simp only [Act.put, List.setIfInBounds_toArray, List.set_cons_zero, List.set_cons_succ]
        refine wpAnyH_take (i := 14) (oi := { dst := some 49, op := Op.move (Operand.tmp 48), type := 4, pos := "lines.go:46", after := #[{ on := 13, ground := Ground.data }, { on := 11, ground := Ground.chain }], guard := none }) (v := ?_) rfl (by kernel_rfl) (by kernel_rfl) (by kernel_rfl) (fun _ _ _ h => h) (Or.inl ⟨by rfl, ?_⟩) (by assumption) ?_
        rotate_left
        · (intro w hSw; (try dsimp only at hSw); (try obtain ⟨hSa, hSb⟩ := hSw); go_simp; try with_reducible rfl)
        try simp only [Act.put, List.setIfInBounds_toArray, List.set_cons_zero, List.set_cons_succ]
        refine wpAnyH_take (i := 15) (oi := { dst := some 50, op := Op.move (Operand.tmp 2), type := 26, pos := "lines.go:46", after := #[{ on := 14, ground := Ground.guard }], guard := some (14, false) }) (v := undef) rfl (by kernel_rfl) (by kernel_rfl) (by kernel_rfl) (fun _ _ _ h => h) (Or.inr ⟨by rfl, rfl⟩) (by assumption) ?_
        try simp only [Act.put, List.setIfInBounds_toArray, List.set_cons_zero, List.set_cons_succ]
        refine wpAnyH_take (i := 16) (oi := { dst := some 51, op := Op.move (Operand.tmp 9), type := 3, pos := "lines.go:46", after := #[{ on := 14, ground := Ground.guard }], guard := some (14, false) }) (v := undef) rfl (by kernel_rfl) (by kernel_rfl) (by kernel_rfl) (fun _ _ _ h => h) (Or.inr ⟨by rfl, rfl⟩) (by assumption) ?_
        try simp only [Act.put, List.setIfInBounds_toArray, List.set_cons_zero, List.set_cons_succ]
        refine wpAnyH_take (i := 17) (oi := { dst := some 52, op := Op.indexAddr 26 (Operand.tmp 50) (Operand.tmp 51), type := 0, pos := "lines.go:46", after := #[{ on := 15, ground := Ground.data }, { on := 16, ground := Ground.data }, { on := 14, ground := Ground.guard }], guard := some (14, false) }) (v := undef) rfl (by kernel_rfl) (by kernel_rfl) (by kernel_rfl) (fun _ _ _ h => h) (Or.inr ⟨by rfl, rfl⟩) (by assumption) ?_
        try simp only [Act.put, List.setIfInBounds_toArray, List.set_cons_zero, List.set_cons_succ]
        refine wpAnyH_take (i := 18) (oi := { dst := some 53, op := Op.load 3 (Operand.tmp 52), type := 3, pos := "lines.go:46", after := #[{ on := 17, ground := Ground.data }, { on := 14, ground := Ground.guard }], guard := some (14, false) }) (v := undef) rfl (by kernel_rfl) (by kernel_rfl) (by kernel_rfl) (fun _ _ _ h => h) (Or.inr ⟨by rfl, rfl⟩) (by assumption) ?_
        try simp only [Act.put, List.setIfInBounds_toArray, List.set_cons_zero, List.set_cons_succ]
        refine wpAnyH_take (i := 19) (oi := { dst := some 54, op := Op.binOp BinOp.lss 3 (Operand.tmp 53) (Operand.const (Value.int IntKind.i64 0)) 3, type := 4, pos := "lines.go:46", after := #[{ on := 18, ground := Ground.data }, { on := 14, ground := Ground.guard }], guard := some (14, false) }) (v := undef) rfl (by kernel_rfl) (by kernel_rfl) (by kernel_rfl) (fun _ _ _ h => h) (Or.inr ⟨by rfl, rfl⟩) (by assumption) ?_
        try simp only [Act.put, List.setIfInBounds_toArray, List.set_cons_zero, List.set_cons_succ]
        refine wpAnyH_take (i := 20) (oi := { dst := some 55, op := Op.pick (Operand.tmp 49) (Operand.const (Value.bool true)) (Operand.tmp 54), type := 4, pos := "lines.go:46", after := #[{ on := 14, ground := Ground.data }, { on := 19, ground := Ground.data }], guard := none }) (v := ?_) rfl (by kernel_rfl) (by kernel_rfl) (by kernel_rfl) (fun _ _ _ h => h) (Or.inl ⟨by rfl, ?_⟩) (by assumption) ?_
        rotate_left
        · (intro w hSw; (try dsimp only at hSw); (try obtain ⟨hSa, hSb⟩ := hSw); go_simp; try with_reducible rfl)
        try simp only [Act.put, List.setIfInBounds_toArray, List.set_cons_zero, List.set_cons_succ]
        refine wpAnyH_take (i := 21) (oi := { dst := some 56, op := Op.move (Operand.tmp 55), type := 4, pos := "lines.go:46", after := #[{ on := 20, ground := Ground.data }, { on := 14, ground := Ground.chain }], guard := none }) (v := ?_) rfl (by kernel_rfl) (by kernel_rfl) (by kernel_rfl) (fun _ _ _ h => h) (Or.inl ⟨by rfl, ?_⟩) (by assumption) ?_
        rotate_left
        · (intro w hSw; (try dsimp only at hSw); (try obtain ⟨hSa, hSb⟩ := hSw); go_simp; try with_reducible rfl)
        try simp only [Act.put, List.setIfInBounds_toArray, List.set_cons_zero, List.set_cons_succ]
        refine wpAnyH_take (i := 22) (oi := { dst := some 57, op := Op.move (Operand.tmp 2), type := 26, pos := "lines.go:46", after := #[{ on := 21, ground := Ground.guard }], guard := some (21, false) }) (v := undef) rfl (by kernel_rfl) (by kernel_rfl) (by kernel_rfl) (fun _ _ _ h => h) (Or.inr ⟨by rfl, rfl⟩) (by assumption) ?_
        try simp only [Act.put, List.setIfInBounds_toArray, List.set_cons_zero, List.set_cons_succ]
        refine wpAnyH_take (i := 23) (oi := { dst := some 58, op := Op.move (Operand.tmp 9), type := 3, pos := "lines.go:46", after := #[{ on := 21, ground := Ground.guard }], guard := some (21, false) }) (v := undef) rfl (by kernel_rfl) (by kernel_rfl) (by kernel_rfl) (fun _ _ _ h => h) (Or.inr ⟨by rfl, rfl⟩) (by assumption) ?_
        try simp only [Act.put, List.setIfInBounds_toArray, List.set_cons_zero, List.set_cons_succ]
        refine wpAnyH_take (i := 24) (oi := { dst := some 59, op := Op.indexAddr 26 (Operand.tmp 57) (Operand.tmp 58), type := 0, pos := "lines.go:46", after := #[{ on := 22, ground := Ground.data }, { on := 23, ground := Ground.data }, { on := 21, ground := Ground.guard }], guard := some (21, false) }) (v := undef) rfl (by kernel_rfl) (by kernel_rfl) (by kernel_rfl) (fun _ _ _ h => h) (Or.inr ⟨by rfl, rfl⟩) (by assumption) ?_
        try simp only [Act.put, List.setIfInBounds_toArray, List.set_cons_zero, List.set_cons_succ]
        refine wpAnyH_take (i := 25) (oi := { dst := some 60, op := Op.load 3 (Operand.tmp 59), type := 3, pos := "lines.go:46", after := #[{ on := 24, ground := Ground.data }, { on := 21, ground := Ground.guard }], guard := some (21, false) }) (v := undef) rfl (by kernel_rfl) (by kernel_rfl) (by kernel_rfl) (fun _ _ _ h => h) (Or.inr ⟨by rfl, rfl⟩) (by assumption) ?_
        try simp only [Act.put, List.setIfInBounds_toArray, List.set_cons_zero, List.set_cons_succ]
        refine wpAnyH_take (i := 26) (oi := { dst := some 61, op := Op.binOp BinOp.gtr 3 (Operand.tmp 60) (Operand.const (Value.int IntKind.i64 2147483647)) 3, type := 4, pos := "lines.go:46", after := #[{ on := 25, ground := Ground.data }, { on := 21, ground := Ground.guard }], guard := some (21, false) }) (v := undef) rfl (by kernel_rfl) (by kernel_rfl) (by kernel_rfl) (fun _ _ _ h => h) (Or.inr ⟨by rfl, rfl⟩) (by assumption) ?_
        try simp only [Act.put, List.setIfInBounds_toArray, List.set_cons_zero, List.set_cons_succ]
        refine wpAnyH_take (i := 27) (oi := { dst := some 62, op := Op.pick (Operand.tmp 56) (Operand.const (Value.bool true)) (Operand.tmp 61), type := 4, pos := "lines.go:46", after := #[{ on := 21, ground := Ground.data }, { on := 26, ground := Ground.data }], guard := none }) (v := ?_) rfl (by kernel_rfl) (by kernel_rfl) (by kernel_rfl) (fun _ _ _ h => h) (Or.inl ⟨by rfl, ?_⟩) (by assumption) ?_
        rotate_left
        · (intro w hSw; (try dsimp only at hSw); (try obtain ⟨hSa, hSb⟩ := hSw); go_simp; try with_reducible rfl)
        try simp only [Act.put, List.setIfInBounds_toArray, List.set_cons_zero, List.set_cons_succ]
        refine wpAnyH_done (by kernel_rfl) ?_ _
        go_wp2
        go_ret2
        exact .inr ⟨HNN.out, rfl, HO2.out⟩
      have d2 : decide (G.u < gi) = false := by simp; omega
      by_cases h3 : wi < 0
      case pos =>
        have HNN := Lib.hid (HNK.out (fun h => by omega))
        have d3 : decide (wi < 0) = true := by simp [h3]
        clear h1 h2 h3
        refine wp_region_held_drew (S := (fun W => ((W.cell? ⟨gg, og + k, none⟩ = some (.int .i64 gi) ∧ W.cell? ⟨gw, ow + k, none⟩ = some (.int .i64 wi)) ∧ (W.cell? ⟨w.heap.size, 0, none⟩ = some (.int .i64 G.c) ∧ W.cell? ⟨w.heap.size, 1, none⟩ = some (.int .i64 G.l))) ∧ ((W.cell? ⟨w.heap.size, 2, none⟩ = some (.int .i64 G.b) ∧ W.cell? ⟨w.heap.size, 3, none⟩ = some (.int .i64 G.p)) ∧ W.cell? ⟨w.heap.size, 4, none⟩ = some (.int .i64 G.s)))) (by kernel_rfl) ?_ (fun hHeld => ?_)
        · exact ⟨⟨⟨cg0, cw0⟩, HB.out.cell 0, HB.out.cell 1⟩, ⟨HB.out.cell 2, HB.out.cell 3⟩, HB.out.cell 4⟩
        refine wpAnyH_take (i := 0) (oi := { dst := some 35, op := Op.move (Operand.tmp 1), type := 26, pos := "lines.go:46", after := #[], guard := none }) (v := ?_) rfl (by kernel_rfl) (by kernel_rfl) (by kernel_rfl) (fun _ _ _ h => h) (Or.inl ⟨by rfl, ?_⟩) (by assumption) ?_
        rotate_left
        · (intro w hSw; (try dsimp only at hSw); (try obtain ⟨hSa, hSb⟩ := hSw); go_simp; try with_reducible rfl)
        try simp only [Act.put, List.setIfInBounds_toArray, List.set_cons_zero, List.set_cons_succ]
        refine wpAnyH_take (i := 1) (oi := { dst := some 36, op := Op.move (Operand.tmp 9), type := 3, pos := "lines.go:46", after := #[], guard := none }) (v := ?_) rfl (by kernel_rfl) (by kernel_rfl) (by kernel_rfl) (fun _ _ _ h => h) (Or.inl ⟨by rfl, ?_⟩) (by assumption) ?_
        rotate_left
        · (intro w hSw; (try dsimp only at hSw); (try obtain ⟨hSa, hSb⟩ := hSw); go_simp; try with_reducible rfl)
        try simp only [Act.put, List.setIfInBounds_toArray, List.set_cons_zero, List.set_cons_succ]
        refine wpAnyH_take (i := 2) (oi := { dst := some 37, op := Op.indexAddr 26 (Operand.tmp 35) (Operand.tmp 36), type := 0, pos := "lines.go:46", after := #[{ on := 0, ground := Ground.data }, { on := 1, ground := Ground.data }], guard := none }) (v := ?_) rfl (by kernel_rfl) (by kernel_rfl) (by kernel_rfl) (fun _ _ _ h => h) (Or.inl ⟨by rfl, ?_⟩) (by assumption) ?_
        rotate_left
        · (intro w hSw; (try dsimp only at hSw); (try obtain ⟨hSa, hSb⟩ := hSw); go_simp; try with_reducible rfl)
        try simp only [Act.put, List.setIfInBounds_toArray, List.set_cons_zero, List.set_cons_succ]
        refine wpAnyH_take (i := 3) (oi := { dst := some 38, op := Op.load 3 (Operand.tmp 37), type := 3, pos := "lines.go:46", after := #[{ on := 2, ground := Ground.data }], guard := none }) (v := ?_) rfl (by kernel_rfl) (by kernel_rfl) (by kernel_rfl) (fun _ _ _ h => h) (Or.inl ⟨by rfl, ?_⟩) (by assumption) ?_
        rotate_left
        · (intro w hSw; (try dsimp only at hSw); (try obtain ⟨hSa, hSb⟩ := hSw); go_simp; try with_reducible rfl)
        try simp only [Act.put, List.setIfInBounds_toArray, List.set_cons_zero, List.set_cons_succ]
        refine wpAnyH_take (i := 4) (oi := { dst := some 39, op := Op.binOp BinOp.lss 3 (Operand.tmp 38) (Operand.const (Value.int IntKind.i64 0)) 3, type := 4, pos := "lines.go:46", after := #[{ on := 3, ground := Ground.data }], guard := none }) (v := ?_) rfl (by kernel_rfl) (by kernel_rfl) (by kernel_rfl) (fun _ _ _ h => h) (Or.inl ⟨by rfl, ?_⟩) (by assumption) ?_
        rotate_left
        · (intro w hSw; (try dsimp only at hSw); (try obtain ⟨hSa, hSb⟩ := hSw); go_simp; try with_reducible rfl)
        try simp only [Act.put, List.setIfInBounds_toArray, List.set_cons_zero, List.set_cons_succ]
        refine wpAnyH_take (i := 5) (oi := { dst := some 40, op := Op.move (Operand.tmp 39), type := 4, pos := "lines.go:46", after := #[{ on := 4, ground := Ground.data }], guard := none }) (v := ?_) rfl (by kernel_rfl) (by kernel_rfl) (by kernel_rfl) (fun _ _ _ h => h) (Or.inl ⟨by rfl, ?_⟩) (by assumption) ?_
        rotate_left
        · (intro w hSw; (try dsimp only at hSw); (try obtain ⟨hSa, hSb⟩ := hSw); go_simp; try with_reducible rfl)
        try simp only [Act.put, List.setIfInBounds_toArray, List.set_cons_zero, List.set_cons_succ]
        refine wpAnyH_take (i := 6) (oi := { dst := some 41, op := Op.move (Operand.tmp 1), type := 26, pos := "lines.go:46", after := #[{ on := 5, ground := Ground.guard }], guard := some (5, false) }) (v := ?_) rfl (by kernel_rfl) (by kernel_rfl) (by kernel_rfl) (fun _ _ _ h => h) (Or.inl ⟨by rfl, ?_⟩) (by assumption) ?_
        rotate_left
        · (intro w hSw; (try dsimp only at hSw); (try obtain ⟨hSa, hSb⟩ := hSw); go_simp; try with_reducible rfl)
        try simp only [Act.put, List.setIfInBounds_toArray, List.set_cons_zero, List.set_cons_succ]
        refine wpAnyH_take (i := 7) (oi := { dst := some 42, op := Op.move (Operand.tmp 9), type := 3, pos := "lines.go:46", after := #[{ on := 5, ground := Ground.guard }], guard := some (5, false) }) (v := ?_) rfl (by kernel_rfl) (by kernel_rfl) (by kernel_rfl) (fun _ _ _ h => h) (Or.inl ⟨by rfl, ?_⟩) (by assumption) ?_
        rotate_left
        · (intro w hSw; (try dsimp only at hSw); (try obtain ⟨hSa, hSb⟩ := hSw); go_simp; try with_reducible rfl)
        try simp only [Act.put, List.setIfInBounds_toArray, List.set_cons_zero, List.set_cons_succ]
        refine wpAnyH_take (i := 8) (oi := { dst := some 43, op := Op.indexAddr 26 (Operand.tmp 41) (Operand.tmp 42), type := 0, pos := "lines.go:46", after := #[{ on := 6, ground := Ground.data }, { on := 7, ground := Ground.data }, { on := 5, ground := Ground.guard }], guard := some (5, false) }) (v := ?_) rfl (by kernel_rfl) (by kernel_rfl) (by kernel_rfl) (fun _ _ _ h => h) (Or.inl ⟨by rfl, ?_⟩) (by assumption) ?_
        rotate_left
        · (intro w hSw; (try dsimp only at hSw); (try obtain ⟨hSa, hSb⟩ := hSw); go_simp; try with_reducible rfl)
        try simp only [Act.put, List.setIfInBounds_toArray, List.set_cons_zero, List.set_cons_succ]
        refine wpAnyH_take (i := 9) (oi := { dst := some 44, op := Op.load 3 (Operand.tmp 43), type := 3, pos := "lines.go:46", after := #[{ on := 8, ground := Ground.data }, { on := 5, ground := Ground.guard }], guard := some (5, false) }) (v := ?_) rfl (by kernel_rfl) (by kernel_rfl) (by kernel_rfl) (fun _ _ _ h => h) (Or.inl ⟨by rfl, ?_⟩) (by assumption) ?_
        rotate_left
        · (intro w hSw; (try dsimp only at hSw); (try obtain ⟨hSa, hSb⟩ := hSw); go_simp; try with_reducible rfl)
        try simp only [Act.put, List.setIfInBounds_toArray, List.set_cons_zero, List.set_cons_succ]
        refine wpAnyH_take (i := 10) (oi := { dst := some 45, op := Op.load 23 (Operand.tmp 3), type := 23, pos := "lines.go:46", after := #[{ on := 5, ground := Ground.guard }], guard := some (5, false) }) (v := ?_) rfl (by kernel_rfl) (by kernel_rfl) (by kernel_rfl) (fun _ _ _ h => h) (Or.inl ⟨by rfl, ?_⟩) (by assumption) ?_
        rotate_left
        · (intro w hSw; (try dsimp only at hSw); (try obtain ⟨hSa, hSb⟩ := hSw); go_simp; try with_reducible rfl)
        try simp only [Act.put, List.setIfInBounds_toArray, List.set_cons_zero, List.set_cons_succ]
        refine wpAnyH_ready (rs := [11]) (by kernel_rfl) (by simp) ?_
        refine AllReadyH.cons (o := { dst := some 46, op := Op.call { callee := Callee.value (Operand.func 39), args := #[Operand.tmp 45], argTypes := #[23] }, type := 3, pos := "lines.go:46", after := #[{ on := 10, ground := Ground.data }, { on := 5, ground := Ground.chain }, { on := 5, ground := Ground.guard }], guard := some (5, false) }) rfl (fun K hK => ?_) AllReadyH.nil
        go_simp
        (refine (HU.out _).mono ?_; rintro e w2 ⟨rfl, hO2⟩; have hOd := (Only.refl (fun _ => False) wr).drew.trans hO2; have HO2 := Lib.hid (HO.out.trans hOd); have HB2 := Lib.hid (HB.out.only hOd id); have HOUT2 := Lib.hid (HOUT.out.only hOd id); have HROW2 := Lib.hid (HROW.out.only hOd (fun _ => id)); have cg2 := HRG.out w2 k HO2.out hkn; have cw2 := HRW.out w2 k HO2.out hkn; rw [HGI2.out.1] at cg2; rw [HGI2.out.2] at cw2; clear hO2 hOd; try simp only [])
        refine hK.out _ _ ?_ (fun hHeld => ?_)
        · exact ⟨⟨⟨cg2, cw2⟩, HB2.out.cell 0, HB2.out.cell 1⟩, ⟨HB2.out.cell 2, HB2.out.cell 3⟩, HB2.out.cell 4⟩
        clear hK K
        try simp only [Act.put, List.setIfInBounds_toArray, List.set_cons_zero, List.set_cons_succ]
        refine wpAnyH_take (i := 12) (oi := { dst := some 47, op := Op.binOp BinOp.gtr 3 (Operand.tmp 44) (Operand.tmp 46) 3, type := 4, pos := "lines.go:46", after := #[{ on := 9, ground := Ground.data }, { on := 11, ground := Ground.data }, { on := 5, ground := Ground.guard }], guard := some (5, false) }) (v := ?_) rfl (by kernel_rfl) (by kernel_rfl) (by kernel_rfl) (fun _ _ _ h => h) (Or.inl ⟨by rfl, ?_⟩) (by assumption) ?_
        rotate_left
        · (intro w hSw; (try dsimp only at hSw); (try obtain ⟨hSa, hSb⟩ := hSw); go_simp; try with_reducible rfl)
        try simp only [Act.put, List.setIfInBounds_toArray, List.set_cons_zero, List.set_cons_succ]
        refine wpAnyH_take (i := 13) (oi := { dst := some 48, op := Op.pick (Operand.tmp 40) (Operand.const (Value.bool true)) (Operand.tmp 47), type := 4, pos := "lines.go:46", after := #[{ on := 5, ground := Ground.data }, { on := 12, ground := Ground.data }], guard := none }) (v := ?_) rfl (by kernel_rfl) (by kernel_rfl) (by kernel_rfl) (fun _ _ _ h => h) (Or.inl ⟨by rfl, ?_⟩) (by assumption) ?_
        rotate_left
        · (intro w hSw; (try dsimp only at hSw); (try obtain ⟨hSa, hSb⟩ := hSw); go_simp; try with_reducible rfl)
        try simp only [Act.put, List.setIfInBounds_toArray, List.set_cons_zero, List.set_cons_succ]
        refine wpAnyH_take (i := 14) (oi := { dst := some 49, op := Op.move (Operand.tmp 48), type := 4, pos := "lines.go:46", after := #[{ on := 13, ground := Ground.data }, { on := 11, ground := Ground.chain }], guard := none }) (v := ?_) rfl (by kernel_rfl) (by kernel_rfl) (by kernel_rfl) (fun _ _ _ h => h) (Or.inl ⟨by rfl, ?_⟩) (by assumption) ?_
        rotate_left
        · (intro w hSw; (try dsimp only at hSw); (try obtain ⟨hSa, hSb⟩ := hSw); go_simp; try with_reducible rfl)
        try simp only [Act.put, List.setIfInBounds_toArray, List.set_cons_zero, List.set_cons_succ]
        refine wpAnyH_take (i := 15) (oi := { dst := some 50, op := Op.move (Operand.tmp 2), type := 26, pos := "lines.go:46", after := #[{ on := 14, ground := Ground.guard }], guard := some (14, false) }) (v := ?_) rfl (by kernel_rfl) (by kernel_rfl) (by kernel_rfl) (fun _ _ _ h => h) (Or.inl ⟨by rfl, ?_⟩) (by assumption) ?_
        rotate_left
        · (intro w hSw; (try dsimp only at hSw); (try obtain ⟨hSa, hSb⟩ := hSw); go_simp; try with_reducible rfl)
        try simp only [Act.put, List.setIfInBounds_toArray, List.set_cons_zero, List.set_cons_succ]
        refine wpAnyH_take (i := 16) (oi := { dst := some 51, op := Op.move (Operand.tmp 9), type := 3, pos := "lines.go:46", after := #[{ on := 14, ground := Ground.guard }], guard := some (14, false) }) (v := ?_) rfl (by kernel_rfl) (by kernel_rfl) (by kernel_rfl) (fun _ _ _ h => h) (Or.inl ⟨by rfl, ?_⟩) (by assumption) ?_
        rotate_left
        · (intro w hSw; (try dsimp only at hSw); (try obtain ⟨hSa, hSb⟩ := hSw); go_simp; try with_reducible rfl)
        try simp only [Act.put, List.setIfInBounds_toArray, List.set_cons_zero, List.set_cons_succ]
        refine wpAnyH_take (i := 17) (oi := { dst := some 52, op := Op.indexAddr 26 (Operand.tmp 50) (Operand.tmp 51), type := 0, pos := "lines.go:46", after := #[{ on := 15, ground := Ground.data }, { on := 16, ground := Ground.data }, { on := 14, ground := Ground.guard }], guard := some (14, false) }) (v := ?_) rfl (by kernel_rfl) (by kernel_rfl) (by kernel_rfl) (fun _ _ _ h => h) (Or.inl ⟨by rfl, ?_⟩) (by assumption) ?_
        rotate_left
        · (intro w hSw; (try dsimp only at hSw); (try obtain ⟨hSa, hSb⟩ := hSw); go_simp; try with_reducible rfl)
        try simp only [Act.put, List.setIfInBounds_toArray, List.set_cons_zero, List.set_cons_succ]
        refine wpAnyH_take (i := 18) (oi := { dst := some 53, op := Op.load 3 (Operand.tmp 52), type := 3, pos := "lines.go:46", after := #[{ on := 17, ground := Ground.data }, { on := 14, ground := Ground.guard }], guard := some (14, false) }) (v := ?_) rfl (by kernel_rfl) (by kernel_rfl) (by kernel_rfl) (fun _ _ _ h => h) (Or.inl ⟨by rfl, ?_⟩) (by assumption) ?_
        rotate_left
        · (intro w hSw; (try dsimp only at hSw); (try obtain ⟨hSa, hSb⟩ := hSw); go_simp; try with_reducible rfl)
        try simp only [Act.put, List.setIfInBounds_toArray, List.set_cons_zero, List.set_cons_succ]
        refine wpAnyH_take (i := 19) (oi := { dst := some 54, op := Op.binOp BinOp.lss 3 (Operand.tmp 53) (Operand.const (Value.int IntKind.i64 0)) 3, type := 4, pos := "lines.go:46", after := #[{ on := 18, ground := Ground.data }, { on := 14, ground := Ground.guard }], guard := some (14, false) }) (v := ?_) rfl (by kernel_rfl) (by kernel_rfl) (by kernel_rfl) (fun _ _ _ h => h) (Or.inl ⟨by rfl, ?_⟩) (by assumption) ?_
        rotate_left
        · (intro w hSw; (try dsimp only at hSw); (try obtain ⟨hSa, hSb⟩ := hSw); go_simp; try with_reducible rfl)
        try simp only [Act.put, List.setIfInBounds_toArray, List.set_cons_zero, List.set_cons_succ]
        refine wpAnyH_take (i := 20) (oi := { dst := some 55, op := Op.pick (Operand.tmp 49) (Operand.const (Value.bool true)) (Operand.tmp 54), type := 4, pos := "lines.go:46", after := #[{ on := 14, ground := Ground.data }, { on := 19, ground := Ground.data }], guard := none }) (v := ?_) rfl (by kernel_rfl) (by kernel_rfl) (by kernel_rfl) (fun _ _ _ h => h) (Or.inl ⟨by rfl, ?_⟩) (by assumption) ?_
        rotate_left
        · (intro w hSw; (try dsimp only at hSw); (try obtain ⟨hSa, hSb⟩ := hSw); go_simp; try with_reducible rfl)
        try simp only [Act.put, List.setIfInBounds_toArray, List.set_cons_zero, List.set_cons_succ]
        refine wpAnyH_take (i := 21) (oi := { dst := some 56, op := Op.move (Operand.tmp 55), type := 4, pos := "lines.go:46", after := #[{ on := 20, ground := Ground.data }, { on := 14, ground := Ground.chain }], guard := none }) (v := ?_) rfl (by kernel_rfl) (by kernel_rfl) (by kernel_rfl) (fun _ _ _ h => h) (Or.inl ⟨by rfl, ?_⟩) (by assumption) ?_
        rotate_left
        · (intro w hSw; (try dsimp only at hSw); (try obtain ⟨hSa, hSb⟩ := hSw); go_simp; try with_reducible rfl)
        try simp only [Act.put, List.setIfInBounds_toArray, List.set_cons_zero, List.set_cons_succ]
        refine wpAnyH_take (i := 22) (oi := { dst := some 57, op := Op.move (Operand.tmp 2), type := 26, pos := "lines.go:46", after := #[{ on := 21, ground := Ground.guard }], guard := some (21, false) }) (v := undef) rfl (by kernel_rfl) (by kernel_rfl) (by kernel_rfl) (fun _ _ _ h => h) (Or.inr ⟨by rfl, rfl⟩) (by assumption) ?_
        try simp only [Act.put, List.setIfInBounds_toArray, List.set_cons_zero, List.set_cons_succ]
        refine wpAnyH_take (i := 23) (oi := { dst := some 58, op := Op.move (Operand.tmp 9), type := 3, pos := "lines.go:46", after := #[{ on := 21, ground := Ground.guard }], guard := some (21, false) }) (v := undef) rfl (by kernel_rfl) (by kernel_rfl) (by kernel_rfl) (fun _ _ _ h => h) (Or.inr ⟨by rfl, rfl⟩) (by assumption) ?_
        try simp only [Act.put, List.setIfInBounds_toArray, List.set_cons_zero, List.set_cons_succ]
        refine wpAnyH_take (i := 24) (oi := { dst := some 59, op := Op.indexAddr 26 (Operand.tmp 57) (Operand.tmp 58), type := 0, pos := "lines.go:46", after := #[{ on := 22, ground := Ground.data }, { on := 23, ground := Ground.data }, { on := 21, ground := Ground.guard }], guard := some (21, false) }) (v := undef) rfl (by kernel_rfl) (by kernel_rfl) (by kernel_rfl) (fun _ _ _ h => h) (Or.inr ⟨by rfl, rfl⟩) (by assumption) ?_
        try simp only [Act.put, List.setIfInBounds_toArray, List.set_cons_zero, List.set_cons_succ]
        refine wpAnyH_take (i := 25) (oi := { dst := some 60, op := Op.load 3 (Operand.tmp 59), type := 3, pos := "lines.go:46", after := #[{ on := 24, ground := Ground.data }, { on := 21, ground := Ground.guard }], guard := some (21, false) }) (v := undef) rfl (by kernel_rfl) (by kernel_rfl) (by kernel_rfl) (fun _ _ _ h => h) (Or.inr ⟨by rfl, rfl⟩) (by assumption) ?_
        try simp only [Act.put, List.setIfInBounds_toArray, List.set_cons_zero, List.set_cons_succ]
        refine wpAnyH_take (i := 26) (oi := { dst := some 61, op := Op.binOp BinOp.gtr 3 (Operand.tmp 60) (Operand.const (Value.int IntKind.i64 2147483647)) 3, type := 4, pos := "lines.go:46", after := #[{ on := 25, ground := Ground.data }, { on := 21, ground := Ground.guard }], guard := some (21, false) }) (v := undef) rfl (by kernel_rfl) (by kernel_rfl) (by kernel_rfl) (fun _ _ _ h => h) (Or.inr ⟨by rfl, rfl⟩) (by assumption) ?_
        try simp only [Act.put, List.setIfInBounds_toArray, List.set_cons_zero, List.set_cons_succ]
        refine wpAnyH_take (i := 27) (oi := { dst := some 62, op := Op.pick (Operand.tmp 56) (Operand.const (Value.bool true)) (Operand.tmp 61), type := 4, pos := "lines.go:46", after := #[{ on := 21, ground := Ground.data }, { on := 26, ground := Ground.data }], guard := none }) (v := ?_) rfl (by kernel_rfl) (by kernel_rfl) (by kernel_rfl) (fun _ _ _ h => h) (Or.inl ⟨by rfl, ?_⟩) (by assumption) ?_
        rotate_left
        · (intro w hSw; (try dsimp only at hSw); (try obtain ⟨hSa, hSb⟩ := hSw); go_simp; try with_reducible rfl)
        try simp only [Act.put, List.setIfInBounds_toArray, List.set_cons_zero, List.set_cons_succ]
        refine wpAnyH_done (by kernel_rfl) ?_ _
        go_wp2
        go_ret2
        exact .inr ⟨HNN.out, rfl, HO2.out⟩
      have d3 : decide (wi < 0) = false := by simp; omega
      by_cases h4 : 2147483647 < wi
      case pos =>
        have HNN := Lib.hid (HNK.out (fun h => by omega))
        have d4 : decide (2147483647 < wi) = true := by simp [h4]
        clear h1 h2 h3 h4
        refine wp_region_held_drew (S := (fun W => ((W.cell? ⟨gg, og + k, none⟩ = some (.int .i64 gi) ∧ W.cell? ⟨gw, ow + k, none⟩ = some (.int .i64 wi)) ∧ (W.cell? ⟨w.heap.size, 0, none⟩ = some (.int .i64 G.c) ∧ W.cell? ⟨w.heap.size, 1, none⟩ = some (.int .i64 G.l))) ∧ ((W.cell? ⟨w.heap.size, 2, none⟩ = some (.int .i64 G.b) ∧ W.cell? ⟨w.heap.size, 3, none⟩ = some (.int .i64 G.p)) ∧ W.cell? ⟨w.heap.size, 4, none⟩ = some (.int .i64 G.s)))) (by kernel_rfl) ?_ (fun hHeld => ?_)
        · exact ⟨⟨⟨cg0, cw0⟩, HB.out.cell 0, HB.out.cell 1⟩, ⟨HB.out.cell 2, HB.out.cell 3⟩, HB.out.cell 4⟩
        refine wpAnyH_take (i := 0) (oi := { dst := some 35, op := Op.move (Operand.tmp 1), type := 26, pos := "lines.go:46", after := #[], guard := none }) (v := ?_) rfl (by kernel_rfl) (by kernel_rfl) (by kernel_rfl) (fun _ _ _ h => h) (Or.inl ⟨by rfl, ?_⟩) (by assumption) ?_
        rotate_left
        · (intro w hSw; (try dsimp only at hSw); (try obtain ⟨hSa, hSb⟩ := hSw); go_simp; try with_reducible rfl)
        try simp only [Act.put, List.setIfInBounds_toArray, List.set_cons_zero, List.set_cons_succ]
        refine wpAnyH_take (i := 1) (oi := { dst := some 36, op := Op.move (Operand.tmp 9), type := 3, pos := "lines.go:46", after := #[], guard := none }) (v := ?_) rfl (by kernel_rfl) (by kernel_rfl) (by kernel_rfl) (fun _ _ _ h => h) (Or.inl ⟨by rfl, ?_⟩) (by assumption) ?_
        rotate_left
        · (intro w hSw; (try dsimp only at hSw); (try obtain ⟨hSa, hSb⟩ := hSw); go_simp; try with_reducible rfl)
        try simp only [Act.put, List.setIfInBounds_toArray, List.set_cons_zero, List.set_cons_succ]
        refine wpAnyH_take (i := 2) (oi := { dst := some 37, op := Op.indexAddr 26 (Operand.tmp 35) (Operand.tmp 36), type := 0, pos := "lines.go:46", after := #[{ on := 0, ground := Ground.data }, { on := 1, ground := Ground.data }], guard := none }) (v := ?_) rfl (by kernel_rfl) (by kernel_rfl) (by kernel_rfl) (fun _ _ _ h => h) (Or.inl ⟨by rfl, ?_⟩) (by assumption) ?_
        rotate_left
        · (intro w hSw; (try dsimp only at hSw); (try obtain ⟨hSa, hSb⟩ := hSw); go_simp; try with_reducible rfl)
        try simp only [Act.put, List.setIfInBounds_toArray, List.set_cons_zero, List.set_cons_succ]
        refine wpAnyH_take (i := 3) (oi := { dst := some 38, op := Op.load 3 (Operand.tmp 37), type := 3, pos := "lines.go:46", after := #[{ on := 2, ground := Ground.data }], guard := none }) (v := ?_) rfl (by kernel_rfl) (by kernel_rfl) (by kernel_rfl) (fun _ _ _ h => h) (Or.inl ⟨by rfl, ?_⟩) (by assumption) ?_
        rotate_left
        · (intro w hSw; (try dsimp only at hSw); (try obtain ⟨hSa, hSb⟩ := hSw); go_simp; try with_reducible rfl)
        try simp only [Act.put, List.setIfInBounds_toArray, List.set_cons_zero, List.set_cons_succ]
        refine wpAnyH_take (i := 4) (oi := { dst := some 39, op := Op.binOp BinOp.lss 3 (Operand.tmp 38) (Operand.const (Value.int IntKind.i64 0)) 3, type := 4, pos := "lines.go:46", after := #[{ on := 3, ground := Ground.data }], guard := none }) (v := ?_) rfl (by kernel_rfl) (by kernel_rfl) (by kernel_rfl) (fun _ _ _ h => h) (Or.inl ⟨by rfl, ?_⟩) (by assumption) ?_
        rotate_left
        · (intro w hSw; (try dsimp only at hSw); (try obtain ⟨hSa, hSb⟩ := hSw); go_simp; try with_reducible rfl)
        try simp only [Act.put, List.setIfInBounds_toArray, List.set_cons_zero, List.set_cons_succ]
        refine wpAnyH_take (i := 5) (oi := { dst := some 40, op := Op.move (Operand.tmp 39), type := 4, pos := "lines.go:46", after := #[{ on := 4, ground := Ground.data }], guard := none }) (v := ?_) rfl (by kernel_rfl) (by kernel_rfl) (by kernel_rfl) (fun _ _ _ h => h) (Or.inl ⟨by rfl, ?_⟩) (by assumption) ?_
        rotate_left
        · (intro w hSw; (try dsimp only at hSw); (try obtain ⟨hSa, hSb⟩ := hSw); go_simp; try with_reducible rfl)
        try simp only [Act.put, List.setIfInBounds_toArray, List.set_cons_zero, List.set_cons_succ]
        refine wpAnyH_take (i := 6) (oi := { dst := some 41, op := Op.move (Operand.tmp 1), type := 26, pos := "lines.go:46", after := #[{ on := 5, ground := Ground.guard }], guard := some (5, false) }) (v := ?_) rfl (by kernel_rfl) (by kernel_rfl) (by kernel_rfl) (fun _ _ _ h => h) (Or.inl ⟨by rfl, ?_⟩) (by assumption) ?_
        rotate_left
        · (intro w hSw; (try dsimp only at hSw); (try obtain ⟨hSa, hSb⟩ := hSw); go_simp; try with_reducible rfl)
        try simp only [Act.put, List.setIfInBounds_toArray, List.set_cons_zero, List.set_cons_succ]
        refine wpAnyH_take (i := 7) (oi := { dst := some 42, op := Op.move (Operand.tmp 9), type := 3, pos := "lines.go:46", after := #[{ on := 5, ground := Ground.guard }], guard := some (5, false) }) (v := ?_) rfl (by kernel_rfl) (by kernel_rfl) (by kernel_rfl) (fun _ _ _ h => h) (Or.inl ⟨by rfl, ?_⟩) (by assumption) ?_
        rotate_left
        · (intro w hSw; (try dsimp only at hSw); (try obtain ⟨hSa, hSb⟩ := hSw); go_simp; try with_reducible rfl)
        try simp only [Act.put, List.setIfInBounds_toArray, List.set_cons_zero, List.set_cons_succ]
        refine wpAnyH_take (i := 8) (oi := { dst := some 43, op := Op.indexAddr 26 (Operand.tmp 41) (Operand.tmp 42), type := 0, pos := "lines.go:46", after := #[{ on := 6, ground := Ground.data }, { on := 7, ground := Ground.data }, { on := 5, ground := Ground.guard }], guard := some (5, false) }) (v := ?_) rfl (by kernel_rfl) (by kernel_rfl) (by kernel_rfl) (fun _ _ _ h => h) (Or.inl ⟨by rfl, ?_⟩) (by assumption) ?_
        rotate_left
        · (intro w hSw; (try dsimp only at hSw); (try obtain ⟨hSa, hSb⟩ := hSw); go_simp; try with_reducible rfl)
        try simp only [Act.put, List.setIfInBounds_toArray, List.set_cons_zero, List.set_cons_succ]
        refine wpAnyH_take (i := 9) (oi := { dst := some 44, op := Op.load 3 (Operand.tmp 43), type := 3, pos := "lines.go:46", after := #[{ on := 8, ground := Ground.data }, { on := 5, ground := Ground.guard }], guard := some (5, false) }) (v := ?_) rfl (by kernel_rfl) (by kernel_rfl) (by kernel_rfl) (fun _ _ _ h => h) (Or.inl ⟨by rfl, ?_⟩) (by assumption) ?_
        rotate_left
        · (intro w hSw; (try dsimp only at hSw); (try obtain ⟨hSa, hSb⟩ := hSw); go_simp; try with_reducible rfl)
        try simp only [Act.put, List.setIfInBounds_toArray, List.set_cons_zero, List.set_cons_succ]
        refine wpAnyH_take (i := 10) (oi := { dst := some 45, op := Op.load 23 (Operand.tmp 3), type := 23, pos := "lines.go:46", after := #[{ on := 5, ground := Ground.guard }], guard := some (5, false) }) (v := ?_) rfl (by kernel_rfl) (by kernel_rfl) (by kernel_rfl) (fun _ _ _ h => h) (Or.inl ⟨by rfl, ?_⟩) (by assumption) ?_
        rotate_left
        · (intro w hSw; (try dsimp only at hSw); (try obtain ⟨hSa, hSb⟩ := hSw); go_simp; try with_reducible rfl)
        try simp only [Act.put, List.setIfInBounds_toArray, List.set_cons_zero, List.set_cons_succ]
        refine wpAnyH_ready (rs := [11]) (by kernel_rfl) (by simp) ?_
        refine AllReadyH.cons (o := { dst := some 46, op := Op.call { callee := Callee.value (Operand.func 39), args := #[Operand.tmp 45], argTypes := #[23] }, type := 3, pos := "lines.go:46", after := #[{ on := 10, ground := Ground.data }, { on := 5, ground := Ground.chain }, { on := 5, ground := Ground.guard }], guard := some (5, false) }) rfl (fun K hK => ?_) AllReadyH.nil
        go_simp
        (refine (HU.out _).mono ?_; rintro e w2 ⟨rfl, hO2⟩; have hOd := (Only.refl (fun _ => False) wr).drew.trans hO2; have HO2 := Lib.hid (HO.out.trans hOd); have HB2 := Lib.hid (HB.out.only hOd id); have HOUT2 := Lib.hid (HOUT.out.only hOd id); have HROW2 := Lib.hid (HROW.out.only hOd (fun _ => id)); have cg2 := HRG.out w2 k HO2.out hkn; have cw2 := HRW.out w2 k HO2.out hkn; rw [HGI2.out.1] at cg2; rw [HGI2.out.2] at cw2; clear hO2 hOd; try simp only [])
        refine hK.out _ _ ?_ (fun hHeld => ?_)
        · exact ⟨⟨⟨cg2, cw2⟩, HB2.out.cell 0, HB2.out.cell 1⟩, ⟨HB2.out.cell 2, HB2.out.cell 3⟩, HB2.out.cell 4⟩
        clear hK K
        try simp only [Act.put, List.setIfInBounds_toArray, List.set_cons_zero, List.set_cons_succ]
        refine wpAnyH_take (i := 12) (oi := { dst := some 47, op := Op.binOp BinOp.gtr 3 (Operand.tmp 44) (Operand.tmp 46) 3, type := 4, pos := "lines.go:46", after := #[{ on := 9, ground := Ground.data }, { on := 11, ground := Ground.data }, { on := 5, ground := Ground.guard }], guard := some (5, false) }) (v := ?_) rfl (by kernel_rfl) (by kernel_rfl) (by kernel_rfl) (fun _ _ _ h => h) (Or.inl ⟨by rfl, ?_⟩) (by assumption) ?_
        rotate_left
        · (intro w hSw; (try dsimp only at hSw); (try obtain ⟨hSa, hSb⟩ := hSw); go_simp; try with_reducible rfl)
        try simp only [Act.put, List.setIfInBounds_toArray, List.set_cons_zero, List.set_cons_succ]
        refine wpAnyH_take (i := 13) (oi := { dst := some 48, op := Op.pick (Operand.tmp 40) (Operand.const (Value.bool true)) (Operand.tmp 47), type := 4, pos := "lines.go:46", after := #[{ on := 5, ground := Ground.data }, { on := 12, ground := Ground.data }], guard := none }) (v := ?_) rfl (by kernel_rfl) (by kernel_rfl) (by kernel_rfl) (fun _ _ _ h => h) (Or.inl ⟨by rfl, ?_⟩) (by assumption) ?_
        rotate_left
        · (intro w hSw; (try dsimp only at hSw); (try obtain ⟨hSa, hSb⟩ := hSw); go_simp; try with_reducible rfl)
        try simp only [Act.put, List.setIfInBounds_toArray, List.set_cons_zero, List.set_cons_succ]
        refine wpAnyH_take (i := 14) (oi := { dst := some 49, op := Op.move (Operand.tmp 48), type := 4, pos := "lines.go:46", after := #[{ on := 13, ground := Ground.data }, { on := 11, ground := Ground.chain }], guard := none }) (v := ?_) rfl (by kernel_rfl) (by kernel_rfl) (by kernel_rfl) (fun _ _ _ h => h) (Or.inl ⟨by rfl, ?_⟩) (by assumption) ?_
        rotate_left
        · (intro w hSw; (try dsimp only at hSw); (try obtain ⟨hSa, hSb⟩ := hSw); go_simp; try with_reducible rfl)
        try simp only [Act.put, List.setIfInBounds_toArray, List.set_cons_zero, List.set_cons_succ]
        refine wpAnyH_take (i := 15) (oi := { dst := some 50, op := Op.move (Operand.tmp 2), type := 26, pos := "lines.go:46", after := #[{ on := 14, ground := Ground.guard }], guard := some (14, false) }) (v := ?_) rfl (by kernel_rfl) (by kernel_rfl) (by kernel_rfl) (fun _ _ _ h => h) (Or.inl ⟨by rfl, ?_⟩) (by assumption) ?_
        rotate_left
        · (intro w hSw; (try dsimp only at hSw); (try obtain ⟨hSa, hSb⟩ := hSw); go_simp; try with_reducible rfl)
        try simp only [Act.put, List.setIfInBounds_toArray, List.set_cons_zero, List.set_cons_succ]
        refine wpAnyH_take (i := 16) (oi := { dst := some 51, op := Op.move (Operand.tmp 9), type := 3, pos := "lines.go:46", after := #[{ on := 14, ground := Ground.guard }], guard := some (14, false) }) (v := ?_) rfl (by kernel_rfl) (by kernel_rfl) (by kernel_rfl) (fun _ _ _ h => h) (Or.inl ⟨by rfl, ?_⟩) (by assumption) ?_
        rotate_left
        · (intro w hSw; (try dsimp only at hSw); (try obtain ⟨hSa, hSb⟩ := hSw); go_simp; try with_reducible rfl)
        try simp only [Act.put, List.setIfInBounds_toArray, List.set_cons_zero, List.set_cons_succ]
        refine wpAnyH_take (i := 17) (oi := { dst := some 52, op := Op.indexAddr 26 (Operand.tmp 50) (Operand.tmp 51), type := 0, pos := "lines.go:46", after := #[{ on := 15, ground := Ground.data }, { on := 16, ground := Ground.data }, { on := 14, ground := Ground.guard }], guard := some (14, false) }) (v := ?_) rfl (by kernel_rfl) (by kernel_rfl) (by kernel_rfl) (fun _ _ _ h => h) (Or.inl ⟨by rfl, ?_⟩) (by assumption) ?_
        rotate_left
        · (intro w hSw; (try dsimp only at hSw); (try obtain ⟨hSa, hSb⟩ := hSw); go_simp; try with_reducible rfl)
        try simp only [Act.put, List.setIfInBounds_toArray, List.set_cons_zero, List.set_cons_succ]
        refine wpAnyH_take (i := 18) (oi := { dst := some 53, op := Op.load 3 (Operand.tmp 52), type := 3, pos := "lines.go:46", after := #[{ on := 17, ground := Ground.data }, { on := 14, ground := Ground.guard }], guard := some (14, false) }) (v := ?_) rfl (by kernel_rfl) (by kernel_rfl) (by kernel_rfl) (fun _ _ _ h => h) (Or.inl ⟨by rfl, ?_⟩) (by assumption) ?_
        rotate_left
        · (intro w hSw; (try dsimp only at hSw); (try obtain ⟨hSa, hSb⟩ := hSw); go_simp; try with_reducible rfl)
        try simp only [Act.put, List.setIfInBounds_toArray, List.set_cons_zero, List.set_cons_succ]
        refine wpAnyH_take (i := 19) (oi := { dst := some 54, op := Op.binOp BinOp.lss 3 (Operand.tmp 53) (Operand.const (Value.int IntKind.i64 0)) 3, type := 4, pos := "lines.go:46", after := #[{ on := 18, ground := Ground.data }, { on := 14, ground := Ground.guard }], guard := some (14, false) }) (v := ?_) rfl (by kernel_rfl) (by kernel_rfl) (by kernel_rfl) (fun _ _ _ h => h) (Or.inl ⟨by rfl, ?_⟩) (by assumption) ?_
        rotate_left
        · (intro w hSw; (try dsimp only at hSw); (try obtain ⟨hSa, hSb⟩ := hSw); go_simp; try with_reducible rfl)
        try simp only [Act.put, List.setIfInBounds_toArray, List.set_cons_zero, List.set_cons_succ]
        refine wpAnyH_take (i := 20) (oi := { dst := some 55, op := Op.pick (Operand.tmp 49) (Operand.const (Value.bool true)) (Operand.tmp 54), type := 4, pos := "lines.go:46", after := #[{ on := 14, ground := Ground.data }, { on := 19, ground := Ground.data }], guard := none }) (v := ?_) rfl (by kernel_rfl) (by kernel_rfl) (by kernel_rfl) (fun _ _ _ h => h) (Or.inl ⟨by rfl, ?_⟩) (by assumption) ?_
        rotate_left
        · (intro w hSw; (try dsimp only at hSw); (try obtain ⟨hSa, hSb⟩ := hSw); go_simp; try with_reducible rfl)
        try simp only [Act.put, List.setIfInBounds_toArray, List.set_cons_zero, List.set_cons_succ]
        refine wpAnyH_take (i := 21) (oi := { dst := some 56, op := Op.move (Operand.tmp 55), type := 4, pos := "lines.go:46", after := #[{ on := 20, ground := Ground.data }, { on := 14, ground := Ground.chain }], guard := none }) (v := ?_) rfl (by kernel_rfl) (by kernel_rfl) (by kernel_rfl) (fun _ _ _ h => h) (Or.inl ⟨by rfl, ?_⟩) (by assumption) ?_
        rotate_left
        · (intro w hSw; (try dsimp only at hSw); (try obtain ⟨hSa, hSb⟩ := hSw); go_simp; try with_reducible rfl)
        try simp only [Act.put, List.setIfInBounds_toArray, List.set_cons_zero, List.set_cons_succ]
        refine wpAnyH_take (i := 22) (oi := { dst := some 57, op := Op.move (Operand.tmp 2), type := 26, pos := "lines.go:46", after := #[{ on := 21, ground := Ground.guard }], guard := some (21, false) }) (v := ?_) rfl (by kernel_rfl) (by kernel_rfl) (by kernel_rfl) (fun _ _ _ h => h) (Or.inl ⟨by rfl, ?_⟩) (by assumption) ?_
        rotate_left
        · (intro w hSw; (try dsimp only at hSw); (try obtain ⟨hSa, hSb⟩ := hSw); go_simp; try with_reducible rfl)
        try simp only [Act.put, List.setIfInBounds_toArray, List.set_cons_zero, List.set_cons_succ]
        refine wpAnyH_take (i := 23) (oi := { dst := some 58, op := Op.move (Operand.tmp 9), type := 3, pos := "lines.go:46", after := #[{ on := 21, ground := Ground.guard }], guard := some (21, false) }) (v := ?_) rfl (by kernel_rfl) (by kernel_rfl) (by kernel_rfl) (fun _ _ _ h => h) (Or.inl ⟨by rfl, ?_⟩) (by assumption) ?_
        rotate_left
        · (intro w hSw; (try dsimp only at hSw); (try obtain ⟨hSa, hSb⟩ := hSw); go_simp; try with_reducible rfl)
        try simp only [Act.put, List.setIfInBounds_toArray, List.set_cons_zero, List.set_cons_succ]
        refine wpAnyH_take (i := 24) (oi := { dst := some 59, op := Op.indexAddr 26 (Operand.tmp 57) (Operand.tmp 58), type := 0, pos := "lines.go:46", after := #[{ on := 22, ground := Ground.data }, { on := 23, ground := Ground.data }, { on := 21, ground := Ground.guard }], guard := some (21, false) }) (v := ?_) rfl (by kernel_rfl) (by kernel_rfl) (by kernel_rfl) (fun _ _ _ h => h) (Or.inl ⟨by rfl, ?_⟩) (by assumption) ?_
        rotate_left
        · (intro w hSw; (try dsimp only at hSw); (try obtain ⟨hSa, hSb⟩ := hSw); go_simp; try with_reducible rfl)
        try simp only [Act.put, List.setIfInBounds_toArray, List.set_cons_zero, List.set_cons_succ]
        refine wpAnyH_take (i := 25) (oi := { dst := some 60, op := Op.load 3 (Operand.tmp 59), type := 3, pos := "lines.go:46", after := #[{ on := 24, ground := Ground.data }, { on := 21, ground := Ground.guard }], guard := some (21, false) }) (v := ?_) rfl (by kernel_rfl) (by kernel_rfl) (by kernel_rfl) (fun _ _ _ h => h) (Or.inl ⟨by rfl, ?_⟩) (by assumption) ?_
        rotate_left
        · (intro w hSw; (try dsimp only at hSw); (try obtain ⟨hSa, hSb⟩ := hSw); go_simp; try with_reducible rfl)
        try simp only [Act.put, List.setIfInBounds_toArray, List.set_cons_zero, List.set_cons_succ]
        refine wpAnyH_take (i := 26) (oi := { dst := some 61, op := Op.binOp BinOp.gtr 3 (Operand.tmp 60) (Operand.const (Value.int IntKind.i64 2147483647)) 3, type := 4, pos := "lines.go:46", after := #[{ on := 25, ground := Ground.data }, { on := 21, ground := Ground.guard }], guard := some (21, false) }) (v := ?_) rfl (by kernel_rfl) (by kernel_rfl) (by kernel_rfl) (fun _ _ _ h => h) (Or.inl ⟨by rfl, ?_⟩) (by assumption) ?_
        rotate_left
        · (intro w hSw; (try dsimp only at hSw); (try obtain ⟨hSa, hSb⟩ := hSw); go_simp; try with_reducible rfl)
        try simp only [Act.put, List.setIfInBounds_toArray, List.set_cons_zero, List.set_cons_succ]
        refine wpAnyH_take (i := 27) (oi := { dst := some 62, op := Op.pick (Operand.tmp 56) (Operand.const (Value.bool true)) (Operand.tmp 61), type := 4, pos := "lines.go:46", after := #[{ on := 21, ground := Ground.data }, { on := 26, ground := Ground.data }], guard := none }) (v := ?_) rfl (by kernel_rfl) (by kernel_rfl) (by kernel_rfl) (fun _ _ _ h => h) (Or.inl ⟨by rfl, ?_⟩) (by assumption) ?_
        rotate_left
        · (intro w hSw; (try dsimp only at hSw); (try obtain ⟨hSa, hSb⟩ := hSw); go_simp; try with_reducible rfl)
        try simp only [Act.put, List.setIfInBounds_toArray, List.set_cons_zero, List.set_cons_succ]
        refine wpAnyH_done (by kernel_rfl) ?_ _
        go_wp2
        go_ret2
        exact .inr ⟨HNN.out, rfl, HO2.out⟩
      have d4 : decide (2147483647 < wi) = false := by simp; omega
      have HST2 := Lib.hid (HST.out (by omega))
      clear h1 h2 h3 h4
      refine wp_region_held_drew (S := (fun W => ((W.cell? ⟨gg, og + k, none⟩ = some (.int .i64 gi) ∧ W.cell? ⟨gw, ow + k, none⟩ = some (.int .i64 wi)) ∧ (W.cell? ⟨w.heap.size, 0, none⟩ = some (.int .i64 G.c) ∧ W.cell? ⟨w.heap.size, 1, none⟩ = some (.int .i64 G.l))) ∧ ((W.cell? ⟨w.heap.size, 2, none⟩ = some (.int .i64 G.b) ∧ W.cell? ⟨w.heap.size, 3, none⟩ = some (.int .i64 G.p)) ∧ W.cell? ⟨w.heap.size, 4, none⟩ = some (.int .i64 G.s)))) (by kernel_rfl) ?_ (fun hHeld => ?_)
      · exact ⟨⟨⟨cg0, cw0⟩, HB.out.cell 0, HB.out.cell 1⟩, ⟨HB.out.cell 2, HB.out.cell 3⟩, HB.out.cell 4⟩
      refine wpAnyH_take (i := 0) (oi := { dst := some 35, op := Op.move (Operand.tmp 1), type := 26, pos := "lines.go:46", after := #[], guard := none }) (v := ?_) rfl (by kernel_rfl) (by kernel_rfl) (by kernel_rfl) (fun _ _ _ h => h) (Or.inl ⟨by rfl, ?_⟩) (by assumption) ?_
      rotate_left
      · (intro w hSw; (try dsimp only at hSw); (try obtain ⟨hSa, hSb⟩ := hSw); go_simp; try with_reducible rfl)
      try simp only [Act.put, List.setIfInBounds_toArray, List.set_cons_zero, List.set_cons_succ]
      refine wpAnyH_take (i := 1) (oi := { dst := some 36, op := Op.move (Operand.tmp 9), type := 3, pos := "lines.go:46", after := #[], guard := none }) (v := ?_) rfl (by kernel_rfl) (by kernel_rfl) (by kernel_rfl) (fun _ _ _ h => h) (Or.inl ⟨by rfl, ?_⟩) (by assumption) ?_
      rotate_left
      · (intro w hSw; (try dsimp only at hSw); (try obtain ⟨hSa, hSb⟩ := hSw); go_simp; try with_reducible rfl)
      try simp only [Act.put, List.setIfInBounds_toArray, List.set_cons_zero, List.set_cons_succ]
      refine wpAnyH_take (i := 2) (oi := { dst := some 37, op := Op.indexAddr 26 (Operand.tmp 35) (Operand.tmp 36), type := 0, pos := "lines.go:46", after := #[{ on := 0, ground := Ground.data }, { on := 1, ground := Ground.data }], guard := none }) (v := ?_) rfl (by kernel_rfl) (by kernel_rfl) (by kernel_rfl) (fun _ _ _ h => h) (Or.inl ⟨by rfl, ?_⟩) (by assumption) ?_
      rotate_left
      · (intro w hSw; (try dsimp only at hSw); (try obtain ⟨hSa, hSb⟩ := hSw); go_simp; try with_reducible rfl)
      try simp only [Act.put, List.setIfInBounds_toArray, List.set_cons_zero, List.set_cons_succ]
      refine wpAnyH_take (i := 3) (oi := { dst := some 38, op := Op.load 3 (Operand.tmp 37), type := 3, pos := "lines.go:46", after := #[{ on := 2, ground := Ground.data }], guard := none }) (v := ?_) rfl (by kernel_rfl) (by kernel_rfl) (by kernel_rfl) (fun _ _ _ h => h) (Or.inl ⟨by rfl, ?_⟩) (by assumption) ?_
      rotate_left
      · (intro w hSw; (try dsimp only at hSw); (try obtain ⟨hSa, hSb⟩ := hSw); go_simp; try with_reducible rfl)
      try simp only [Act.put, List.setIfInBounds_toArray, List.set_cons_zero, List.set_cons_succ]
      refine wpAnyH_take (i := 4) (oi := { dst := some 39, op := Op.binOp BinOp.lss 3 (Operand.tmp 38) (Operand.const (Value.int IntKind.i64 0)) 3, type := 4, pos := "lines.go:46", after := #[{ on := 3, ground := Ground.data }], guard := none }) (v := ?_) rfl (by kernel_rfl) (by kernel_rfl) (by kernel_rfl) (fun _ _ _ h => h) (Or.inl ⟨by rfl, ?_⟩) (by assumption) ?_
      rotate_left
      · (intro w hSw; (try dsimp only at hSw); (try obtain ⟨hSa, hSb⟩ := hSw); go_simp; try with_reducible rfl)
      try simp only [Act.put, List.setIfInBounds_toArray, List.set_cons_zero, List.set_cons_succ]
      refine wpAnyH_take (i := 5) (oi := { dst := some 40, op := Op.move (Operand.tmp 39), type := 4, pos := "lines.go:46", after := #[{ on := 4, ground := Ground.data }], guard := none }) (v := ?_) rfl (by kernel_rfl) (by kernel_rfl) (by kernel_rfl) (fun _ _ _ h => h) (Or.inl ⟨by rfl, ?_⟩) (by assumption) ?_
      rotate_left
      · (intro w hSw; (try dsimp only at hSw); (try obtain ⟨hSa, hSb⟩ := hSw); go_simp; try with_reducible rfl)
      try simp only [Act.put, List.setIfInBounds_toArray, List.set_cons_zero, List.set_cons_succ]
      refine wpAnyH_take (i := 6) (oi := { dst := some 41, op := Op.move (Operand.tmp 1), type := 26, pos := "lines.go:46", after := #[{ on := 5, ground := Ground.guard }], guard := some (5, false) }) (v := ?_) rfl (by kernel_rfl) (by kernel_rfl) (by kernel_rfl) (fun _ _ _ h => h) (Or.inl ⟨by rfl, ?_⟩) (by assumption) ?_
      rotate_left
      · (intro w hSw; (try dsimp only at hSw); (try obtain ⟨hSa, hSb⟩ := hSw); go_simp; try with_reducible rfl)
      try simp only [Act.put, List.setIfInBounds_toArray, List.set_cons_zero, List.set_cons_succ]
      refine wpAnyH_take (i := 7) (oi := { dst := some 42, op := Op.move (Operand.tmp 9), type := 3, pos := "lines.go:46", after := #[{ on := 5, ground := Ground.guard }], guard := some (5, false) }) (v := ?_) rfl (by kernel_rfl) (by kernel_rfl) (by kernel_rfl) (fun _ _ _ h => h) (Or.inl ⟨by rfl, ?_⟩) (by assumption) ?_
      rotate_left
      · (intro w hSw; (try dsimp only at hSw); (try obtain ⟨hSa, hSb⟩ := hSw); go_simp; try with_reducible rfl)
      try simp only [Act.put, List.setIfInBounds_toArray, List.set_cons_zero, List.set_cons_succ]
      refine wpAnyH_take (i := 8) (oi := { dst := some 43, op := Op.indexAddr 26 (Operand.tmp 41) (Operand.tmp 42), type := 0, pos := "lines.go:46", after := #[{ on := 6, ground := Ground.data }, { on := 7, ground := Ground.data }, { on := 5, ground := Ground.guard }], guard := some (5, false) }) (v := ?_) rfl (by kernel_rfl) (by kernel_rfl) (by kernel_rfl) (fun _ _ _ h => h) (Or.inl ⟨by rfl, ?_⟩) (by assumption) ?_
      rotate_left
      · (intro w hSw; (try dsimp only at hSw); (try obtain ⟨hSa, hSb⟩ := hSw); go_simp; try with_reducible rfl)
      try simp only [Act.put, List.setIfInBounds_toArray, List.set_cons_zero, List.set_cons_succ]
      refine wpAnyH_take (i := 9) (oi := { dst := some 44, op := Op.load 3 (Operand.tmp 43), type := 3, pos := "lines.go:46", after := #[{ on := 8, ground := Ground.data }, { on := 5, ground := Ground.guard }], guard := some (5, false) }) (v := ?_) rfl (by kernel_rfl) (by kernel_rfl) (by kernel_rfl) (fun _ _ _ h => h) (Or.inl ⟨by rfl, ?_⟩) (by assumption) ?_
      rotate_left
      · (intro w hSw; (try dsimp only at hSw); (try obtain ⟨hSa, hSb⟩ := hSw); go_simp; try with_reducible rfl)
      try simp only [Act.put, List.setIfInBounds_toArray, List.set_cons_zero, List.set_cons_succ]
      refine wpAnyH_take (i := 10) (oi := { dst := some 45, op := Op.load 23 (Operand.tmp 3), type := 23, pos := "lines.go:46", after := #[{ on := 5, ground := Ground.guard }], guard := some (5, false) }) (v := ?_) rfl (by kernel_rfl) (by kernel_rfl) (by kernel_rfl) (fun _ _ _ h => h) (Or.inl ⟨by rfl, ?_⟩) (by assumption) ?_
      rotate_left
      · (intro w hSw; (try dsimp only at hSw); (try obtain ⟨hSa, hSb⟩ := hSw); go_simp; try with_reducible rfl)
      try simp only [Act.put, List.setIfInBounds_toArray, List.set_cons_zero, List.set_cons_succ]
      refine wpAnyH_ready (rs := [11]) (by kernel_rfl) (by simp) ?_
      refine AllReadyH.cons (o := { dst := some 46, op := Op.call { callee := Callee.value (Operand.func 39), args := #[Operand.tmp 45], argTypes := #[23] }, type := 3, pos := "lines.go:46", after := #[{ on := 10, ground := Ground.data }, { on := 5, ground := Ground.chain }, { on := 5, ground := Ground.guard }], guard := some (5, false) }) rfl (fun K hK => ?_) AllReadyH.nil
      go_simp
      (refine (HU.out _).mono ?_; rintro e w2 ⟨rfl, hO2⟩; have hOd := (Only.refl (fun _ => False) wr).drew.trans hO2; have HO2 := Lib.hid (HO.out.trans hOd); have HB2 := Lib.hid (HB.out.only hOd id); have HOUT2 := Lib.hid (HOUT.out.only hOd id); have HROW2 := Lib.hid (HROW.out.only hOd (fun _ => id)); have cg2 := HRG.out w2 k HO2.out hkn; have cw2 := HRW.out w2 k HO2.out hkn; rw [HGI2.out.1] at cg2; rw [HGI2.out.2] at cw2; clear hO2 hOd; try simp only [])
      refine hK.out _ _ ?_ (fun hHeld => ?_)
      · exact ⟨⟨⟨cg2, cw2⟩, HB2.out.cell 0, HB2.out.cell 1⟩, ⟨HB2.out.cell 2, HB2.out.cell 3⟩, HB2.out.cell 4⟩
      clear hK K
      try simp only [Act.put, List.setIfInBounds_toArray, List.set_cons_zero, List.set_cons_succ]
      refine wpAnyH_take (i := 12) (oi := { dst := some 47, op := Op.binOp BinOp.gtr 3 (Operand.tmp 44) (Operand.tmp 46) 3, type := 4, pos := "lines.go:46", after := #[{ on := 9, ground := Ground.data }, { on := 11, ground := Ground.data }, { on := 5, ground := Ground.guard }], guard := some (5, false) }) (v := ?_) rfl (by kernel_rfl) (by kernel_rfl) (by kernel_rfl) (fun _ _ _ h => h) (Or.inl ⟨by rfl, ?_⟩) (by assumption) ?_
      rotate_left
      · (intro w hSw; (try dsimp only at hSw); (try obtain ⟨hSa, hSb⟩ := hSw); go_simp; try with_reducible rfl)
      try simp only [Act.put, List.setIfInBounds_toArray, List.set_cons_zero, List.set_cons_succ]
      refine wpAnyH_take (i := 13) (oi := { dst := some 48, op := Op.pick (Operand.tmp 40) (Operand.const (Value.bool true)) (Operand.tmp 47), type := 4, pos := "lines.go:46", after := #[{ on := 5, ground := Ground.data }, { on := 12, ground := Ground.data }], guard := none }) (v := ?_) rfl (by kernel_rfl) (by kernel_rfl) (by kernel_rfl) (fun _ _ _ h => h) (Or.inl ⟨by rfl, ?_⟩) (by assumption) ?_
      rotate_left
      · (intro w hSw; (try dsimp only at hSw); (try obtain ⟨hSa, hSb⟩ := hSw); go_simp; try with_reducible rfl)
      try simp only [Act.put, List.setIfInBounds_toArray, List.set_cons_zero, List.set_cons_succ]
      refine wpAnyH_take (i := 14) (oi := { dst := some 49, op := Op.move (Operand.tmp 48), type := 4, pos := "lines.go:46", after := #[{ on := 13, ground := Ground.data }, { on := 11, ground := Ground.chain }], guard := none }) (v := ?_) rfl (by kernel_rfl) (by kernel_rfl) (by kernel_rfl) (fun _ _ _ h => h) (Or.inl ⟨by rfl, ?_⟩) (by assumption) ?_
      rotate_left
      · (intro w hSw; (try dsimp only at hSw); (try obtain ⟨hSa, hSb⟩ := hSw); go_simp; try with_reducible rfl)
      try simp only [Act.put, List.setIfInBounds_toArray, List.set_cons_zero, List.set_cons_succ]
      refine wpAnyH_take (i := 15) (oi := { dst := some 50, op := Op.move (Operand.tmp 2), type := 26, pos := "lines.go:46", after := #[{ on := 14, ground := Ground.guard }], guard := some (14, false) }) (v := ?_) rfl (by kernel_rfl) (by kernel_rfl) (by kernel_rfl) (fun _ _ _ h => h) (Or.inl ⟨by rfl, ?_⟩) (by assumption) ?_
      rotate_left
      · (intro w hSw; (try dsimp only at hSw); (try obtain ⟨hSa, hSb⟩ := hSw); go_simp; try with_reducible rfl)
      try simp only [Act.put, List.setIfInBounds_toArray, List.set_cons_zero, List.set_cons_succ]
      refine wpAnyH_take (i := 16) (oi := { dst := some 51, op := Op.move (Operand.tmp 9), type := 3, pos := "lines.go:46", after := #[{ on := 14, ground := Ground.guard }], guard := some (14, false) }) (v := ?_) rfl (by kernel_rfl) (by kernel_rfl) (by kernel_rfl) (fun _ _ _ h => h) (Or.inl ⟨by rfl, ?_⟩) (by assumption) ?_
      rotate_left
      · (intro w hSw; (try dsimp only at hSw); (try obtain ⟨hSa, hSb⟩ := hSw); go_simp; try with_reducible rfl)
      try simp only [Act.put, List.setIfInBounds_toArray, List.set_cons_zero, List.set_cons_succ]
      refine wpAnyH_take (i := 17) (oi := { dst := some 52, op := Op.indexAddr 26 (Operand.tmp 50) (Operand.tmp 51), type := 0, pos := "lines.go:46", after := #[{ on := 15, ground := Ground.data }, { on := 16, ground := Ground.data }, { on := 14, ground := Ground.guard }], guard := some (14, false) }) (v := ?_) rfl (by kernel_rfl) (by kernel_rfl) (by kernel_rfl) (fun _ _ _ h => h) (Or.inl ⟨by rfl, ?_⟩) (by assumption) ?_
      rotate_left
      · (intro w hSw; (try dsimp only at hSw); (try obtain ⟨hSa, hSb⟩ := hSw); go_simp; try with_reducible rfl)
      try simp only [Act.put, List.setIfInBounds_toArray, List.set_cons_zero, List.set_cons_succ]
      refine wpAnyH_take (i := 18) (oi := { dst := some 53, op := Op.load 3 (Operand.tmp 52), type := 3, pos := "lines.go:46", after := #[{ on := 17, ground := Ground.data }, { on := 14, ground := Ground.guard }], guard := some (14, false) }) (v := ?_) rfl (by kernel_rfl) (by kernel_rfl) (by kernel_rfl) (fun _ _ _ h => h) (Or.inl ⟨by rfl, ?_⟩) (by assumption) ?_
      rotate_left
      · (intro w hSw; (try dsimp only at hSw); (try obtain ⟨hSa, hSb⟩ := hSw); go_simp; try with_reducible rfl)
      try simp only [Act.put, List.setIfInBounds_toArray, List.set_cons_zero, List.set_cons_succ]
      refine wpAnyH_take (i := 19) (oi := { dst := some 54, op := Op.binOp BinOp.lss 3 (Operand.tmp 53) (Operand.const (Value.int IntKind.i64 0)) 3, type := 4, pos := "lines.go:46", after := #[{ on := 18, ground := Ground.data }, { on := 14, ground := Ground.guard }], guard := some (14, false) }) (v := ?_) rfl (by kernel_rfl) (by kernel_rfl) (by kernel_rfl) (fun _ _ _ h => h) (Or.inl ⟨by rfl, ?_⟩) (by assumption) ?_
      rotate_left
      · (intro w hSw; (try dsimp only at hSw); (try obtain ⟨hSa, hSb⟩ := hSw); go_simp; try with_reducible rfl)
      try simp only [Act.put, List.setIfInBounds_toArray, List.set_cons_zero, List.set_cons_succ]
      refine wpAnyH_take (i := 20) (oi := { dst := some 55, op := Op.pick (Operand.tmp 49) (Operand.const (Value.bool true)) (Operand.tmp 54), type := 4, pos := "lines.go:46", after := #[{ on := 14, ground := Ground.data }, { on := 19, ground := Ground.data }], guard := none }) (v := ?_) rfl (by kernel_rfl) (by kernel_rfl) (by kernel_rfl) (fun _ _ _ h => h) (Or.inl ⟨by rfl, ?_⟩) (by assumption) ?_
      rotate_left
      · (intro w hSw; (try dsimp only at hSw); (try obtain ⟨hSa, hSb⟩ := hSw); go_simp; try with_reducible rfl)
      try simp only [Act.put, List.setIfInBounds_toArray, List.set_cons_zero, List.set_cons_succ]
      refine wpAnyH_take (i := 21) (oi := { dst := some 56, op := Op.move (Operand.tmp 55), type := 4, pos := "lines.go:46", after := #[{ on := 20, ground := Ground.data }, { on := 14, ground := Ground.chain }], guard := none }) (v := ?_) rfl (by kernel_rfl) (by kernel_rfl) (by kernel_rfl) (fun _ _ _ h => h) (Or.inl ⟨by rfl, ?_⟩) (by assumption) ?_
      rotate_left
      · (intro w hSw; (try dsimp only at hSw); (try obtain ⟨hSa, hSb⟩ := hSw); go_simp; try with_reducible rfl)
      try simp only [Act.put, List.setIfInBounds_toArray, List.set_cons_zero, List.set_cons_succ]
      refine wpAnyH_take (i := 22) (oi := { dst := some 57, op := Op.move (Operand.tmp 2), type := 26, pos := "lines.go:46", after := #[{ on := 21, ground := Ground.guard }], guard := some (21, false) }) (v := ?_) rfl (by kernel_rfl) (by kernel_rfl) (by kernel_rfl) (fun _ _ _ h => h) (Or.inl ⟨by rfl, ?_⟩) (by assumption) ?_
      rotate_left
      · (intro w hSw; (try dsimp only at hSw); (try obtain ⟨hSa, hSb⟩ := hSw); go_simp; try with_reducible rfl)
      try simp only [Act.put, List.setIfInBounds_toArray, List.set_cons_zero, List.set_cons_succ]
      refine wpAnyH_take (i := 23) (oi := { dst := some 58, op := Op.move (Operand.tmp 9), type := 3, pos := "lines.go:46", after := #[{ on := 21, ground := Ground.guard }], guard := some (21, false) }) (v := ?_) rfl (by kernel_rfl) (by kernel_rfl) (by kernel_rfl) (fun _ _ _ h => h) (Or.inl ⟨by rfl, ?_⟩) (by assumption) ?_
      rotate_left
      · (intro w hSw; (try dsimp only at hSw); (try obtain ⟨hSa, hSb⟩ := hSw); go_simp; try with_reducible rfl)
      try simp only [Act.put, List.setIfInBounds_toArray, List.set_cons_zero, List.set_cons_succ]
      refine wpAnyH_take (i := 24) (oi := { dst := some 59, op := Op.indexAddr 26 (Operand.tmp 57) (Operand.tmp 58), type := 0, pos := "lines.go:46", after := #[{ on := 22, ground := Ground.data }, { on := 23, ground := Ground.data }, { on := 21, ground := Ground.guard }], guard := some (21, false) }) (v := ?_) rfl (by kernel_rfl) (by kernel_rfl) (by kernel_rfl) (fun _ _ _ h => h) (Or.inl ⟨by rfl, ?_⟩) (by assumption) ?_
      rotate_left
      · (intro w hSw; (try dsimp only at hSw); (try obtain ⟨hSa, hSb⟩ := hSw); go_simp; try with_reducible rfl)
      try simp only [Act.put, List.setIfInBounds_toArray, List.set_cons_zero, List.set_cons_succ]
      refine wpAnyH_take (i := 25) (oi := { dst := some 60, op := Op.load 3 (Operand.tmp 59), type := 3, pos := "lines.go:46", after := #[{ on := 24, ground := Ground.data }, { on := 21, ground := Ground.guard }], guard := some (21, false) }) (v := ?_) rfl (by kernel_rfl) (by kernel_rfl) (by kernel_rfl) (fun _ _ _ h => h) (Or.inl ⟨by rfl, ?_⟩) (by assumption) ?_
      rotate_left
      · (intro w hSw; (try dsimp only at hSw); (try obtain ⟨hSa, hSb⟩ := hSw); go_simp; try with_reducible rfl)
      try simp only [Act.put, List.setIfInBounds_toArray, List.set_cons_zero, List.set_cons_succ]
      refine wpAnyH_take (i := 26) (oi := { dst := some 61, op := Op.binOp BinOp.gtr 3 (Operand.tmp 60) (Operand.const (Value.int IntKind.i64 2147483647)) 3, type := 4, pos := "lines.go:46", after := #[{ on := 25, ground := Ground.data }, { on := 21, ground := Ground.guard }], guard := some (21, false) }) (v := ?_) rfl (by kernel_rfl) (by kernel_rfl) (by kernel_rfl) (fun _ _ _ h => h) (Or.inl ⟨by rfl, ?_⟩) (by assumption) ?_
      rotate_left
      · (intro w hSw; (try dsimp only at hSw); (try obtain ⟨hSa, hSb⟩ := hSw); go_simp; try with_reducible rfl)
      try simp only [Act.put, List.setIfInBounds_toArray, List.set_cons_zero, List.set_cons_succ]
      refine wpAnyH_take (i := 27) (oi := { dst := some 62, op := Op.pick (Operand.tmp 56) (Operand.const (Value.bool true)) (Operand.tmp 61), type := 4, pos := "lines.go:46", after := #[{ on := 21, ground := Ground.data }, { on := 26, ground := Ground.data }], guard := none }) (v := ?_) rfl (by kernel_rfl) (by kernel_rfl) (by kernel_rfl) (fun _ _ _ h => h) (Or.inl ⟨by rfl, ?_⟩) (by assumption) ?_
      rotate_left
      · (intro w hSw; (try dsimp only at hSw); (try obtain ⟨hSa, hSb⟩ := hSw); go_simp; try with_reducible rfl)
      try simp only [Act.put, List.setIfInBounds_toArray, List.set_cons_zero, List.set_cons_succ]
      refine wpAnyH_done (by kernel_rfl) ?_ _
      go_wp2_with (fail)
      have oA := ((Only.refl (fun _ => False) w2).alloc (.cells #[.int .i64 0, .int .i64 wi, .int .i64 gi, .int .i64 G.c, .int .i64 G.l, .int .i64 G.b, .int .i64 G.p, .int .i64 G.s] 151)).drew
      have HX4 := Lib.hid (At.new w2 151 #[.int .i64 0, .int .i64 wi, .int .i64 gi, .int .i64 G.c, .int .i64 G.l, .int .i64 G.b, .int .i64 G.p, .int .i64 G.s]).drew
      have HO4 := Lib.hid (HO2.out.trans oA)
      have HB4 := Lib.hid (HB2.out.only oA id)
      have HOUT4 := Lib.hid (HOUT2.out.only oA id)
      have HROW4 := Lib.hid (HROW2.out.only oA (fun _ => id))
      have hlt2 := HOUT2.out.lt
      have hgl2 : A ≠ none → gb < w2.heap.size := fun h => HROW2.out.lt h
      have hsz2 := HO2.out.size
      have HUN : Hid (∀ w, Calls Tryz.prog 112 #[(⟨0, wi, gi⟩ : Ln).val G] w fun e w' => e = .returned (.int .i64 (un gi)) ∧ Only (fun _ => False) w w') := Lib.hid (fun w => unused_any G ⟨0, wi, gi⟩ w)
      unfold Ln.val at HUN
      clear oA
      refine wp_region_held_drew (S := (fun W => ((W.cell? ⟨gg, og + k, none⟩ = some (.int .i64 gi) ∧ W.cell? ⟨gw, ow + k, none⟩ = some (.int .i64 wi)) ∧ (W.cell? ⟨w.heap.size, 0, none⟩ = some (.int .i64 G.c) ∧ W.cell? ⟨w.heap.size, 1, none⟩ = some (.int .i64 G.l))) ∧ ((W.cell? ⟨w.heap.size, 2, none⟩ = some (.int .i64 G.b) ∧ W.cell? ⟨w.heap.size, 3, none⟩ = some (.int .i64 G.p)) ∧ W.cell? ⟨w.heap.size, 4, none⟩ = some (.int .i64 G.s)))) (by kernel_rfl) ?_ (fun hHeld => ?_)
      · exact ⟨⟨⟨cg2, cw2⟩, HB2.out.cell 0, HB2.out.cell 1⟩, ⟨HB2.out.cell 2, HB2.out.cell 3⟩, HB2.out.cell 4⟩
      refine wpAnyH_take (i := 0) (oi := { dst := some 63, op := Op.move (Operand.tmp 2), type := 26, pos := "lines.go:49", after := #[], guard := none }) (v := ?_) rfl (by kernel_rfl) (by kernel_rfl) (by kernel_rfl) (fun _ _ _ h => h) (Or.inl ⟨by rfl, ?_⟩) (by assumption) ?_
      rotate_left
      · (intro w hSw; (try dsimp only at hSw); (try obtain ⟨hSa, hSb⟩ := hSw); go_simp; try with_reducible rfl)
      try simp only [Act.put, List.setIfInBounds_toArray, List.set_cons_zero, List.set_cons_succ]
      refine wpAnyH_take (i := 1) (oi := { dst := some 64, op := Op.move (Operand.tmp 9), type := 3, pos := "lines.go:49", after := #[], guard := none }) (v := ?_) rfl (by kernel_rfl) (by kernel_rfl) (by kernel_rfl) (fun _ _ _ h => h) (Or.inl ⟨by rfl, ?_⟩) (by assumption) ?_
      rotate_left
      · (intro w hSw; (try dsimp only at hSw); (try obtain ⟨hSa, hSb⟩ := hSw); go_simp; try with_reducible rfl)
      try simp only [Act.put, List.setIfInBounds_toArray, List.set_cons_zero, List.set_cons_succ]
      refine wpAnyH_take (i := 2) (oi := { dst := some 65, op := Op.indexAddr 26 (Operand.tmp 63) (Operand.tmp 64), type := 0, pos := "lines.go:49", after := #[{ on := 0, ground := Ground.data }, { on := 1, ground := Ground.data }], guard := none }) (v := ?_) rfl (by kernel_rfl) (by kernel_rfl) (by kernel_rfl) (fun _ _ _ h => h) (Or.inl ⟨by rfl, ?_⟩) (by assumption) ?_
      rotate_left
      · (intro w hSw; (try dsimp only at hSw); (try obtain ⟨hSa, hSb⟩ := hSw); go_simp; try with_reducible rfl)
      try simp only [Act.put, List.setIfInBounds_toArray, List.set_cons_zero, List.set_cons_succ]
      refine wpAnyH_take (i := 3) (oi := { dst := some 66, op := Op.load 3 (Operand.tmp 65), type := 3, pos := "lines.go:49", after := #[{ on := 2, ground := Ground.data }], guard := none }) (v := ?_) rfl (by kernel_rfl) (by kernel_rfl) (by kernel_rfl) (fun _ _ _ h => h) (Or.inl ⟨by rfl, ?_⟩) (by assumption) ?_
      rotate_left
      · (intro w hSw; (try dsimp only at hSw); (try obtain ⟨hSa, hSb⟩ := hSw); go_simp; try with_reducible rfl)
      try simp only [Act.put, List.setIfInBounds_toArray, List.set_cons_zero, List.set_cons_succ]
      refine wpAnyH_take (i := 4) (oi := { dst := some 67, op := Op.move (Operand.tmp 1), type := 26, pos := "lines.go:49", after := #[], guard := none }) (v := ?_) rfl (by kernel_rfl) (by kernel_rfl) (by kernel_rfl) (fun _ _ _ h => h) (Or.inl ⟨by rfl, ?_⟩) (by assumption) ?_
      rotate_left
      · (intro w hSw; (try dsimp only at hSw); (try obtain ⟨hSa, hSb⟩ := hSw); go_simp; try with_reducible rfl)
      try simp only [Act.put, List.setIfInBounds_toArray, List.set_cons_zero, List.set_cons_succ]
      refine wpAnyH_take (i := 5) (oi := { dst := some 68, op := Op.move (Operand.tmp 9), type := 3, pos := "lines.go:49", after := #[], guard := none }) (v := ?_) rfl (by kernel_rfl) (by kernel_rfl) (by kernel_rfl) (fun _ _ _ h => h) (Or.inl ⟨by rfl, ?_⟩) (by assumption) ?_
      rotate_left
      · (intro w hSw; (try dsimp only at hSw); (try obtain ⟨hSa, hSb⟩ := hSw); go_simp; try with_reducible rfl)
      try simp only [Act.put, List.setIfInBounds_toArray, List.set_cons_zero, List.set_cons_succ]
      refine wpAnyH_take (i := 6) (oi := { dst := some 69, op := Op.indexAddr 26 (Operand.tmp 67) (Operand.tmp 68), type := 0, pos := "lines.go:49", after := #[{ on := 4, ground := Ground.data }, { on := 5, ground := Ground.data }], guard := none }) (v := ?_) rfl (by kernel_rfl) (by kernel_rfl) (by kernel_rfl) (fun _ _ _ h => h) (Or.inl ⟨by rfl, ?_⟩) (by assumption) ?_
      rotate_left
      · (intro w hSw; (try dsimp only at hSw); (try obtain ⟨hSa, hSb⟩ := hSw); go_simp; try with_reducible rfl)
      try simp only [Act.put, List.setIfInBounds_toArray, List.set_cons_zero, List.set_cons_succ]
      refine wpAnyH_take (i := 7) (oi := { dst := some 70, op := Op.load 3 (Operand.tmp 69), type := 3, pos := "lines.go:49", after := #[{ on := 6, ground := Ground.data }], guard := none }) (v := ?_) rfl (by kernel_rfl) (by kernel_rfl) (by kernel_rfl) (fun _ _ _ h => h) (Or.inl ⟨by rfl, ?_⟩) (by assumption) ?_
      rotate_left
      · (intro w hSw; (try dsimp only at hSw); (try obtain ⟨hSa, hSb⟩ := hSw); go_simp; try with_reducible rfl)
      try simp only [Act.put, List.setIfInBounds_toArray, List.set_cons_zero, List.set_cons_succ]
      refine wpAnyH_take (i := 8) (oi := { dst := some 71, op := Op.load 23 (Operand.tmp 3), type := 23, pos := "lines.go:49", after := #[], guard := none }) (v := ?_) rfl (by kernel_rfl) (by kernel_rfl) (by kernel_rfl) (fun _ _ _ h => h) (Or.inl ⟨by rfl, ?_⟩) (by assumption) ?_
      rotate_left
      · (intro w hSw; (try dsimp only at hSw); (try obtain ⟨hSa, hSb⟩ := hSw); go_simp; try with_reducible rfl)
      try simp only [Act.put, List.setIfInBounds_toArray, List.set_cons_zero, List.set_cons_succ]
      refine wpAnyH_take (i := 9) (oi := { dst := some 72, op := Op.build 151 #[(1, Operand.tmp 66), (2, Operand.tmp 70), (3, Operand.tmp 71)], type := 151, pos := "lines.go:49", after := #[{ on := 3, ground := Ground.data }, { on := 7, ground := Ground.data }, { on := 8, ground := Ground.data }], guard := none }) (v := ?_) rfl (by kernel_rfl) (by kernel_rfl) (by kernel_rfl) (fun _ _ _ h => h) (Or.inl ⟨by rfl, ?_⟩) (by assumption) ?_
      rotate_left
      · (intro w hSw; (try dsimp only at hSw); (try obtain ⟨hSa, hSb⟩ := hSw); go_simp; try with_reducible rfl)
      try simp only [Act.put, List.setIfInBounds_toArray, List.set_cons_zero, List.set_cons_succ]
      refine wpAnyH_ready (rs := [10]) (by kernel_rfl) (by simp) ?_
      refine AllReadyH.cons (o := { dst := some 10, op := Op.alloc 151, type := 0, pos := "lines.go:49", after := #[], guard := none }) rfl (fun K hK => ?_) AllReadyH.nil
      go_simp
      skip
      refine hK.out _ _ ?_ (fun hHeld => ?_)
      · have oz := (Only.refl (fun _ => False) w2).drew.alloc (.cells #[.int .i64 0, .int .i64 0, .int .i64 0, .int .i64 0, .int .i64 0, .int .i64 0, .int .i64 0, .int .i64 0] 151); have hbz := HB2.out.only oz id; have cgz := (oz.cell (p := ⟨gg, og + k, none⟩) (World.block_lt_of_cell? _ _ cg2) id).trans cg2; have cwz := (oz.cell (p := ⟨gw, ow + k, none⟩) (World.block_lt_of_cell? _ _ cw2) id).trans cw2; exact ⟨⟨⟨cgz, cwz⟩, hbz.cell 0, hbz.cell 1⟩, ⟨hbz.cell 2, hbz.cell 3⟩, hbz.cell 4⟩
      clear hK K
      try simp only [Act.put, List.setIfInBounds_toArray, List.set_cons_zero, List.set_cons_succ]
      refine wpAnyH_ready (rs := [11]) (by kernel_rfl) (by simp) ?_
      refine AllReadyH.cons (o := { dst := none, op := Op.store 151 (Operand.tmp 10) (Operand.tmp 72), type := 0, pos := "lines.go:49", after := #[{ on := 10, ground := Ground.data }, { on := 9, ground := Ground.data }, { on := 0, ground := Ground.phase }, { on := 1, ground := Ground.phase }, { on := 2, ground := Ground.phase }, { on := 3, ground := Ground.phase }, { on := 4, ground := Ground.phase }, { on := 5, ground := Ground.phase }, { on := 6, ground := Ground.phase }, { on := 7, ground := Ground.phase }, { on := 8, ground := Ground.phase }, { on := 9, ground := Ground.phase }, { on := 10, ground := Ground.phase }], guard := none }) rfl (fun K hK => ?_) AllReadyH.nil
      go_simp
      skip
      refine hK.out _ _ ?_ (fun hHeld => ?_)
      · have oz := (Only.refl (fun _ => False) w2).drew.alloc (.cells #[.int .i64 0, .int .i64 wi, .int .i64 gi, .int .i64 G.c, .int .i64 G.l, .int .i64 G.b, .int .i64 G.p, .int .i64 G.s] 151); have hbz := HB2.out.only oz id; have cgz := (oz.cell (p := ⟨gg, og + k, none⟩) (World.block_lt_of_cell? _ _ cg2) id).trans cg2; have cwz := (oz.cell (p := ⟨gw, ow + k, none⟩) (World.block_lt_of_cell? _ _ cw2) id).trans cw2; exact ⟨⟨⟨cgz, cwz⟩, hbz.cell 0, hbz.cell 1⟩, ⟨hbz.cell 2, hbz.cell 3⟩, hbz.cell 4⟩
      clear hK K
      try simp only [Act.put, List.setIfInBounds_toArray, List.set_cons_zero, List.set_cons_succ]
      refine wpAnyH_done (by kernel_rfl) ?_ _
      go_wp2_with (fail)
      refine (HUN.out _).mono ?_
      rintro e w5 ⟨rfl, hO5⟩
      have HX5 := Lib.hid (HX4.out.only hO5 id)
      have HO5 := Lib.hid (HO4.out.trans hO5)
      have HB5 := Lib.hid (HB4.out.only hO5 id)
      have HOUT5 := Lib.hid (HOUT4.out.only hO5 id)
      have HROW5 := Lib.hid (HROW4.out.only hO5 (fun _ => id))
      have hsz5 := hO5.size
      have e5 : (w2.alloc (.cells #[.int .i64 0, .int .i64 wi, .int .i64 gi, .int .i64 G.c, .int .i64 G.l, .int .i64 G.b, .int .i64 G.p, .int .i64 G.s] 151)).drew.heap.size = w2.heap.size + 1 := by
        show (w2.alloc _).heap.size = _
        simp
      rw [e5] at hsz5
      have o6 := (Only.refl (fun i => i = w2.heap.size) w5).setCell (p := ⟨w2.heap.size, 0, none⟩) (fun _ => rfl) (.int .i64 (un gi))
      have x5 := HX5.out.cell 0
      simp only [List.getElem?_toArray, List.getElem?_cons_zero] at x5
      have x5f := HX5.out.frozen 0
      have hx6 : At (w5.setCell ⟨w2.heap.size, 0, none⟩ (.int .i64 (un gi))) w2.heap.size 151 #[.int .i64 (un gi), .int .i64 wi, .int .i64 gi, .int .i64 G.c, .int .i64 G.l, .int .i64 G.b, .int .i64 G.p, .int .i64 G.s] := HX5.out.set 0 _
      have hout6 := HOUT5.out.only o6 (by omega)
      have HROW6 := Lib.hid (HROW5.out.only o6 (fun h => by have := hgl2 h; omega))
      have HO6 := Lib.hid (HO5.out.setCell (p := ⟨w2.heap.size, 0, none⟩) (fun h => by simp at h; omega) (.int .i64 (un gi)))
      have HB6 := Lib.hid (HB5.out.only o6 (by have := HB2.out.lt; omega))
      have hs6 : (w5.setCell ⟨w2.heap.size, 0, none⟩ (.int .i64 (un gi))).heap.size = w5.heap.size := by simp
      have g0 := hx6.cell 0
      have g1 := hx6.cell 1
      have g2 := hx6.cell 2
      have g3 := hx6.cell 3
      have g4 := hx6.cell 4
      have g5 := hx6.cell 5
      have g6 := hx6.cell 6
      have g7 := hx6.cell 7
      have q0 := hout6.cell 0
      simp only [List.getElem?_toArray, List.getElem?_cons_zero, List.getElem?_cons_succ] at g0 g1 g2 g3 g4 g5 g6 g7 q0
      have HOUT6 := Lib.hid hout6
      clear hO5 o6 hx6 hout6
      go_wp2_with (fail)
      have o7 := ((Only.refl (fun _ => False) (w5.setCell ⟨w2.heap.size, 0, none⟩ (.int .i64 (un gi)))).alloc (.cells #[.int .i64 (un gi), .int .i64 wi, .int .i64 gi, .int .i64 G.c, .int .i64 G.l, .int .i64 G.b, .int .i64 G.p, .int .i64 G.s] 151)).drew
      have HROW7 := Lib.hid (HROW6.out.only o7 (fun _ => id))
      have HOUT7 := Lib.hid (HOUT6.out.only o7 id)
      have HB7 := Lib.hid (HB6.out.only o7 id)
      have HO7 := Lib.hid (HO6.out.trans o7)
      have HN7 := Lib.hid (At.new' (g := w5.heap.size) hs6.symm 151 #[.int .i64 (un gi), .int .i64 wi, .int .i64 gi, .int .i64 G.c, .int .i64 G.l, .int .i64 G.b, .int .i64 G.p, .int .i64 G.s]).drew
      have hgb1 : ¬ (A ≠ none ∧ w1.heap.size = gb) := fun h => HROW6.out.neAt HOUT6.out h.1 (by decide) h.2.symm
      have hgb2 : ¬ (A ≠ none ∧ w.heap.size = gb) := fun h => by have := HGB.out h.1; omega
      have HG12 := Lib.hid (And.intro hgb1 hgb2)
      have hkm : k + 1 ≤ maxLen := by unfold maxLen; omega
      have q7 : ((w5.setCell ⟨w2.heap.size, 0, none⟩ (.int .i64 (un gi))).alloc (.cells #[.int .i64 (un gi), .int .i64 wi, .int .i64 gi, .int .i64 G.c, .int .i64 G.l, .int .i64 G.b, .int .i64 G.p, .int .i64 G.s] 151)).cell? ⟨w1.heap.size, 0, none⟩ = some (.slice A k c) := HOUT7.out.cell 0
      clear o7 hgb1 hgb2
      go_region_law (first | (refine step_append_row rfl (.tmp 80) (.tmp 82) 203 rfl 151 i0t (.agg #[.int .i64 0, .int .i64 0, .int .i64 0, .int .i64 0, .int .i64 0, .int .i64 0, .int .i64 0, .int .i64 0]) 8 64 Tryz.underlying203 HI.out.1 HI.out.2.1 HI.out.2.2.1 HI.out.2.2.2 rfl (by decide) A k c gb (lcs G (newL good wear k)) rfl HROW7.out ⟨w5.heap.size, 0, none⟩ [.int .i64 (un gi), .int .i64 wi, .int .i64 gi, .int .i64 G.c, .int .i64 G.l, .int .i64 G.b, .int .i64 G.p, .int .i64 G.s] 1 rfl rfl (fun j u' hj => At.reads HN7.out j u' hj) (by simp [Value.oneCell']) hkm (by omega) ?_; intro A3 c3 g3 w8 hrow3 hO3 hA3; have HR3 := Lib.hid hrow3; have HO3 := Lib.hid hO3; have HA3 := Lib.hid hA3; have hout8 := HOUT7.out.only hO3 HG12.out.1; have HOUT8 := Lib.hid hout8; have f8 := hout8.frozen 0; have c8 := hout8.cell 0; simp only [List.getElem?_toArray, List.getElem?_cons_zero] at c8; clear hrow3 hO3 hA3 hout8))
      all_goals go_wp2_with (fail)
      all_goals
        have hW9 := (Only.refl (fun i => i = w1.heap.size) w8).setCell (p := ⟨w1.heap.size, 0, none⟩) (fun _ => rfl) (.slice A3 (k + 1) c3)
        have hg3 := HR3.out.neAt HOUT8.out HA3.out.1 (by decide)
        have hB9 := (HB7.out.only HO3.out HG12.out.2).only hW9 (by omega)
        have hOUT9 : At (w8.setCell ⟨w1.heap.size, 0, none⟩ (.slice A3 (k + 1) c3)) w1.heap.size 205 #[.slice A3 (k + 1) c3, .int .i64 (-1)] := HOUT8.out.set 0 _
        have hROW9 := HR3.out.only hW9 (fun _ => hg3)
        have hGB9 : A3 ≠ none → w.heap.size < g3 := by
          intro _
          rcases HA3.out.2 with ⟨h1, h2⟩ | h2
          · rw [h2]; exact HGB.out h1
          · have e7 : ((w5.setCell ⟨w2.heap.size, 0, none⟩ (.int .i64 (un gi))).alloc (.cells #[.int .i64 (un gi), .int .i64 wi, .int .i64 gi, .int .i64 G.c, .int .i64 G.l, .int .i64 G.b, .int .i64 G.p, .int .i64 G.s] 151)).drew.heap.size = w5.heap.size + 1 := by
              show (World.alloc _ _).heap.size = _
              simp
            rw [e7] at h2
            omega
        have hO9 := (HO7.out.trans' HO3.out (fun i hi e => by have := HGB.out e.1; omega)).setCell (p := ⟨w1.heap.size, 0, none⟩) (fun h => by simp at h; omega) (.slice A3 (k + 1) c3)
        have hL9 : lcs G (newL good wear (k + 1)) = lcs G (newL good wear k) ++ [.int .i64 (un gi), .int .i64 wi, .int .i64 gi, .int .i64 G.c, .int .i64 G.l, .int .i64 G.b, .int .i64 G.p, .int .i64 G.s] := by
          rw [newL, lcs_app, HGI2.out.1, HGI2.out.2]; rfl
        rw [← hL9] at hROW9
        have HFIN := Lib.hid (And.intro hB9 (And.intro hOUT9 (And.intro hROW9 (And.intro hGB9 hO9))))
        clear hW9 hg3 hB9 hOUT9 hROW9 hGB9 hO9 hL9
        go_roundw
        case rel => exact ⟨k + 1, A3, c3, g3, by omega, by simp, HST2.out, HFIN.out.1, HFIN.out.2.1, HFIN.out.2.2.1, HFIN.out.2.2.2.1, HFIN.out.2.2.2.2⟩
        case measure => simp [intOf]; omega
    · obtain rfl : k = n := by omega
      have i1 : ¬ (k : Int) < k := by omega
      go_wp2
      go_ret2
      refine .inl ⟨HYES.out HOKT.out, ?_⟩
      have hl := newL_len good wear k
      have hR := HROW.out
      have hA : A ≠ none := by
        rintro rfl
        rcases hR with ⟨_, h1, _⟩ | ⟨_, _, h1, _⟩
        · omega
        · cases h1
      obtain ⟨off, rfl⟩ : ∃ off, A = some ⟨gb, off, none⟩ := by
        rcases hR with ⟨h1, _⟩ | ⟨off', _, h1, _⟩
        · exact absurd h1 hA
        · exact ⟨off', h1⟩
      refine ⟨w1.heap.size, off, c, gb, rfl, ⟨?_, ?_, ?_⟩, by omega, by have := HGB.out hA; omega, HO.out⟩
      · rw [HN.out, hl]; exact HOUT.out
      · rw [HN.out, hl]; exact HROW.out
      · rw [HN.out, hl]; exact hn1
end Go.Proofs.YtjobaplioidogaaGreat
