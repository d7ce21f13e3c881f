/- Ring: the document's ring: Put. -/
import Derived.Test.YtookghkfghdadaaAE
import Derived.Deep.AppendLies
namespace Go.Proofs.Ytookghkfghdadaa
open Go.RowKit

theorem run_append_row {P : Program} (w : World) (t ty : TypeId)
    (e : TypeId) (i : TypeInfo) (z : Value) (size bytes : Nat) (h1 : P.underlying t = some (.slice e)) (h2 : P.info? e = some i) (h3 : i.zero = some z) (h4 : i.size = size) (h5 : i.bytes = bytes) (h6 : z.cells.size = size) (h7 : 0 < size)
    (A : Option Addr) (n c g : Nat) (xs : List Value) (hrow : RowAt w A n c g e size xs)
    (ad : Addr) (news : List Value) (cn : Nat) (hn : news.length = size) (hc : ∀ j u, news[j]? = some u → w.cell? (ad.add j) = some u) (h1c : ∀ u ∈ news, u.oneCell' = true)
    (b1 : n + 1 ≤ maxLen) (b2 : (n + 1) * bytes ≤ 140737488355328) :
    ∃ A' c' g' w', (Builtin.append_ #[t, t] ty #[.slice A n c, .slice (some ad) 1 cn]).run P w = .ok (.slice A' (n + 1) c') w' ∧ RowAt w' A' (n + 1) c' g' e size (xs ++ news) ∧ Only (fun i => A ≠ none ∧ i = g) w w' ∧ (A' ≠ none ∧ (A ≠ none ∧ g' = g ∨ w.heap.size ≤ g')) := by
  have hgrow : ∀ v' w', (Builtin.append_ #[t, t] ty #[.slice A n c, .slice (some ad) 1 cn]).run P w = .ok v' w' → w'.ownsRow w.heap.size e size v' (n + 1) (xs ++ news) → w.grownBy w' none →
      ∃ A' c' g' w', (Builtin.append_ #[t, t] ty #[.slice A n c, .slice (some ad) 1 cn]).run P w = .ok (.slice A' (n + 1) c') w' ∧ RowAt w' A' (n + 1) c' g' e size (xs ++ news) ∧ Only (fun i => A ≠ none ∧ i = g) w w' ∧ (A' ≠ none ∧ (A ≠ none ∧ g' = g ∨ w.heap.size ≤ g')) := by
    intro v' w' r0 r1 r2
    obtain ⟨A', c', rfl, hle⟩ := ownsRow_form r1
    obtain ⟨g', hb, hr⟩ := ownsRow_rowAt r1
    have hA : A' ≠ none := by
      rintro rfl
      rcases hr with ⟨_, h0, _⟩ | ⟨_, _, h0, _⟩
      · omega
      · cases h0
    exact ⟨A', c', g', w', r0, hr, (Only.of_grown r2).mono (fun i _ hi => by cases hi), hA, .inr (hb hA)⟩
  rcases hrow with ⟨rfl, rfl, rfl, rfl⟩ | ⟨off, cells, rfl, k2, k3, k4, k5, k6, k7⟩
  · obtain ⟨v', w', hrun, r1, r2, _⟩ := run_append_own_at (P := P) w w.heap.size t ty e i z size bytes h1 h2 h3 h4 h5 h6 h7 (.slice none 0 0) 0 [] (World.ownsRow_nil w _ e size) ad 1 cn news (by simpa using hn) hc h1c (by omega) b2 (Nat.le_refl _)
    exact hgrow v' w' hrun r1 r2
  · by_cases hh : n + 1 ≤ c
    · have hcc : off + n * size + news.length ≤ cells.size := by
        have : (n + 1) * size ≤ c * size := Nat.mul_le_mul_right _ hh
        rw [Nat.add_mul] at this
        omega
      have hf : ∀ j, j < news.length → (w.cell? ⟨g, off + n * size + j, none⟩).isSome = true := by
        intro j hj
        rw [k2.cell, Array.getElem?_eq_getElem (by omega)]; rfl
      have hrun := run_append_room_cells (P := P) w t ty e i h1 h2 g off n c ad 1 cn news (by rw [h4]; simpa using hn) hc h1c hh (by rw [h4]; exact hf) (fun j hj => k2.frozen _)
      rw [h4] at hrun
      obtain ⟨cells', q1, q2, q3, q4⟩ := at_setCells news (off + n * size) w cells k2 hcc
      refine ⟨some ⟨g, off, none⟩, c, g, _, hrun, .inr ⟨off, cells', rfl, q1, hh, k4, by omega, by rw [List.length_append, k6, hn, Nat.add_mul, Nat.one_mul], fun j u hu => ?_⟩, only_setCells news _ w w (Only.refl _ w) ⟨by simp, rfl⟩, by simp, .inl ⟨by simp, rfl⟩⟩
      by_cases hj : j < xs.length
      · rw [List.getElem?_append_left hj] at hu
        rw [q4 _ (by omega)]; exact k7 j u hu
      · rw [List.getElem?_append_right (by omega)] at hu
        have := q3 _ u hu
        rw [← this]; congr 1; omega
    · obtain ⟨v', w', hrun, r1, r2⟩ := run_append_arg_grows (P := P) w t ty e i z size bytes h1 h2 h3 h4 h5 h6 h7 ⟨g, off, none⟩ n c xs k6 (fun j u hj => by rw [Addr.add_lit]; exact (k2.cell _).trans (k7 j u hj)) ad 1 cn news (by simpa using hn) hc (by omega) (by omega) b2
      exact hgrow v' w' hrun r1 r2


theorem step_append_row {P : Program} {ops : Array Oper} {o : Oper} {a : Act} {w : World} {K : Act → World → Prop} {Q : Exit → Act → World → Prop} {E : Prop} (hgd : o.guard = none) (s x : Operand) (t : TypeId)
    (ho : o.op = Op.call { callee := Callee.builtin Builtin.append, args := #[s, x], argTypes := #[t, t] })
    (e : TypeId) (i : TypeInfo) (z : Value) (size bytes : Nat) (h1 : P.underlying t = some (.slice e)) (h2 : P.info? e = some i) (h3 : i.zero = some z) (h4 : i.size = size) (h5 : i.bytes = bytes) (h6 : z.cells.size = size) (h7 : 0 < size)
    (A : Option Addr) (n c g : Nat) (xs : List Value) (hs : a.eval s = .slice A n c) (hrow : RowAt w A n c g e size xs)
    (ad : Addr) (news : List Value) (cn : Nat) (hx : a.eval x = .slice (some ad) 1 cn) (hn : news.length = size) (hc : ∀ j u, news[j]? = some u → w.cell? (ad.add j) = some u) (h1c : ∀ u ∈ news, u.oneCell' = true)
    (b1 : n + 1 ≤ maxLen) (b2 : (n + 1) * bytes ≤ 140737488355328)
    (h : ∀ A' c' g' w', RowAt w' A' (n + 1) c' g' e size (xs ++ news) → Only (fun i => A ≠ none ∧ i = g) w w' → (A' ≠ none ∧ (A ≠ none ∧ g' = g ∨ w.heap.size ≤ g')) → K (a.put o.dst (.slice A' (n + 1) c')) w') :
    if Region.wanted o (yielded ops a.tmps) = true then Oper.wp P o a w K Q else E := by
  have hw : Region.wanted o (yielded ops a.tmps) = true := by simp [Region.wanted, hgd]
  rw [if_pos hw]
  obtain ⟨A', c', g', w', hrun, r1, r2, r3⟩ := run_append_row (P := P) w t o.type e i z size bytes h1 h2 h3 h4 h5 h6 h7 A n c g xs hrow ad news cn hn hc h1c b1 b2
  unfold Oper.wp execOp
  simp only [ho, resolve, invoke, builtin, Sem.run_bind, Sem.run_pure, Result.andThen_ok, List.map_toArray, List.map_cons, List.map_nil, hs, hx, hrun]
  exact h A' c' g' w' r1 r2 r3


/-- As XM, without the two rows' lengths being the same. -/
structure XH (B : Nat) (w : World) (d : Nat) (size : Int) (ps : List PS) (ss : List Int) (L : XL) : Prop where
  st : At w d 60 #[.int .i64 size, .slice L.A8 ps.length L.c8, .slice L.A9 ss.length L.c9]
  sl : RowAt w L.A8 ps.length L.c8 L.g8 37 5 (psc ps)
  ok : ∀ r ∈ ps, r.Ok w
  sr : RowAt w L.A9 ss.length L.c9 L.g9 3 1 (iv ss)
  len : ps.length ≤ 100000
  hd : B ≤ d
  h8 : L.A8 ≠ none → B ≤ L.g8
  h9 : L.A9 ≠ none → B ≤ L.g9
section
variable {S : Nat → Prop} {B : Nat} {w w' : World} {d : Nat} {size : Int} {ps : List PS} {ss : List Int} {L : XL}
theorem XM.half (k : XM B w d size ps ss L) : XH B w d size ps ss L := ⟨k.st, k.sl, k.ok, k.sr, k.len, k.hd, k.h8, k.h9⟩
theorem XH.whole (k : XH B w d size ps ss L) (h : ss.length = ps.length) : XM B w d size ps ss L := ⟨k.st, k.sl, k.ok, k.sr, h, k.len, k.hd, k.h8, k.h9⟩
theorem XH.quiet (k : XH B w d size ps ss L) (o : Only (fun _ => False) w w') : XH B w' d size ps ss L :=
  ⟨k.st.only o id, k.sl.only o (fun _ => id), fun r hr => ⟨(k.ok r hr).row.only o (fun _ => id), (k.ok r hr).len⟩, k.sr.only o (fun _ => id), k.len, k.hd, k.h8, k.h9⟩
theorem XH.app8 (k : XH B w d size ps ss L) (hB : B ≤ w.heap.size) (hl : ps.length < 100000) {A8' : Option Addr} {c8' g8' : Nat} {r : PS} (hr : r.Ok w) (o : Only (fun i => L.A8 ≠ none ∧ i = L.g8) w w')
    (row : RowAt w' A8' (ps.length + 1) c8' g8' 37 5 (psc ps ++ r.cells)) (hA : A8' ≠ none ∧ (L.A8 ≠ none ∧ g8' = L.g8 ∨ w.heap.size ≤ g8')) :
    XH B (w'.setCell ⟨d, 1, none⟩ (.slice A8' (ps.length + 1) c8')) d size (ps ++ [r]) ss ⟨A8', c8', g8', L.A9, L.c9, L.g9⟩ ∧ Only (L.S d) w (w'.setCell ⟨d, 1, none⟩ (.slice A8' (ps.length + 1) c8')) := by
  have hst := k.st.only o (fun e => k.sl.neAt k.st e.1 (by decide) e.2.symm)
  have o2 : Only (fun i => i = d) w' (w'.setCell ⟨d, 1, none⟩ (.slice A8' (ps.length + 1) c8')) := (Only.refl (fun i => i = d) w').setCell (p := ⟨d, 1, none⟩) (fun _ => rfl) _
  have okk : ∀ q ∈ ps ++ [r], q.Ok w := fun q hq => by
    rcases List.mem_append.1 hq with hq | hq
    · exact k.ok q hq
    · simp at hq; subst hq; exact hr
  have n8 : g8' ≠ d := row.neAt hst hA.1 (by decide)
  refine ⟨⟨?_, ?_, fun q hq => ?_, ?_, by simp; omega, k.hd, fun _ => ?_, k.h9⟩, ?_⟩
  · have := hst.set 1 (.slice A8' (ps.length + 1) c8')
    simpa using this
  · rw [List.length_append, psc_snoc]
    exact row.only o2 (fun _ e => n8 e)
  · have hw' : RowAt w' q.A q.x.data.length q.c q.gp 5 1 (bv q.x.data) := (okk q hq).row.only o (fun hA' e => (okk q hq).row.ne k.sl hA' e.1 (by decide) e.2)
    exact ⟨hw'.only o2 (fun hA' e => hw'.neAt hst hA' (by decide) e), (okk q hq).len⟩
  · have hw' := k.sr.only o (fun hA' e => k.sr.ne k.sl hA' e.1 (by decide) e.2)
    exact hw'.only o2 (fun hA' e => hw'.neAt hst hA' (by decide) e)
  · rcases hA.2 with ⟨h1, h2⟩ | h2
    · simp only; rw [h2]; exact k.h8 h1
    · simp only; omega
  · exact (o.mono (fun i _ e => .inr (.inl e))).trans (o2.mono (fun i _ e => .inl e))
theorem XH.app9 (k : XH B w d size ps ss L) (hB : B ≤ w.heap.size) {A9' : Option Addr} {c9' g9' : Nat} {z : Int} (o : Only (fun i => L.A9 ≠ none ∧ i = L.g9) w w')
    (row : RowAt w' A9' (ss.length + 1) c9' g9' 3 1 (iv ss ++ [.int .i64 z])) (hA : A9' ≠ none ∧ (L.A9 ≠ none ∧ g9' = L.g9 ∨ w.heap.size ≤ g9')) :
    XH B (w'.setCell ⟨d, 2, none⟩ (.slice A9' (ss.length + 1) c9')) d size ps (ss ++ [z]) ⟨L.A8, L.c8, L.g8, A9', c9', g9'⟩ ∧ Only (L.S d) w (w'.setCell ⟨d, 2, none⟩ (.slice A9' (ss.length + 1) c9')) := by
  have hst := k.st.only o (fun e => k.sr.neAt k.st e.1 (by decide) e.2.symm)
  have o2 : Only (fun i => i = d) w' (w'.setCell ⟨d, 2, none⟩ (.slice A9' (ss.length + 1) c9')) := (Only.refl (fun i => i = d) w').setCell (p := ⟨d, 2, none⟩) (fun _ => rfl) _
  have n9 : g9' ≠ d := row.neAt hst hA.1 (by decide)
  refine ⟨⟨?_, ?_, fun q hq => ?_, ?_, k.len, k.hd, k.h8, fun _ => ?_⟩, ?_⟩
  · have := hst.set 2 (.slice A9' (ss.length + 1) c9')
    simpa using this
  · have hw' := k.sl.only o (fun hA' e => k.sl.ne k.sr hA' e.1 (by decide) e.2)
    exact hw'.only o2 (fun hA' e => hw'.neAt hst hA' (by decide) e)
  · have hw' : RowAt w' q.A q.x.data.length q.c q.gp 5 1 (bv q.x.data) := (k.ok q hq).row.only o (fun hA' e => (k.ok q hq).row.ne k.sr hA' e.1 (by decide) e.2)
    exact ⟨hw'.only o2 (fun hA' e => hw'.neAt hst hA' (by decide) e), (k.ok q hq).len⟩
  · rw [List.length_append]
    have : iv (ss ++ [z]) = iv ss ++ [.int .i64 z] := by simp [iv]
    rw [this]
    exact row.only o2 (fun _ e => n9 e)
  · rcases hA.2 with ⟨h1, h2⟩ | h2
    · simp only; rw [h2]; exact k.h9 h1
    · simp only; omega
  · exact (o.mono (fun i _ e => .inr (.inr e))).trans (o2.mono (fun i _ e => .inl e))
end

def XPut (B d : Nat) (size : Int) (ps : List PS) (ss : List Int) (L : XL) (x : Sl) (w : World) (e : Ending) (w' : World) : Prop :=
  e = .returned (.tuple #[.int .i64 ps.length, .int .i64 0]) ∧ ∃ L' r, r.x = x ∧ XM B w' d size (ps ++ [r]) (ss ++ [0]) L' ∧ Only (L.S d) w w'

set_option maxHeartbeats 2000000 in
theorem xput_full (B d : Nat) (size : Nat) (ps : List PS) (ss : List Int) (L : XL) (t : Nat) (ht : TL ss t) (hs : size ≤ 256) (v0 v1 v2 v3 v4 : Value) (hf : (size : Int) - ps.length + t < 1) (w : World) (k : XM B w d size ps ss L) :
    Calls Try.prog 40 #[.pointer (some ⟨d, 0, none⟩), .agg #[v0, v1, v2, v3, v4]] w fun e w' => e = .returned (.tuple #[.int .i64 0, .int .i64 11]) ∧ Only (fun _ => False) w w' := by
  have hO := (Only.refl (fun _ => False) w).alloc (.cells #[v0, v1, v2, v3, v4] 37)
  have H30 := Lib.hid (xfree_any B d size ps ss L t ht hs _ (k.quiet hO))
  have HO := Lib.hid hO
  generalize (size : Int) - ps.length + t = f at *
  clear k ht hO
  go_enter Try.func40, Try.ntmps40
  go_wp2_with (fail)
  refine H30.out.mono ?_
  rintro e w1 ⟨rfl, hO1⟩
  have HO1 := Lib.hid (HO.out.trans hO1)
  clear hO1
  go_wp2
  go_ret2
  exact ⟨rfl, HO1.out⟩

set_option maxRecDepth 100000 in
set_option maxHeartbeats 8000000 in
theorem xput_any (B d : Nat) (size : Nat) (ps : List PS) (ss : List Int) (L : XL) (t : Nat) (ht : TL ss t) (hs : size ≤ 256) (x : Sl) (A : Option Addr) (c gs : Nat) (hf : 1 ≤ (size : Int) - ps.length + t) (w : World) (k : XM B w d size ps ss L)
    (hB : B ≤ w.heap.size) (hlp : ps.length < 100000) (hr : Rd w gs A (bv x.data)) (hl : x.data.length ≤ 1000000) :
    Calls Try.prog 40 #[.pointer (some ⟨d, 0, none⟩), .agg #[.int .i64 x.k, .int .i64 x.l, .int .i64 x.s, .slice A x.data.length c, .int .i64 x.f]] w (XPut B d size ps ss L x w) := by
  obtain ⟨ti, hi⟩ : ∃ i, Try.prog.info? 37 = some i := ⟨_, rfl⟩
  have hz0 : ti.zero = some (.agg #[.int .i64 0, .int .i64 0, .int .i64 0, .slice none 0 0, .int .i64 0]) := by cases hi; rfl
  have hz1 : ti.size = 5 := by cases hi; rfl
  have hz2 : ti.bytes = 56 := by cases hi; rfl
  have HI := Lib.hid (And.intro hi (And.intro hz0 (And.intro hz1 hz2)))
  obtain ⟨tj, hj⟩ : ∃ i, Try.prog.info? 3 = some i := ⟨_, rfl⟩
  have hy0 : tj.zero = some (.int .i64 0) := by cases hj; rfl
  have hy1 : tj.size = 1 := by cases hj; rfl
  have hy2 : tj.bytes = 8 := by cases hj; rfl
  have HJ := Lib.hid (And.intro hj (And.intro hy0 (And.intro hy1 hy2)))
  clear hi hz0 hz1 hz2 hj hy0 hy1 hy2
  have hO := (Only.refl (fun _ => False) w).alloc (.cells #[.int .i64 x.k, .int .i64 x.l, .int .i64 x.s, .slice A x.data.length c, .int .i64 x.f] 37)
  have H30 := Lib.hid (xfree_any B d size ps ss L t ht hs _ (k.quiet hO))
  have HX := Lib.hid (At.new w 37 #[.int .i64 x.k, .int .i64 x.l, .int .i64 x.s, .slice A x.data.length c, .int .i64 x.f])
  have HR := Lib.hid (hr.only hO id)
  have HK := Lib.hid (k.quiet hO)
  have HO := Lib.hid hO
  have HEQ := Lib.hid k.eq
  have hf' : (size : Int) - ps.length + t ≤ 9223372036854775807 := by have := ht.le; have := k.eq; omega
  have HL := Lib.hid hl
  obtain ⟨n, hn⟩ : ∃ n, ps.length = n := ⟨_, rfl⟩
  have HN := Lib.hid hn
  rw [hn] at hlp
  have hsn : ss.length = n := by rw [k.eq, hn]
  have HSN := Lib.hid hsn
  generalize (size : Int) - ps.length + t = f at *
  have HLT := Lib.hid (And.intro k.st.lt (fun h => k.sl.lt h) : d < w.heap.size ∧ (L.A8 ≠ none → L.g8 < w.heap.size))
  clear k ht hO hr hl hn hsn
  unfold XPut
  go_enter Try.func40, Try.ntmps40
  go_wp2_with (fail)
  refine H30.out.mono ?_
  rintro e w1 ⟨rfl, hO1⟩
  have HO1 := Lib.hid (HO.out.trans hO1)
  have HX1 := Lib.hid (HX.out.only hO1 id)
  have HR1 := Lib.hid (HR.out.only hO1 id)
  have HK1 := Lib.hid (HK.out.quiet hO1)
  have k1 : w1.cell? ⟨d, 1, none⟩ = some (.slice L.A8 n L.c8) := by have := HK1.out.st.cell 1; rw [HN.out] at this; exact this
  clear hO1
  clear HO HX HR HK H30
  have d1 : decide (f < 1) = false := decide_eq_false (by omega)
  have x0 : w1.cell? ⟨w.heap.size, 0, none⟩ = some (.int .i64 x.k) := HX1.out.cell 0
  have x1 : w1.cell? ⟨w.heap.size, 1, none⟩ = some (.int .i64 x.l) := HX1.out.cell 1
  have x2 : w1.cell? ⟨w.heap.size, 2, none⟩ = some (.int .i64 x.s) := HX1.out.cell 2
  have x3 : w1.cell? ⟨w.heap.size, 3, none⟩ = some (.slice A x.data.length c) := HX1.out.cell 3
  have x4 : w1.cell? ⟨w.heap.size, 4, none⟩ = some (.int .i64 x.f) := HX1.out.cell 4
  have HCP := Lib.hid (copy_any x A c gs _ (HR1.out.only ((Only.refl (fun _ => False) w1).drew) id) HL.out)
  clear HR1
  go_wp2_with (fail)
  refine wp_region_held_drew (S := (fun W => (W.cell? ⟨w.heap.size, 0, none⟩ = some (.int .i64 x.k) ∧ W.cell? ⟨w.heap.size, 1, none⟩ = some (.int .i64 x.l)) ∧ (W.cell? ⟨w.heap.size, 2, none⟩ = some (.int .i64 x.s) ∧ W.cell? ⟨w.heap.size, 3, none⟩ = some (.slice A x.data.length c)) ∧ W.cell? ⟨w.heap.size, 4, none⟩ = some (.int .i64 x.f))) (by kernel_rfl) ?_ (fun hHeld => ?_)
  · exact ⟨⟨x0, x1⟩, ⟨x2, x3⟩, x4⟩
  refine wpAnyH_take (i := 0) (oi := { dst := some 9, op := Op.move (Operand.tmp 0), type := 27, pos := "ref.go:65", after := #[], guard := none }) (v := ?_) rfl (by kernel_rfl) (by kernel_rfl) (by kernel_rfl) (fun _ _ _ h => h) (Or.inl ⟨by rfl, ?_⟩) (by assumption) ?_
  rotate_left
  · (intro w hSw; (try dsimp only at hSw); (try obtain ⟨hSa, hSb⟩ := hSw); go_simp; try with_reducible rfl)
  try simp only [Act.put, List.setIfInBounds_toArray, List.set_cons_zero, List.set_cons_succ]
  refine wpAnyH_take (i := 1) (oi := { dst := some 10, op := Op.move (Operand.tmp 0), type := 27, pos := "ref.go:65", after := #[], guard := none }) (v := ?_) rfl (by kernel_rfl) (by kernel_rfl) (by kernel_rfl) (fun _ _ _ h => h) (Or.inl ⟨by rfl, ?_⟩) (by assumption) ?_
  rotate_left
  · (intro w hSw; (try dsimp only at hSw); (try obtain ⟨hSa, hSb⟩ := hSw); go_simp; try with_reducible rfl)
  try simp only [Act.put, List.setIfInBounds_toArray, List.set_cons_zero, List.set_cons_succ]
  refine wpAnyH_take (i := 2) (oi := { dst := some 11, op := Op.nilCheck (Operand.tmp 10), type := 0, pos := "ref.go:65", after := #[{ on := 1, ground := Ground.data }], guard := none }) (v := ?_) rfl (by kernel_rfl) (by kernel_rfl) (by kernel_rfl) (fun _ _ _ h => h) (Or.inl ⟨by rfl, ?_⟩) (by assumption) ?_
  rotate_left
  · (intro w hSw; (try dsimp only at hSw); (try obtain ⟨hSa, hSb⟩ := hSw); go_simp; try with_reducible rfl)
  try simp only [Act.put, List.setIfInBounds_toArray, List.set_cons_zero, List.set_cons_succ]
  refine wpAnyH_take (i := 3) (oi := { dst := some 12, op := Op.fieldAddr 60 (Operand.tmp 11) 1, type := 0, pos := "ref.go:65", after := #[{ on := 2, ground := Ground.data }], guard := none }) (v := ?_) rfl (by kernel_rfl) (by kernel_rfl) (by kernel_rfl) (fun _ _ _ h => h) (Or.inl ⟨by rfl, ?_⟩) (by assumption) ?_
  rotate_left
  · (intro w hSw; (try dsimp only at hSw); (try obtain ⟨hSa, hSb⟩ := hSw); go_simp; try with_reducible rfl)
  try simp only [Act.put, List.setIfInBounds_toArray, List.set_cons_zero, List.set_cons_succ]
  refine wpAnyH_take (i := 5) (oi := { dst := some 14, op := Op.load 37 (Operand.tmp 3), type := 37, pos := "ref.go:65", after := #[], guard := none }) (v := ?_) rfl (by kernel_rfl) (by kernel_rfl) (by kernel_rfl) (fun _ _ _ h => h) (Or.inl ⟨by rfl, ?_⟩) (by assumption) ?_
  rotate_left
  · (intro w hSw; (try dsimp only at hSw); (try obtain ⟨hSa, hSb⟩ := hSw); go_simp; try with_reducible rfl)
  try simp only [Act.put, List.setIfInBounds_toArray, List.set_cons_zero, List.set_cons_succ]
  refine wpAnyH_ready (rs := [4, 6]) (by kernel_rfl) (by simp) ?_
  refine AllReadyH.cons (o := { dst := some 13, op := Op.load 45 (Operand.tmp 12), type := 45, pos := "ref.go:65", after := #[{ on := 3, ground := Ground.data }], guard := none }) rfl (fun K hK => ?_) (AllReadyH.cons (o := { dst := some 15, op := Op.call { callee := Callee.value (Operand.func 21), args := #[Operand.tmp 14], argTypes := #[37] }, type := 37, pos := "ref.go:65", after := #[{ on := 5, ground := Ground.data }], guard := none }) rfl (fun K hK => ?_) AllReadyH.nil)
  · skip
    go_simp
    refine hK.out _ _ ?_ (fun hHeld => ?_)
    · exact ⟨⟨HX1.out.drew.cell 0, HX1.out.drew.cell 1⟩, ⟨HX1.out.drew.cell 2, HX1.out.drew.cell 3⟩, HX1.out.drew.cell 4⟩
    clear hK K
    try simp only [Act.put, List.setIfInBounds_toArray, List.set_cons_zero, List.set_cons_succ]
    refine wpAnyH_ready (rs := [6]) (by kernel_rfl) (by simp) ?_
    refine AllReadyH.cons (o := { dst := some 15, op := Op.call { callee := Callee.value (Operand.func 21), args := #[Operand.tmp 14], argTypes := #[37] }, type := 37, pos := "ref.go:65", after := #[{ on := 5, ground := Ground.data }], guard := none }) rfl (fun K hK => ?_) AllReadyH.nil
    go_simp
    refine HCP.out.mono ?_
    rintro e w2 ⟨A', c', gp, rfl, hr2, hA2, hg2, hO2⟩
    have hO2' := ((Only.refl (fun _ => False) w1).drew).trans hO2
    have HK2 := Lib.hid (HK1.out.quiet hO2')
    have HO2 := Lib.hid (HO1.out.trans hO2')
    have HX2 := Lib.hid (HX1.out.only hO2' id)
    have HR2 := Lib.hid hr2
    have k1 : w2.cell? ⟨d, 1, none⟩ = some (.slice L.A8 n L.c8) := by have := HK2.out.st.cell 1; rw [HN.out] at this; exact this
    clear hr2 hO2 hO2'
    simp only [Sl.val]
    try simp only []
    refine hK.out _ _ ?_ (fun hHeld => ?_)
    · exact ⟨⟨HX2.out.cell 0, HX2.out.cell 1⟩, ⟨HX2.out.cell 2, HX2.out.cell 3⟩, HX2.out.cell 4⟩
    clear hK K
    try simp only [Act.put, List.setIfInBounds_toArray, List.set_cons_zero, List.set_cons_succ]
    refine wpAnyH_ready (rs := [7]) (by kernel_rfl) (by simp) ?_
    refine AllReadyH.cons (o := { dst := some 16, op := Op.buildSlice 45 1 #[(0, Operand.tmp 15)], type := 45, pos := "ref.go:65", after := #[{ on := 6, ground := Ground.data }], guard := none }) rfl (fun K hK => ?_) AllReadyH.nil
    go_simp
    have oz := (Only.refl (fun _ => False) w2).alloc (.cells #[.int .i64 x.k, .int .i64 x.l, .int .i64 x.s, .slice A' x.data.length c', .int .i64 x.f] 37)
    have HX3 := Lib.hid (HX2.out.only oz id)
    have HK3 := Lib.hid (HK2.out.quiet oz)
    have HO3 := Lib.hid (HO2.out.trans oz)
    have HR3 := Lib.hid (HR2.out.only oz (fun _ => id))
    have HNW := Lib.hid (At.new w2 37 #[.int .i64 x.k, .int .i64 x.l, .int .i64 x.s, .slice A' x.data.length c', .int .i64 x.f])
    have HROW := Lib.hid HK3.out.sl
    rw [HN.out] at HROW
    have k1 : (w2.alloc (.cells #[.int .i64 x.k, .int .i64 x.l, .int .i64 x.s, .slice A' x.data.length c', .int .i64 x.f] 37)).cell? ⟨d, 1, none⟩ = some (.slice L.A8 n L.c8) := by have := HK3.out.st.cell 1; rw [HN.out] at this; exact this
    clear oz
    refine hK.out _ _ ?_ (fun hHeld => ?_)
    · exact ⟨⟨HX3.out.cell 0, HX3.out.cell 1⟩, ⟨HX3.out.cell 2, HX3.out.cell 3⟩, HX3.out.cell 4⟩
    clear hK K
    try simp only [Act.put, List.setIfInBounds_toArray, List.set_cons_zero, List.set_cons_succ]
    refine wpAnyH_ready (rs := [8]) (by kernel_rfl) (by simp) ?_
    refine AllReadyH.cons (o := { dst := some 17, op := Op.call { callee := Callee.builtin Builtin.append, args := #[Operand.tmp 13, Operand.tmp 16], argTypes := #[45, 45] }, type := 45, pos := "ref.go:65", after := #[{ on := 4, ground := Ground.data }, { on := 7, ground := Ground.data }, { on := 6, ground := Ground.chain }], guard := none }) rfl (fun K hK => ?_) AllReadyH.nil
    refine step_append_row rfl (.tmp 13) (.tmp 16) 45 rfl 37 ti (.agg #[.int .i64 0, .int .i64 0, .int .i64 0, .slice none 0 0, .int .i64 0]) 5 56 Try.underlying45 HI.out.1 HI.out.2.1 HI.out.2.2.1 HI.out.2.2.2 rfl (by decide) L.A8 n L.c8 L.g8 (psc ps) rfl HROW.out ⟨w2.heap.size, 0, none⟩ [.int .i64 x.k, .int .i64 x.l, .int .i64 x.s, .slice A' x.data.length c', .int .i64 x.f] 1 rfl rfl (HNW.out.reads) (by simp [Value.oneCell']) (by unfold maxLen; omega) (by omega) ?_
    intro A8' c8' g8' w3 hrow3 hO4 hA3
    have hsz3 : B ≤ (w2.alloc (.cells #[.int .i64 x.k, .int .i64 x.l, .int .i64 x.s, .slice A' x.data.length c', .int .i64 x.f] 37)).heap.size := by have h1 := HO3.out.size; omega
    have h3 := HK3.out.half.app8 (r := ⟨x, A', c', gp⟩) hsz3 (by rw [HN.out]; exact hlp) ⟨HR3.out, HL.out⟩ hO4 (by rw [HN.out]; exact hrow3) hA3
    rw [HN.out] at h3
    have HK4 := Lib.hid h3.1
    have HO4 := Lib.hid ((HO3.out.mono (fun i _ e => e.elim)).trans h3.2)
    have hd1 := HK3.out.st.only hO4 (fun e => HK3.out.sl.neAt HK3.out.st e.1 (by decide) e.2.symm)
    have k3 := hd1.cell 1
    have k3f := hd1.frozen 1
    simp only [List.getElem?_toArray, List.getElem?_cons_zero, List.getElem?_cons_succ, HN.out] at k3
    have HX4 := Lib.hid (HX3.out.only hO4 (fun e => by have := HLT.out.2 e.1; omega))
    have HX5 := Lib.hid (HX4.out.only ((Only.refl (fun i => i = d) w3).setCell (p := ⟨d, 1, none⟩) (fun _ => rfl) (.slice A8' (n + 1) c8')) (fun e => by have := HLT.out.1; omega))
    have HA3 := Lib.hid hA3
    clear h3 hrow3 hO4 hA3 hd1
    refine hK.out _ _ ?_ (fun hHeld => ?_)
    · exact ⟨⟨HX4.out.cell 0, HX4.out.cell 1⟩, ⟨HX4.out.cell 2, HX4.out.cell 3⟩, HX4.out.cell 4⟩
    clear hK K
    try simp only [Act.put, List.setIfInBounds_toArray, List.set_cons_zero, List.set_cons_succ]
    refine wpAnyH_take (i := 9) (oi := { dst := some 18, op := Op.nilCheck (Operand.tmp 9), type := 0, pos := "ref.go:65", after := #[{ on := 0, ground := Ground.data }, { on := 0, ground := Ground.phase }, { on := 1, ground := Ground.phase }, { on := 2, ground := Ground.phase }, { on := 3, ground := Ground.phase }, { on := 4, ground := Ground.phase }, { on := 5, ground := Ground.phase }, { on := 6, ground := Ground.phase }, { on := 7, ground := Ground.phase }, { on := 8, ground := Ground.phase }], guard := none }) (v := ?_) rfl (by kernel_rfl) (by kernel_rfl) (by kernel_rfl) (fun _ _ _ h => h) (Or.inl ⟨by rfl, ?_⟩) (by assumption) ?_
    rotate_left
    · (intro w hSw; (try dsimp only at hSw); (try obtain ⟨hSa, hSb⟩ := hSw); go_simp; try with_reducible rfl)
    try simp only [Act.put, List.setIfInBounds_toArray, List.set_cons_zero, List.set_cons_succ]
    refine wpAnyH_take (i := 10) (oi := { dst := some 19, op := Op.fieldAddr 60 (Operand.tmp 18) 1, type := 0, pos := "ref.go:65", after := #[{ on := 9, ground := Ground.data }, { on := 0, ground := Ground.phase }, { on := 1, ground := Ground.phase }, { on := 2, ground := Ground.phase }, { on := 3, ground := Ground.phase }, { on := 4, ground := Ground.phase }, { on := 5, ground := Ground.phase }, { on := 6, ground := Ground.phase }, { on := 7, ground := Ground.phase }, { on := 8, ground := Ground.phase }], guard := none }) (v := ?_) rfl (by kernel_rfl) (by kernel_rfl) (by kernel_rfl) (fun _ _ _ h => h) (Or.inl ⟨by rfl, ?_⟩) (by assumption) ?_
    rotate_left
    · (intro w hSw; (try dsimp only at hSw); (try obtain ⟨hSa, hSb⟩ := hSw); go_simp; try with_reducible rfl)
    try simp only [Act.put, List.setIfInBounds_toArray, List.set_cons_zero, List.set_cons_succ]
    refine wpAnyH_ready (rs := [11]) (by kernel_rfl) (by simp) ?_
    refine AllReadyH.cons (o := { dst := none, op := Op.store 45 (Operand.tmp 19) (Operand.tmp 17), type := 0, pos := "ref.go:65", after := #[{ on := 10, ground := Ground.data }, { on := 8, ground := Ground.data }, { on := 8, ground := Ground.chain }, { on := 0, ground := Ground.phase }, { on := 1, ground := Ground.phase }, { on := 2, ground := Ground.phase }, { on := 3, ground := Ground.phase }, { on := 4, ground := Ground.phase }, { on := 5, ground := Ground.phase }, { on := 6, ground := Ground.phase }, { on := 7, ground := Ground.phase }, { on := 8, ground := Ground.phase }], guard := none }) rfl (fun K hK => ?_) AllReadyH.nil
    go_simp
    refine hK.out _ _ ?_ (fun hHeld => ?_)
    · exact ⟨⟨HX5.out.cell 0, HX5.out.cell 1⟩, ⟨HX5.out.cell 2, HX5.out.cell 3⟩, HX5.out.cell 4⟩
    clear hK K
    try simp only [Act.put, List.setIfInBounds_toArray, List.set_cons_zero, List.set_cons_succ]
    refine wpAnyH_done (by kernel_rfl) ?_ _
    clear k1 k3 k3f
    have HO5 := Lib.hid (HO4.out.trans ((Only.refl (fun _ => False) _).mono (fun i _ e => e.elim)))
    have HB5 : Hid (B ≤ (w3.setCell ⟨d, 1, none⟩ (.slice A8' (n + 1) c8')).heap.size) := Lib.hid (by have := HO5.out.size; omega)
    have q2 : (w3.setCell ⟨d, 1, none⟩ (.slice A8' (n + 1) c8')).cell? ⟨d, 2, none⟩ = some (.slice L.A9 n L.c9) := by have := HK4.out.st.cell 2; rw [HSN.out] at this; exact this
    generalize hw4 : w3.setCell ⟨d, 1, none⟩ (.slice A8' (n + 1) c8') = w4 at *
    have HW4 := Lib.hid hw4
    have HK5 := Lib.hid (HK4.out.quiet ((Only.refl (fun _ => False) w4).alloc (.cells #[.int .i64 0] 3)))
    have HO6 := Lib.hid (HO5.out.trans (((Only.refl (fun _ => False) w4).alloc (.cells #[.int .i64 0] 3)).mono (fun i _ e => e.elim)))
    have HNY := Lib.hid (At.new w4 3 #[.int .i64 0])
    have HRY := Lib.hid HK5.out.sr
    rw [HSN.out] at HRY
    clear hw4 HX5 HX4 HX3 HX2 HX1 HNW HROW
    go_wp2_with (at_builtin; go_loud (refine wpList_append_row _ rfl (.tmp 24) (.tmp 25) 32 rfl 3 tj (.int .i64 0) 1 8 Try.underlying32 HJ.out.1 HJ.out.2.1 HJ.out.2.2.1 HJ.out.2.2.2 rfl (by decide) L.A9 n L.c9 L.g9 (iv ss) rfl HRY.out ⟨w4.heap.size, 0, none⟩ [.int .i64 0] 1 rfl rfl (HNY.out.reads) (by simp [Value.oneCell']) (by unfold maxLen; omega) (by omega) ?_); intro A9' c9' g9' w6 hrow6 hO7 hA6; have HROW6 := Lib.hid hrow6; have HO7 := Lib.hid hO7; have HA6 := Lib.hid hA6; have hd6 := HK5.out.st.only HO7.out (fun e => HK5.out.sr.neAt HK5.out.st e.1 (by decide) e.2.symm); have k61 := hd6.cell 1; have k62 := hd6.cell 2; have k6f := hd6.frozen 2; simp only [List.getElem?_toArray, List.getElem?_cons_zero, List.getElem?_cons_succ, HSN.out, List.length_append, List.length_cons, List.length_nil, HN.out] at k61 k62; clear hrow6 hO7 hA6 hd6)
    have hB6 : B ≤ (w4.alloc (.cells #[.int .i64 0] 3)).heap.size := by have := HO6.out.size; omega
    have h7 := HK5.out.app9 (z := 0) hB6 HO7.out (by rw [HSN.out]; exact HROW6.out) HA6.out
    rw [HSN.out] at h7
    have hL5 : ∀ i, B ≤ i → L.S d i ∨ (∃ j, j = i ∧ w.heap.size ≤ i) → True := fun _ _ _ => trivial
    have HFIN := Lib.hid h7
    clear h7 hL5
    go_ret2
    refine ⟨by rw [HN.out]; rfl, _, ⟨x, A', c', gp⟩, rfl, HFIN.out.1.whole (by simp [HSN.out, HN.out]), ?_⟩
    refine HO6.out.trans' HFIN.out.2 (fun i hi e => ?_)
    rcases e with e | ⟨e1, e2⟩ | ⟨e1, e2⟩
    · exact .inl e
    · have hA8 := HA3.out
      rcases hA8.2 with ⟨h1, h2⟩ | h2
      · exact .inr (.inl ⟨h1, by rw [e2]; exact h2⟩)
      · exfalso; simp at e2 h2; have := HO3.out.size; simp at this; omega
    · exact .inr (.inr ⟨e1, e2⟩)
  · skip
    go_simp
    refine HCP.out.mono ?_
    rintro e w2 ⟨A', c', gp, rfl, hr2, hA2, hg2, hO2⟩
    have hO2' := ((Only.refl (fun _ => False) w1).drew).trans hO2
    have HK2 := Lib.hid (HK1.out.quiet hO2')
    have HO2 := Lib.hid (HO1.out.trans hO2')
    have HX2 := Lib.hid (HX1.out.only hO2' id)
    have HR2 := Lib.hid hr2
    have k1 : w2.cell? ⟨d, 1, none⟩ = some (.slice L.A8 n L.c8) := by have := HK2.out.st.cell 1; rw [HN.out] at this; exact this
    clear hr2 hO2 hO2'
    simp only [Sl.val]
    try simp only []
    refine hK.out _ _ ?_ (fun hHeld => ?_)
    · exact ⟨⟨HX2.out.cell 0, HX2.out.cell 1⟩, ⟨HX2.out.cell 2, HX2.out.cell 3⟩, HX2.out.cell 4⟩
    clear hK K
    try simp only [Act.put, List.setIfInBounds_toArray, List.set_cons_zero, List.set_cons_succ]
    refine wpAnyH_ready (rs := [4, 7]) (by kernel_rfl) (by simp) ?_
    refine AllReadyH.cons (o := { dst := some 13, op := Op.load 45 (Operand.tmp 12), type := 45, pos := "ref.go:65", after := #[{ on := 3, ground := Ground.data }], guard := none }) rfl (fun K hK => ?_) (AllReadyH.cons (o := { dst := some 16, op := Op.buildSlice 45 1 #[(0, Operand.tmp 15)], type := 45, pos := "ref.go:65", after := #[{ on := 6, ground := Ground.data }], guard := none }) rfl (fun K hK => ?_) AllReadyH.nil)
    · skip
      go_simp
      refine hK.out _ _ ?_ (fun hHeld => ?_)
      · exact ⟨⟨HX2.out.cell 0, HX2.out.cell 1⟩, ⟨HX2.out.cell 2, HX2.out.cell 3⟩, HX2.out.cell 4⟩
      clear hK K
      try simp only [Act.put, List.setIfInBounds_toArray, List.set_cons_zero, List.set_cons_succ]
      refine wpAnyH_ready (rs := [7]) (by kernel_rfl) (by simp) ?_
      refine AllReadyH.cons (o := { dst := some 16, op := Op.buildSlice 45 1 #[(0, Operand.tmp 15)], type := 45, pos := "ref.go:65", after := #[{ on := 6, ground := Ground.data }], guard := none }) rfl (fun K hK => ?_) AllReadyH.nil
      go_simp
      have oz := (Only.refl (fun _ => False) w2).alloc (.cells #[.int .i64 x.k, .int .i64 x.l, .int .i64 x.s, .slice A' x.data.length c', .int .i64 x.f] 37)
      have HX3 := Lib.hid (HX2.out.only oz id)
      have HK3 := Lib.hid (HK2.out.quiet oz)
      have HO3 := Lib.hid (HO2.out.trans oz)
      have HR3 := Lib.hid (HR2.out.only oz (fun _ => id))
      have HNW := Lib.hid (At.new w2 37 #[.int .i64 x.k, .int .i64 x.l, .int .i64 x.s, .slice A' x.data.length c', .int .i64 x.f])
      have HROW := Lib.hid HK3.out.sl
      rw [HN.out] at HROW
      have k1 : (w2.alloc (.cells #[.int .i64 x.k, .int .i64 x.l, .int .i64 x.s, .slice A' x.data.length c', .int .i64 x.f] 37)).cell? ⟨d, 1, none⟩ = some (.slice L.A8 n L.c8) := by have := HK3.out.st.cell 1; rw [HN.out] at this; exact this
      clear oz
      refine hK.out _ _ ?_ (fun hHeld => ?_)
      · exact ⟨⟨HX3.out.cell 0, HX3.out.cell 1⟩, ⟨HX3.out.cell 2, HX3.out.cell 3⟩, HX3.out.cell 4⟩
      clear hK K
      try simp only [Act.put, List.setIfInBounds_toArray, List.set_cons_zero, List.set_cons_succ]
      refine wpAnyH_ready (rs := [8]) (by kernel_rfl) (by simp) ?_
      refine AllReadyH.cons (o := { dst := some 17, op := Op.call { callee := Callee.builtin Builtin.append, args := #[Operand.tmp 13, Operand.tmp 16], argTypes := #[45, 45] }, type := 45, pos := "ref.go:65", after := #[{ on := 4, ground := Ground.data }, { on := 7, ground := Ground.data }, { on := 6, ground := Ground.chain }], guard := none }) rfl (fun K hK => ?_) AllReadyH.nil
      refine step_append_row rfl (.tmp 13) (.tmp 16) 45 rfl 37 ti (.agg #[.int .i64 0, .int .i64 0, .int .i64 0, .slice none 0 0, .int .i64 0]) 5 56 Try.underlying45 HI.out.1 HI.out.2.1 HI.out.2.2.1 HI.out.2.2.2 rfl (by decide) L.A8 n L.c8 L.g8 (psc ps) rfl HROW.out ⟨w2.heap.size, 0, none⟩ [.int .i64 x.k, .int .i64 x.l, .int .i64 x.s, .slice A' x.data.length c', .int .i64 x.f] 1 rfl rfl (HNW.out.reads) (by simp [Value.oneCell']) (by unfold maxLen; omega) (by omega) ?_
      intro A8' c8' g8' w3 hrow3 hO4 hA3
      have hsz3 : B ≤ (w2.alloc (.cells #[.int .i64 x.k, .int .i64 x.l, .int .i64 x.s, .slice A' x.data.length c', .int .i64 x.f] 37)).heap.size := by have h1 := HO3.out.size; omega
      have h3 := HK3.out.half.app8 (r := ⟨x, A', c', gp⟩) hsz3 (by rw [HN.out]; exact hlp) ⟨HR3.out, HL.out⟩ hO4 (by rw [HN.out]; exact hrow3) hA3
      rw [HN.out] at h3
      have HK4 := Lib.hid h3.1
      have HO4 := Lib.hid ((HO3.out.mono (fun i _ e => e.elim)).trans h3.2)
      have hd1 := HK3.out.st.only hO4 (fun e => HK3.out.sl.neAt HK3.out.st e.1 (by decide) e.2.symm)
      have k3 := hd1.cell 1
      have k3f := hd1.frozen 1
      simp only [List.getElem?_toArray, List.getElem?_cons_zero, List.getElem?_cons_succ, HN.out] at k3
      have HX4 := Lib.hid (HX3.out.only hO4 (fun e => by have := HLT.out.2 e.1; omega))
      have HX5 := Lib.hid (HX4.out.only ((Only.refl (fun i => i = d) w3).setCell (p := ⟨d, 1, none⟩) (fun _ => rfl) (.slice A8' (n + 1) c8')) (fun e => by have := HLT.out.1; omega))
      have HA3 := Lib.hid hA3
      clear h3 hrow3 hO4 hA3 hd1
      refine hK.out _ _ ?_ (fun hHeld => ?_)
      · exact ⟨⟨HX4.out.cell 0, HX4.out.cell 1⟩, ⟨HX4.out.cell 2, HX4.out.cell 3⟩, HX4.out.cell 4⟩
      clear hK K
      try simp only [Act.put, List.setIfInBounds_toArray, List.set_cons_zero, List.set_cons_succ]
      refine wpAnyH_take (i := 9) (oi := { dst := some 18, op := Op.nilCheck (Operand.tmp 9), type := 0, pos := "ref.go:65", after := #[{ on := 0, ground := Ground.data }, { on := 0, ground := Ground.phase }, { on := 1, ground := Ground.phase }, { on := 2, ground := Ground.phase }, { on := 3, ground := Ground.phase }, { on := 4, ground := Ground.phase }, { on := 5, ground := Ground.phase }, { on := 6, ground := Ground.phase }, { on := 7, ground := Ground.phase }, { on := 8, ground := Ground.phase }], guard := none }) (v := ?_) rfl (by kernel_rfl) (by kernel_rfl) (by kernel_rfl) (fun _ _ _ h => h) (Or.inl ⟨by rfl, ?_⟩) (by assumption) ?_
      rotate_left
      · (intro w hSw; (try dsimp only at hSw); (try obtain ⟨hSa, hSb⟩ := hSw); go_simp; try with_reducible rfl)
      try simp only [Act.put, List.setIfInBounds_toArray, List.set_cons_zero, List.set_cons_succ]
      refine wpAnyH_take (i := 10) (oi := { dst := some 19, op := Op.fieldAddr 60 (Operand.tmp 18) 1, type := 0, pos := "ref.go:65", after := #[{ on := 9, ground := Ground.data }, { on := 0, ground := Ground.phase }, { on := 1, ground := Ground.phase }, { on := 2, ground := Ground.phase }, { on := 3, ground := Ground.phase }, { on := 4, ground := Ground.phase }, { on := 5, ground := Ground.phase }, { on := 6, ground := Ground.phase }, { on := 7, ground := Ground.phase }, { on := 8, ground := Ground.phase }], guard := none }) (v := ?_) rfl (by kernel_rfl) (by kernel_rfl) (by kernel_rfl) (fun _ _ _ h => h) (Or.inl ⟨by rfl, ?_⟩) (by assumption) ?_
      rotate_left
      · (intro w hSw; (try dsimp only at hSw); (try obtain ⟨hSa, hSb⟩ := hSw); go_simp; try with_reducible rfl)
      try simp only [Act.put, List.setIfInBounds_toArray, List.set_cons_zero, List.set_cons_succ]
      refine wpAnyH_ready (rs := [11]) (by kernel_rfl) (by simp) ?_
      refine AllReadyH.cons (o := { dst := none, op := Op.store 45 (Operand.tmp 19) (Operand.tmp 17), type := 0, pos := "ref.go:65", after := #[{ on := 10, ground := Ground.data }, { on := 8, ground := Ground.data }, { on := 8, ground := Ground.chain }, { on := 0, ground := Ground.phase }, { on := 1, ground := Ground.phase }, { on := 2, ground := Ground.phase }, { on := 3, ground := Ground.phase }, { on := 4, ground := Ground.phase }, { on := 5, ground := Ground.phase }, { on := 6, ground := Ground.phase }, { on := 7, ground := Ground.phase }, { on := 8, ground := Ground.phase }], guard := none }) rfl (fun K hK => ?_) AllReadyH.nil
      go_simp
      refine hK.out _ _ ?_ (fun hHeld => ?_)
      · exact ⟨⟨HX5.out.cell 0, HX5.out.cell 1⟩, ⟨HX5.out.cell 2, HX5.out.cell 3⟩, HX5.out.cell 4⟩
      clear hK K
      try simp only [Act.put, List.setIfInBounds_toArray, List.set_cons_zero, List.set_cons_succ]
      refine wpAnyH_done (by kernel_rfl) ?_ _
      clear k1 k3 k3f
      have HO5 := Lib.hid (HO4.out.trans ((Only.refl (fun _ => False) _).mono (fun i _ e => e.elim)))
      have HB5 : Hid (B ≤ (w3.setCell ⟨d, 1, none⟩ (.slice A8' (n + 1) c8')).heap.size) := Lib.hid (by have := HO5.out.size; omega)
      have q2 : (w3.setCell ⟨d, 1, none⟩ (.slice A8' (n + 1) c8')).cell? ⟨d, 2, none⟩ = some (.slice L.A9 n L.c9) := by have := HK4.out.st.cell 2; rw [HSN.out] at this; exact this
      generalize hw4 : w3.setCell ⟨d, 1, none⟩ (.slice A8' (n + 1) c8') = w4 at *
      have HW4 := Lib.hid hw4
      have HK5 := Lib.hid (HK4.out.quiet ((Only.refl (fun _ => False) w4).alloc (.cells #[.int .i64 0] 3)))
      have HO6 := Lib.hid (HO5.out.trans (((Only.refl (fun _ => False) w4).alloc (.cells #[.int .i64 0] 3)).mono (fun i _ e => e.elim)))
      have HNY := Lib.hid (At.new w4 3 #[.int .i64 0])
      have HRY := Lib.hid HK5.out.sr
      rw [HSN.out] at HRY
      clear hw4 HX5 HX4 HX3 HX2 HX1 HNW HROW
      go_wp2_with (at_builtin; go_loud (refine wpList_append_row _ rfl (.tmp 24) (.tmp 25) 32 rfl 3 tj (.int .i64 0) 1 8 Try.underlying32 HJ.out.1 HJ.out.2.1 HJ.out.2.2.1 HJ.out.2.2.2 rfl (by decide) L.A9 n L.c9 L.g9 (iv ss) rfl HRY.out ⟨w4.heap.size, 0, none⟩ [.int .i64 0] 1 rfl rfl (HNY.out.reads) (by simp [Value.oneCell']) (by unfold maxLen; omega) (by omega) ?_); intro A9' c9' g9' w6 hrow6 hO7 hA6; have HROW6 := Lib.hid hrow6; have HO7 := Lib.hid hO7; have HA6 := Lib.hid hA6; have hd6 := HK5.out.st.only HO7.out (fun e => HK5.out.sr.neAt HK5.out.st e.1 (by decide) e.2.symm); have k61 := hd6.cell 1; have k62 := hd6.cell 2; have k6f := hd6.frozen 2; simp only [List.getElem?_toArray, List.getElem?_cons_zero, List.getElem?_cons_succ, HSN.out, List.length_append, List.length_cons, List.length_nil, HN.out] at k61 k62; clear hrow6 hO7 hA6 hd6)
      have hB6 : B ≤ (w4.alloc (.cells #[.int .i64 0] 3)).heap.size := by have := HO6.out.size; omega
      have h7 := HK5.out.app9 (z := 0) hB6 HO7.out (by rw [HSN.out]; exact HROW6.out) HA6.out
      rw [HSN.out] at h7
      have hL5 : ∀ i, B ≤ i → L.S d i ∨ (∃ j, j = i ∧ w.heap.size ≤ i) → True := fun _ _ _ => trivial
      have HFIN := Lib.hid h7
      clear h7 hL5
      go_ret2
      refine ⟨by rw [HN.out]; rfl, _, ⟨x, A', c', gp⟩, rfl, HFIN.out.1.whole (by simp [HSN.out, HN.out]), ?_⟩
      refine HO6.out.trans' HFIN.out.2 (fun i hi e => ?_)
      rcases e with e | ⟨e1, e2⟩ | ⟨e1, e2⟩
      · exact .inl e
      · have hA8 := HA3.out
        rcases hA8.2 with ⟨h1, h2⟩ | h2
        · exact .inr (.inl ⟨h1, by rw [e2]; exact h2⟩)
        · exfalso; simp at e2 h2; have := HO3.out.size; simp at this; omega
      · exact .inr (.inr ⟨e1, e2⟩)
    · skip
      go_simp
      have oz := (Only.refl (fun _ => False) w2).alloc (.cells #[.int .i64 x.k, .int .i64 x.l, .int .i64 x.s, .slice A' x.data.length c', .int .i64 x.f] 37)
      have HX3 := Lib.hid (HX2.out.only oz id)
      have HK3 := Lib.hid (HK2.out.quiet oz)
      have HO3 := Lib.hid (HO2.out.trans oz)
      have HR3 := Lib.hid (HR2.out.only oz (fun _ => id))
      have HNW := Lib.hid (At.new w2 37 #[.int .i64 x.k, .int .i64 x.l, .int .i64 x.s, .slice A' x.data.length c', .int .i64 x.f])
      have HROW := Lib.hid HK3.out.sl
      rw [HN.out] at HROW
      have k1 : (w2.alloc (.cells #[.int .i64 x.k, .int .i64 x.l, .int .i64 x.s, .slice A' x.data.length c', .int .i64 x.f] 37)).cell? ⟨d, 1, none⟩ = some (.slice L.A8 n L.c8) := by have := HK3.out.st.cell 1; rw [HN.out] at this; exact this
      clear oz
      refine hK.out _ _ ?_ (fun hHeld => ?_)
      · exact ⟨⟨HX3.out.cell 0, HX3.out.cell 1⟩, ⟨HX3.out.cell 2, HX3.out.cell 3⟩, HX3.out.cell 4⟩
      clear hK K
      try simp only [Act.put, List.setIfInBounds_toArray, List.set_cons_zero, List.set_cons_succ]
      refine wpAnyH_ready (rs := [4]) (by kernel_rfl) (by simp) ?_
      refine AllReadyH.cons (o := { dst := some 13, op := Op.load 45 (Operand.tmp 12), type := 45, pos := "ref.go:65", after := #[{ on := 3, ground := Ground.data }], guard := none }) rfl (fun K hK => ?_) AllReadyH.nil
      go_simp
      refine hK.out _ _ ?_ (fun hHeld => ?_)
      · exact ⟨⟨HX3.out.cell 0, HX3.out.cell 1⟩, ⟨HX3.out.cell 2, HX3.out.cell 3⟩, HX3.out.cell 4⟩
      clear hK K
      try simp only [Act.put, List.setIfInBounds_toArray, List.set_cons_zero, List.set_cons_succ]
      refine wpAnyH_ready (rs := [8]) (by kernel_rfl) (by simp) ?_
      refine AllReadyH.cons (o := { dst := some 17, op := Op.call { callee := Callee.builtin Builtin.append, args := #[Operand.tmp 13, Operand.tmp 16], argTypes := #[45, 45] }, type := 45, pos := "ref.go:65", after := #[{ on := 4, ground := Ground.data }, { on := 7, ground := Ground.data }, { on := 6, ground := Ground.chain }], guard := none }) rfl (fun K hK => ?_) AllReadyH.nil
      refine step_append_row rfl (.tmp 13) (.tmp 16) 45 rfl 37 ti (.agg #[.int .i64 0, .int .i64 0, .int .i64 0, .slice none 0 0, .int .i64 0]) 5 56 Try.underlying45 HI.out.1 HI.out.2.1 HI.out.2.2.1 HI.out.2.2.2 rfl (by decide) L.A8 n L.c8 L.g8 (psc ps) rfl HROW.out ⟨w2.heap.size, 0, none⟩ [.int .i64 x.k, .int .i64 x.l, .int .i64 x.s, .slice A' x.data.length c', .int .i64 x.f] 1 rfl rfl (HNW.out.reads) (by simp [Value.oneCell']) (by unfold maxLen; omega) (by omega) ?_
      intro A8' c8' g8' w3 hrow3 hO4 hA3
      have hsz3 : B ≤ (w2.alloc (.cells #[.int .i64 x.k, .int .i64 x.l, .int .i64 x.s, .slice A' x.data.length c', .int .i64 x.f] 37)).heap.size := by have h1 := HO3.out.size; omega
      have h3 := HK3.out.half.app8 (r := ⟨x, A', c', gp⟩) hsz3 (by rw [HN.out]; exact hlp) ⟨HR3.out, HL.out⟩ hO4 (by rw [HN.out]; exact hrow3) hA3
      rw [HN.out] at h3
      have HK4 := Lib.hid h3.1
      have HO4 := Lib.hid ((HO3.out.mono (fun i _ e => e.elim)).trans h3.2)
      have hd1 := HK3.out.st.only hO4 (fun e => HK3.out.sl.neAt HK3.out.st e.1 (by decide) e.2.symm)
      have k3 := hd1.cell 1
      have k3f := hd1.frozen 1
      simp only [List.getElem?_toArray, List.getElem?_cons_zero, List.getElem?_cons_succ, HN.out] at k3
      have HX4 := Lib.hid (HX3.out.only hO4 (fun e => by have := HLT.out.2 e.1; omega))
      have HX5 := Lib.hid (HX4.out.only ((Only.refl (fun i => i = d) w3).setCell (p := ⟨d, 1, none⟩) (fun _ => rfl) (.slice A8' (n + 1) c8')) (fun e => by have := HLT.out.1; omega))
      have HA3 := Lib.hid hA3
      clear h3 hrow3 hO4 hA3 hd1
      refine hK.out _ _ ?_ (fun hHeld => ?_)
      · exact ⟨⟨HX4.out.cell 0, HX4.out.cell 1⟩, ⟨HX4.out.cell 2, HX4.out.cell 3⟩, HX4.out.cell 4⟩
      clear hK K
      try simp only [Act.put, List.setIfInBounds_toArray, List.set_cons_zero, List.set_cons_succ]
      refine wpAnyH_take (i := 9) (oi := { dst := some 18, op := Op.nilCheck (Operand.tmp 9), type := 0, pos := "ref.go:65", after := #[{ on := 0, ground := Ground.data }, { on := 0, ground := Ground.phase }, { on := 1, ground := Ground.phase }, { on := 2, ground := Ground.phase }, { on := 3, ground := Ground.phase }, { on := 4, ground := Ground.phase }, { on := 5, ground := Ground.phase }, { on := 6, ground := Ground.phase }, { on := 7, ground := Ground.phase }, { on := 8, ground := Ground.phase }], guard := none }) (v := ?_) rfl (by kernel_rfl) (by kernel_rfl) (by kernel_rfl) (fun _ _ _ h => h) (Or.inl ⟨by rfl, ?_⟩) (by assumption) ?_
      rotate_left
      · (intro w hSw; (try dsimp only at hSw); (try obtain ⟨hSa, hSb⟩ := hSw); go_simp; try with_reducible rfl)
      try simp only [Act.put, List.setIfInBounds_toArray, List.set_cons_zero, List.set_cons_succ]
      refine wpAnyH_take (i := 10) (oi := { dst := some 19, op := Op.fieldAddr 60 (Operand.tmp 18) 1, type := 0, pos := "ref.go:65", after := #[{ on := 9, ground := Ground.data }, { on := 0, ground := Ground.phase }, { on := 1, ground := Ground.phase }, { on := 2, ground := Ground.phase }, { on := 3, ground := Ground.phase }, { on := 4, ground := Ground.phase }, { on := 5, ground := Ground.phase }, { on := 6, ground := Ground.phase }, { on := 7, ground := Ground.phase }, { on := 8, ground := Ground.phase }], guard := none }) (v := ?_) rfl (by kernel_rfl) (by kernel_rfl) (by kernel_rfl) (fun _ _ _ h => h) (Or.inl ⟨by rfl, ?_⟩) (by assumption) ?_
      rotate_left
      · (intro w hSw; (try dsimp only at hSw); (try obtain ⟨hSa, hSb⟩ := hSw); go_simp; try with_reducible rfl)
      try simp only [Act.put, List.setIfInBounds_toArray, List.set_cons_zero, List.set_cons_succ]
      refine wpAnyH_ready (rs := [11]) (by kernel_rfl) (by simp) ?_
      refine AllReadyH.cons (o := { dst := none, op := Op.store 45 (Operand.tmp 19) (Operand.tmp 17), type := 0, pos := "ref.go:65", after := #[{ on := 10, ground := Ground.data }, { on := 8, ground := Ground.data }, { on := 8, ground := Ground.chain }, { on := 0, ground := Ground.phase }, { on := 1, ground := Ground.phase }, { on := 2, ground := Ground.phase }, { on := 3, ground := Ground.phase }, { on := 4, ground := Ground.phase }, { on := 5, ground := Ground.phase }, { on := 6, ground := Ground.phase }, { on := 7, ground := Ground.phase }, { on := 8, ground := Ground.phase }], guard := none }) rfl (fun K hK => ?_) AllReadyH.nil
      go_simp
      refine hK.out _ _ ?_ (fun hHeld => ?_)
      · exact ⟨⟨HX5.out.cell 0, HX5.out.cell 1⟩, ⟨HX5.out.cell 2, HX5.out.cell 3⟩, HX5.out.cell 4⟩
      clear hK K
      try simp only [Act.put, List.setIfInBounds_toArray, List.set_cons_zero, List.set_cons_succ]
      refine wpAnyH_done (by kernel_rfl) ?_ _
      clear k1 k3 k3f
      have HO5 := Lib.hid (HO4.out.trans ((Only.refl (fun _ => False) _).mono (fun i _ e => e.elim)))
      have HB5 : Hid (B ≤ (w3.setCell ⟨d, 1, none⟩ (.slice A8' (n + 1) c8')).heap.size) := Lib.hid (by have := HO5.out.size; omega)
      have q2 : (w3.setCell ⟨d, 1, none⟩ (.slice A8' (n + 1) c8')).cell? ⟨d, 2, none⟩ = some (.slice L.A9 n L.c9) := by have := HK4.out.st.cell 2; rw [HSN.out] at this; exact this
      generalize hw4 : w3.setCell ⟨d, 1, none⟩ (.slice A8' (n + 1) c8') = w4 at *
      have HW4 := Lib.hid hw4
      have HK5 := Lib.hid (HK4.out.quiet ((Only.refl (fun _ => False) w4).alloc (.cells #[.int .i64 0] 3)))
      have HO6 := Lib.hid (HO5.out.trans (((Only.refl (fun _ => False) w4).alloc (.cells #[.int .i64 0] 3)).mono (fun i _ e => e.elim)))
      have HNY := Lib.hid (At.new w4 3 #[.int .i64 0])
      have HRY := Lib.hid HK5.out.sr
      rw [HSN.out] at HRY
      clear hw4 HX5 HX4 HX3 HX2 HX1 HNW HROW
      go_wp2_with (at_builtin; go_loud (refine wpList_append_row _ rfl (.tmp 24) (.tmp 25) 32 rfl 3 tj (.int .i64 0) 1 8 Try.underlying32 HJ.out.1 HJ.out.2.1 HJ.out.2.2.1 HJ.out.2.2.2 rfl (by decide) L.A9 n L.c9 L.g9 (iv ss) rfl HRY.out ⟨w4.heap.size, 0, none⟩ [.int .i64 0] 1 rfl rfl (HNY.out.reads) (by simp [Value.oneCell']) (by unfold maxLen; omega) (by omega) ?_); intro A9' c9' g9' w6 hrow6 hO7 hA6; have HROW6 := Lib.hid hrow6; have HO7 := Lib.hid hO7; have HA6 := Lib.hid hA6; have hd6 := HK5.out.st.only HO7.out (fun e => HK5.out.sr.neAt HK5.out.st e.1 (by decide) e.2.symm); have k61 := hd6.cell 1; have k62 := hd6.cell 2; have k6f := hd6.frozen 2; simp only [List.getElem?_toArray, List.getElem?_cons_zero, List.getElem?_cons_succ, HSN.out, List.length_append, List.length_cons, List.length_nil, HN.out] at k61 k62; clear hrow6 hO7 hA6 hd6)
      have hB6 : B ≤ (w4.alloc (.cells #[.int .i64 0] 3)).heap.size := by have := HO6.out.size; omega
      have h7 := HK5.out.app9 (z := 0) hB6 HO7.out (by rw [HSN.out]; exact HROW6.out) HA6.out
      rw [HSN.out] at h7
      have hL5 : ∀ i, B ≤ i → L.S d i ∨ (∃ j, j = i ∧ w.heap.size ≤ i) → True := fun _ _ _ => trivial
      have HFIN := Lib.hid h7
      clear h7 hL5
      go_ret2
      refine ⟨by rw [HN.out]; rfl, _, ⟨x, A', c', gp⟩, rfl, HFIN.out.1.whole (by simp [HSN.out, HN.out]), ?_⟩
      refine HO6.out.trans' HFIN.out.2 (fun i hi e => ?_)
      rcases e with e | ⟨e1, e2⟩ | ⟨e1, e2⟩
      · exact .inl e
      · have hA8 := HA3.out
        rcases hA8.2 with ⟨h1, h2⟩ | h2
        · exact .inr (.inl ⟨h1, by rw [e2]; exact h2⟩)
        · exfalso; simp at e2 h2; have := HO3.out.size; simp at this; omega
      · exact .inr (.inr ⟨e1, e2⟩)
end Go.Proofs.Ytookghkfghdadaa
