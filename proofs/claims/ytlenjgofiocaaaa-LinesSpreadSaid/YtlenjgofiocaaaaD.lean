/- Lines: the lines in memory; the iterator over the lines of a state. -/
import Derived.Test.YtlenjgofiocaaaaC
import Derived.RangeFuncNested
import Derived.RangeFuncBound
import Derived.RangeFuncCalls
import Derived.RangeFuncLeaves
import Derived.RangeFuncWrites
import Derived.Shelf.Abstract
import Derived.WalkKit
import Derived.OwnWalkIn
import Derived.TacticsInMore
import Derived.LoopNIn
import Derived.LoopIn
namespace Go.Proofs.Ytlenjgofiocaaaa
open Go.RowKit Go.Shelf
attribute [local go_sem] Oper.semAt_some

def lcs (G : Ge) (l : List Ln) : List Value := l.flatMap (Ln.cells G)
theorem lcs_len (G : Ge) (l : List Ln) : (lcs G l).length = l.length * 8 := by
  induction l with
  | nil => rfl
  | cons x t ih => simp only [lcs, List.flatMap_cons, List.length_append, List.length_cons] at *; rw [ih]; simp [Ln.cells]; omega
theorem lcs_get (G : Ge) (l : List Ln) (i j : Nat) (hi : i < l.length) (hj : j < 8) : (lcs G l)[i * 8 + j]? = ((l[i]).cells G)[j]? := by
  induction l generalizing i with
  | nil => simp at hi
  | cons x t ih =>
    have hc : (x.cells G).length = 8 := rfl
    cases i with
    | zero =>
      simp only [lcs, List.flatMap_cons, Nat.zero_mul, Nat.zero_add, List.getElem_cons_zero]
      rw [List.getElem?_append_left (by omega)]
    | succ i =>
      simp only [lcs, List.flatMap_cons, List.getElem_cons_succ]
      rw [List.getElem?_append_right (by omega)]
      have := ih i (by simpa using hi)
      rw [← this]
      congr 1
      omega
/-- The eight cells of a line at (g, o). -/
structure LnAt (w : World) (g o : Nat) (G : Ge) (x : Ln) : Prop where
  c0 : w.cell? ⟨g, o, none⟩ = some (.int .i64 x.s)
  c1 : w.cell? ⟨g, o + 1, none⟩ = some (.int .i64 x.w)
  c2 : w.cell? ⟨g, o + 2, none⟩ = some (.int .i64 x.g)
  c3 : w.cell? ⟨g, o + 3, none⟩ = some (.int .i64 G.c)
  c4 : w.cell? ⟨g, o + 4, none⟩ = some (.int .i64 G.l)
  c5 : w.cell? ⟨g, o + 5, none⟩ = some (.int .i64 G.b)
  c6 : w.cell? ⟨g, o + 6, none⟩ = some (.int .i64 G.p)
  c7 : w.cell? ⟨g, o + 7, none⟩ = some (.int .i64 G.s)
/-- Lines at block b: the row l (in block gb, from off on), and which is open. -/
structure LAt (w : World) (b : Nat) (G : Ge) (l : List Ln) (off c gb : Nat) (op : Int) : Prop where
  st : At w b 59 #[.slice (some ⟨gb, off, none⟩) l.length c, .int .i64 op]
  row : RowAt w (some ⟨gb, off, none⟩) l.length c gb 62 8 (lcs G l)
  len : 1 ≤ l.length ∧ l.length ≤ 64
section
variable {S : Nat → Prop} {w w' : World} {b off c gb : Nat} {G : Ge} {l : List Ln} {op : Int}
theorem LAt.ne (k : LAt w b G l off c gb op) : gb ≠ b := k.row.neAt k.st (by simp) (by decide)
theorem LAt.only (k : LAt w b G l off c gb op) (o : Only S w w') (h1 : ¬ S b) (h2 : ¬ S gb) : LAt w' b G l off c gb op :=
  ⟨k.st.only o h1, k.row.only o (fun _ => h2), k.len⟩
theorem LAt.quiet (k : LAt w b G l off c gb op) (o : Only (fun _ => False) w w') : LAt w' b G l off c gb op := k.only o id id
theorem LAt.lts (k : LAt w b G l off c gb op) : b < w.heap.size ∧ gb < w.heap.size := ⟨k.st.lt, k.row.lt (by simp)⟩
theorem LAt.below {n : Nat} (k : LAt w b G l off c gb op) (h : Below n w w') (h1 : b < n) (h2 : gb < n) : LAt w' b G l off c gb op := by
  refine ⟨k.st.of_below h h1, ?_, k.len⟩
  rcases k.row with ⟨h0, _⟩ | ⟨off', cells, e, ha, hr⟩
  · cases h0
  · exact .inr ⟨off', cells, e, ha.of_below h h2, hr⟩
theorem LAt.ln (k : LAt w b G l off c gb op) {i : Nat} (hi : i < l.length) : LnAt w gb (off + i * 8) G l[i] := by
  rcases k.row with ⟨h0, _⟩ | ⟨off', cells, e, ha, _, _, _, _, hr⟩
  · cases h0
  · injection e with e
    injection e with _ e _
    subst e
    have hh : ∀ j, j < 8 → ∀ u, ((l[i]).cells G)[j]? = some u → w.cell? ⟨gb, off + i * 8 + j, none⟩ = some u := by
      intro j hj u hu
      have := hr (i * 8 + j) u (by rw [lcs_get G l i j hi hj]; exact hu)
      rw [ha.cell, Nat.add_assoc]; exact this
    exact ⟨hh 0 (by omega) _ rfl, hh 1 (by omega) _ rfl, hh 2 (by omega) _ rfl, hh 3 (by omega) _ rfl, hh 4 (by omega) _ rfl, hh 5 (by omega) _ rfl, hh 6 (by omega) _ rfl, hh 7 (by omega) _ rfl⟩
theorem LAt.fr (k : LAt w b G l off c gb op) (j : Nat) : w.frozen? ⟨gb, j, none⟩ = false := by
  rcases k.row with ⟨h0, _⟩ | ⟨off', cells, e, ha, _⟩
  · cases h0
  · exact ha.frozen j
end

theorem grownBy_alloc (w : World) (o : Obj) : w.grownBy (w.alloc o) none := ⟨rfl, rfl, rfl, by simp, fun k hk _ => Below.heap_alloc w o k hk⟩

/-- A line, with its place. -/
abbrev Ent (l : List Ln) := { x : Nat × Ln // l[x.1]? = some x.2 }
/-- The lines of a state among the first k, each with its place. -/
def flt (l : List Ln) (st : Int) : Nat → List (Ent l)
  | 0 => []
  | k + 1 => match h : l[k]? with
    | some x => if x.s = st then flt l st k ++ [⟨(k, x), h⟩] else flt l st k
    | none => flt l st k
theorem flt_yes {l : List Ln} {st : Int} {k : Nat} {x : Ln} (h : l[k]? = some x) (hs : x.s = st) : flt l st (k + 1) = flt l st k ++ [⟨(k, x), h⟩] := by
  simp only [flt]
  split
  · rename_i y hy
    rw [h] at hy
    injection hy with hy
    subst hy
    rw [if_pos hs]
  · rename_i hn
    rw [h] at hn; cases hn
theorem flt_no {l : List Ln} {st : Int} {k : Nat} {x : Ln} (h : l[k]? = some x) (hs : ¬ x.s = st) : flt l st (k + 1) = flt l st k := by
  simp only [flt]
  split
  · rename_i y hy
    rw [h] at hy
    injection hy with hy
    subst hy
    rw [if_neg hs]
  · rfl
theorem flt_len (l : List Ln) (st : Int) : ∀ k, (flt l st k).length ≤ k
  | 0 => Nat.le_refl _
  | k + 1 => by
    have := flt_len l st k
    cases h : l[k]? with
    | none => simp only [flt]; split <;> (first | omega | (rename_i hy; rw [h] at hy; cases hy))
    | some x =>
      by_cases hs : x.s = st
      · rw [flt_yes h hs]; simp; omega
      · rw [flt_no h hs]; omega

set_option maxHeartbeats 1000000 in
theorem all_in (F : Fence) (n : Nat) (h35 : F.fn 35) (hro : F.round = none) (b : Nat) (st : Int) (w : World) :
    CallsIn F n Try.prog 35 #[.pointer (some ⟨b, 0, none⟩), .int .i64 st] w fun e w' => e = .returned (.func (.func 48) #[] #[.pointer (some ⟨w.heap.size, 0, none⟩), .pointer (some ⟨w.heap.size + 1, 0, none⟩)]) ∧
      w' = (w.alloc (.cells #[.pointer (some ⟨b, 0, none⟩)] 26)).alloc (.cells #[.int .i64 st] 3) := by
  refine callsIn_of_wp Try.func35 rfl h35 ?_ hro
  simp only [Try.ntmps35, List.size_toArray, List.length_cons, List.length_nil, Nat.reduceAdd, Nat.reduceSub, Array.replicate_succ, Array.replicate_zero, List.push_toArray, List.append_toArray, List.nil_append, List.cons_append]
  gi_wp2
  go_ret
  exact ⟨rfl, rfl⟩

set_option maxRecDepth 100000 in
set_option maxHeartbeats 4000000 in
theorem all1_in (F : Fence) (n : Nat) (h48 : F.fn 48) (hro : F.round = none) (hn : 1 ≤ n) (lp Bl Bs b off c gb : Nat) (G : Ge) (l : List Ln) (op st : Int) (S : Nat → Prop) (hSb : ¬ S b) (hSg : ¬ S gb) (hSs : ¬ S Bs) (J Jx : List (Ent l) → World → Prop)
    (W : World) (hJa : AbidesFrom W.heap.size J)
    (hY : ∀ pre x W1, J pre W1 → pre.length < l.length → YieldAt F (n - 1) Try.prog lp #[.int .i64 (x.1.1 : Int), x.1.2.val G] W1 fun e W' =>
      (e = .returned (.bool true) ∧ J (pre ++ [x]) W' ∧ Only S W1 W') ∨ (e = .returned (.bool false) ∧ Jx (pre ++ [x]) W'))
    (hBl : W.cell? ⟨Bl, 0, none⟩ = some (.pointer (some ⟨b, 0, none⟩))) (hBs : W.cell? ⟨Bs, 0, none⟩ = some (.int .i64 st)) (k0 : LAt W b G l off c gb op) (h0 : J [] W) :
    CallsIn F n Try.prog 48 #[.func (.yield lp) #[] #[], .pointer (some ⟨Bl, 0, none⟩), .pointer (some ⟨Bs, 0, none⟩)] W fun e W' => (∃ v, e = .returned v) ∧
      ((∃ ys, ys = flt l st l.length ∧ J ys W') ∨ (∃ pre, (∃ k, k ≤ l.length ∧ pre = flt l st k) ∧ Jx pre W')) := by
  have c0 := k0.st.cell 0
  simp at c0
  obtain ⟨hl1, hl2⟩ := k0.len
  have HK0 := Lib.hid k0
  have HBS := Lib.hid hBs
  have HY := Lib.hid hY
  have HJA := Lib.hid hJa
  have HSS := Lib.hid (And.intro hSb (And.intro hSg hSs))
  clear k0 hBs hY hJa hSb hSg hSs
  obtain ⟨len, hlen⟩ : ∃ len, l.length = len := ⟨_, rfl⟩
  have HL := Lib.hid hlen
  rw [hlen] at c0 hl1 hl2 HY ⊢
  clear hlen
  refine callsIn_of_wp Try.func48 rfl h48 ?_ hro
  simp only [Try.ntmps48, List.size_toArray, List.length_cons, List.length_nil, Nat.reduceAdd, Nat.reduceSub, Array.replicate_succ, Array.replicate_zero, List.push_toArray, List.append_toArray, List.nil_append, List.cons_append]
  gi_wp2
  gi_loopw [11] (fun i wr => ∃ k : Nat, k ≤ len ∧ i = .int .i64 k ∧ J (flt l st k) wr ∧ Only S W wr)
    (fun i _ => len - (intOf i).toNat)
  case atStart => exact ⟨0, Nat.zero_le _, rfl, h0, Only.refl _ _⟩
  case round =>
    obtain ⟨k, hk, rfl, hJs, hnx⟩ := hrel
    have HJs := Lib.hid hJs
    have HNX := Lib.hid hnx
    clear hJs hnx
    by_cases hlt : k < len
    · have hkl : k < l.length := by rw [HL.out]; exact hlt
      have i0 : (0 : Int) ≤ k := by omega
      have i1 : (k : Int) < len := by omega
      obtain ⟨e0, e1, e2, e3, e4, e5, e6, e7⟩ := (HK0.out.only HNX.out HSS.out.1 HSS.out.2.1).ln hkl
      obtain ⟨x, hx⟩ : ∃ x, l[k]? = some x := ⟨_, List.getElem?_eq_getElem hkl⟩
      have hxe : l[k] = x := by rw [List.getElem?_eq_getElem hkl] at hx; injection hx
      rw [hxe] at e0 e1 e2
      obtain ⟨xs, xw, xg⟩ := x
      have HXX := Lib.hid (show True from trivial)
      have HYES := Lib.hid (fun h => flt_yes (st := st) hx h)
      have HNO := Lib.hid (fun h => flt_no (st := st) hx h)
      clear hxe
      simp only at e0 e1 e2 HYES HNO
      have hbs0 : wr.cell? ⟨Bs, 0, none⟩ = some (.int .i64 st) := (HNX.out.cell (p := ⟨Bs, 0, none⟩) (World.block_lt_of_cell? _ _ HBS.out) HSS.out.2.2).trans HBS.out
      have hbs1 : (wr.alloc (.cells #[.int .i64 xs, .int .i64 xw, .int .i64 xg, .int .i64 G.c, .int .i64 G.l, .int .i64 G.b, .int .i64 G.p, .int .i64 G.s] 62)).cell? ⟨Bs, 0, none⟩ = some (.int .i64 st) :=
        (((Only.refl (fun _ => False) wr).alloc _).cell (p := ⟨Bs, 0, none⟩) (World.block_lt_of_cell? _ _ hbs0) id).trans hbs0
      have hJ1 := HJA.out (flt l st k) wr (wr.alloc (.cells #[.int .i64 xs, .int .i64 xw, .int .i64 xg, .int .i64 G.c, .int .i64 G.l, .int .i64 G.b, .int .i64 G.p, .int .i64 G.s] 62)) none HJs.out (grownBy_alloc _ _) (fun r e => by cases e)
      have HO1 := Lib.hid (HNX.out.alloc (.cells #[.int .i64 xs, .int .i64 xw, .int .i64 xg, .int .i64 G.c, .int .i64 G.l, .int .i64 G.b, .int .i64 G.p, .int .i64 G.s] 62))
      by_cases hs : xs = st
      · subst hs
        have hlk : (flt l xs k).length < len := by have := flt_len l xs k; omega
        obtain ⟨fn, tmps, assign, body, hy, hR⟩ := HY.out _ ⟨(k, (⟨xs, xw, xg⟩ : Ln)), hx⟩ _ hJ1 hlk
        unfold Ln.val at hy
        dsimp only at hy
        have HYS := Lib.hid (HYES.out rfl)
        have ts : (xs == xs) = true := by simp
        clear hJ1 HYES HNO hbs0
        gi_wp2
        refine hR.mono ?_
        rintro e W3 (⟨rfl, hJ3, hk3⟩ | ⟨rfl, hJx3⟩)
        · have HJ3 := Lib.hid hJ3
          have HO3 := Lib.hid (HO1.out.trans hk3)
          clear hJ3 hk3
          gi_wp2
          go_roundw
          case rel => exact ⟨k + 1, by omega, by simp, by rw [HYS.out]; exact HJ3.out, HO3.out⟩
          case measure => simp [intOf]; omega
        · gi_wp2
          refine bodyPost_ret (results_none rfl _ _ _) rfl ?_
          exact ⟨⟨_, rfl⟩, .inr ⟨_, ⟨k + 1, by omega, HYS.out.symm⟩, hJx3⟩⟩
      · have ts : (xs == st) = false := beq_false_of_ne hs
        have HJ1 := Lib.hid hJ1
        have HNS := Lib.hid (HNO.out hs)
        clear hJ1 HYES HNO hbs0 hs
        gi_wp2
        refine ⟨fun _ h => (by cases h), ?_⟩
        gi_wp2
        go_roundw
        case rel => exact ⟨k + 1, by omega, by simp, by rw [HNS.out]; exact HJ1.out, HO1.out⟩
        case measure => simp [intOf]; omega
    · obtain rfl : k = len := by omega
      gi_wp2
      go_end0
      exact ⟨⟨_, rfl⟩, .inl ⟨_, rfl, HJs.out⟩⟩

/-- The iterator over the lines of a state: it gives them all, or so many. -/
theorem all_stops (F : Fence) (n : Nat) (h48 : F.fn 48) (hro : F.round = none) (hn : 1 ≤ n) (Bl Bs b off c gb : Nat) (G : Ge) (l : List Ln) (op st : Int) (S : Nat → Prop) (hSb : ¬ S b) (hSg : ¬ S gb) (hSs : ¬ S Bs) (w : World)
    (hBl : w.cell? ⟨Bl, 0, none⟩ = some (.pointer (some ⟨b, 0, none⟩))) (hBs : w.cell? ⟨Bs, 0, none⟩ = some (.int .i64 st)) (k0 : LAt w b G l off c gb op) :
    SeqStopsK F n Try.prog 48 #[.pointer (some ⟨Bl, 0, none⟩), .pointer (some ⟨Bs, 0, none⟩)] (fun x : Ent l => #[Value.int .i64 (x.1.1 : Int), x.1.2.val G]) (Only S) (fun ys => ys = flt l st l.length)
      (fun pre => ∃ k, k ≤ l.length ∧ pre = flt l st k) l.length w := fun lp J Jx W hW hJ _ hY h0 =>
  all1_in F n h48 hro hn lp Bl Bs b off c gb G l op st S hSb hSg hSs J Jx W hJ hY ((hW.cell (p := ⟨Bl, 0, none⟩) (World.block_lt_of_cell? _ _ hBl)).trans hBl) ((hW.cell (p := ⟨Bs, 0, none⟩) (World.block_lt_of_cell? _ _ hBs)).trans hBs)
    (k0.below hW k0.lts.1 k0.lts.2) h0
end Go.Proofs.Ytlenjgofiocaaaa
