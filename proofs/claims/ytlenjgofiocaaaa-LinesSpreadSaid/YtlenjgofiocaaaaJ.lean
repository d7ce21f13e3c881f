/- Lines: Lose, Get. -/
import Derived.Test.YtlenjgofiocaaaaI
import Derived.Laws.ResultCell
namespace Go.Proofs.Ytlenjgofiocaaaa
open Go.RowKit

def loseE (l : List Ln) (n : Int) : Int := if n < 0 ∨ (l.length : Int) ≤ n then 2 else if (at' l n).g = 0 then 13 else 0
def lost (x : Ln) : Ln := { x with g := x.g - 1, s := if x.s = 0 then un (x.g - 1) else x.s }
def loseM (l : List Ln) (n : Int) : List Ln := if loseE l n = 0 then upd l n lost else l

set_option maxHeartbeats 2000000 in
theorem lose_any (b off c gb : Nat) (G : Ge) (l : List Ln) (hl : gOk l) (op n : Int) (w : World) (k : LAt w b G l off c gb op) :
    Calls Try.prog 20 #[.pointer (some ⟨b, 0, none⟩), .int .i64 n] w fun e w' => e = .returned (.int .i64 (loseE l n)) ∧ LAt w' b G (loseM l n) off c gb op ∧ Only (fun i => i = gb) w w' := by
  have c0 := k.st.cell 0
  simp at c0
  by_cases hn : n < 0
  · have HE : Hid (loseE l n = 2) := Lib.hid (by unfold loseE; rw [if_pos (.inl hn)])
    have HM : Hid (loseM l n = l) := Lib.hid (by unfold loseM; rw [HE.out, if_neg (by decide)])
    have HK := Lib.hid k
    clear k hl
    go_enter Try.func20, Try.ntmps20
    go_wp2
    go_ret
    exact ⟨by rw [HE.out]; rfl, by rw [HM.out]; exact HK.out, Only.refl _ _⟩
  by_cases hn2 : (l.length : Int) ≤ n
  · have HE : Hid (loseE l n = 2) := Lib.hid (by unfold loseE; rw [if_pos (.inr hn2)])
    have HM : Hid (loseM l n = l) := Lib.hid (by unfold loseM; rw [HE.out, if_neg (by decide)])
    have HK := Lib.hid k
    clear k hl
    go_enter Try.func20, Try.ntmps20
    go_wp2
    go_ret
    exact ⟨by rw [HE.out]; rfl, by rw [HM.out]; exact HK.out, Only.refl _ _⟩
  obtain ⟨i, rfl⟩ : ∃ i : Nat, n = i := ⟨n.toNat, by omega⟩
  have hi : i < l.length := by omega
  have i0 : (0 : Int) ≤ i := by omega
  have i1 : (i : Int) < l.length := by omega
  have i4 : decide (l.length ≤ i) = false := by simp; omega
  have e0 := (k.ln hi).c0
  have e2 := (k.ln hi).c2
  have f0 := k.fr (off + i * 8 + 2)
  have hg := hl _ (List.getElem_mem hi)
  have hg1 := hg.1
  have hg2 := hg.2
  by_cases hz : (l[i]).g = 0
  · have HE : Hid (loseE l i = 13) := Lib.hid (by unfold loseE; rw [if_neg (by omega), at'_nat hi, if_pos hz])
    have HM : Hid (loseM l i = l) := Lib.hid (by unfold loseM; rw [HE.out, if_neg (by decide)])
    have HK := Lib.hid k
    rw [hz] at e2
    clear k hl hg hn hn2 hz hg1 hg2
    generalize (l[i]).s = st at *
    go_enter Try.func20, Try.ntmps20
    go_wp2
    go_ret
    exact ⟨by rw [HE.out]; rfl, by rw [HM.out]; exact HK.out, Only.refl _ _⟩
  have HE : Hid (loseE l i = 0) := Lib.hid (by unfold loseE; rw [if_neg (by omega), at'_nat hi, if_neg hz])
  have HM : Hid (loseM l i = l.set i (lost l[i])) := Lib.hid (by unfold loseM; rw [HE.out, if_pos rfl, upd_nat hi])
  have hk1 := k.setGd hi ((l[i]).g - 1)
  have hi' : i < (l.set i { l[i] with g := (l[i]).g - 1 }).length := by simpa using hi
  obtain ⟨d0, d1, d2, d3, d4, d5, d6, d7⟩ := hk1.ln hi'
  have HK1 := Lib.hid hk1
  have hget : (l.set i { l[i] with g := (l[i]).g - 1 })[i] = { l[i] with g := (l[i]).g - 1 } := by simp
  rw [hget] at d0 d1 d2
  have HR : Hid (∀ w, Calls Try.prog 26 #[({ l[i] with g := (l[i]).g - 1 } : Ln).val G] w fun e w' => e = .returned (.int .i64 (un ((l[i]).g - 1))) ∧ Only (fun _ => False) w w') := Lib.hid (fun w => unused_any G _ w)
  have HO1 := Lib.hid ((Only.refl (fun j => j = gb) w).setCell (p := ⟨gb, off + i * 8 + 2, none⟩) (fun _ => rfl) (.int .i64 ((l[i]).g - 1)))
  have ts2 : ((l[i]).g == 0) = false := beq_false_of_ne hz
  have hlen := k.len
  clear k hl hg hn hn2 hk1 hget
  by_cases hs : (l[i]).s = 0
  · have HL : Hid (lost l[i] = { l[i] with g := (l[i]).g - 1, s := un ((l[i]).g - 1) }) := Lib.hid (by unfold lost; rw [if_pos hs])
    simp only [hs] at d0 e0
    have HSS := Lib.hid hs
    unfold Ln.val at HR
    simp only [hs] at HR
    clear hs
    generalize hgg : (l[i]).g = g at *
    have HGG := Lib.hid hgg
    clear hgg
    go_enter Try.func20, Try.ntmps20
    go_wp2_with (fail)
    refine (HR.out _).mono ?_
    rintro e w2 ⟨rfl, hO⟩
    have hk2 := HK1.out.quiet hO
    have f2 := hk2.fr (off + i * 8)
    have hi' : i < (l.set i { l[i] with g := g - 1 }).length := by simpa using hi
    have c2 := (hk2.ln hi').c0
    have HK2 := Lib.hid (hk2.setS hi' (un (g - 1)))
    have HO2 := Lib.hid (HO1.out.trans (hO.mono (T := fun i => i = gb) (fun _ _ h => h.elim)))
    clear hk2 hO HR
    go_wp2
    go_ret
    refine ⟨by rw [HE.out]; rfl, ?_, HO2.out.setCell (p := ⟨gb, off + i * 8, none⟩) (fun _ => rfl) _⟩
    rw [HM.out, HL.out]
    have := HK2.out
    simp only [List.set_set, List.getElem_set_self] at this
    exact this
  · have HL : Hid (lost l[i] = { l[i] with g := (l[i]).g - 1 }) := Lib.hid (by unfold lost; rw [if_neg hs])
    have ts : ((l[i]).s == 0) = false := beq_false_of_ne hs
    clear hs HR
    generalize (l[i]).s = st at *
    generalize (l[i]).g = g at *
    go_enter Try.func20, Try.ntmps20
    go_wp2
    go_ret
    refine ⟨by rw [HE.out]; rfl, ?_, HO1.out⟩
    rw [HM.out, HL.out]
    exact HK1.out

def lnV (G : Ge) (x : Ln) : Value := .agg #[.int .i64 x.s, .int .i64 x.w, .int .i64 x.g, .int .i64 0, .int .i64 (rm G x.g)]
def lnV0 : Value := .agg #[.int .i64 0, .int .i64 0, .int .i64 0, .int .i64 0, .int .i64 0]
def getV (G : Ge) (l : List Ln) (n : Int) : Value := if n < 0 ∨ (l.length : Int) ≤ n then lnV0 else lnV G (at' l n)
theorem results_row_tmp {P : Program} {fn : Func} {p u : Tmp} {ty : TypeId} (h : fn.results = #[.cell p ty, .tmp u]) (tmps : Array Value) (w : World) (g : Nat) (t : TypeId) (cs : Array Value) (fr : Nat × Nat) (d : TypeDesc)
    (hp : tmps.getD p undef = .pointer (some ⟨g, 0, none⟩)) (hg : w.heap[g]? = some (.cells cs t fr))
    (hu : P.underlying ty = some d) (hd : (match d with | .struct _ | .array _ _ => true | _ => false) = true) (hi : (P.info? ty).map (·.size) = some cs.size) :
    (results fn tmps).run P w = .ok (.tuple #[.agg cs, tmps.getD u undef]) w := by
  rw [results_cell_tmp h, hp]
  simp [asAddr, run_loadVar_row w g t ty cs fr d hg hu hd hi, Result.andThen]
theorem only_line (w2 : World) (x : Nat) (a b c d e : Value) : Only (fun i => i = x) w2 (((((w2.setCell ⟨x, 0, none⟩ a).setCell ⟨x, 1, none⟩ b).setCell ⟨x, 2, none⟩ c).setCell ⟨x, 3, none⟩ d).setCell ⟨x, 4, none⟩ e) := by
  refine Only.setCell (S := fun i => i = x) (p := ⟨x, 4, none⟩) ?_ (fun _ => rfl) _
  refine Only.setCell (S := fun i => i = x) (p := ⟨x, 3, none⟩) ?_ (fun _ => rfl) _
  refine Only.setCell (S := fun i => i = x) (p := ⟨x, 2, none⟩) ?_ (fun _ => rfl) _
  refine Only.setCell (S := fun i => i = x) (p := ⟨x, 1, none⟩) ?_ (fun _ => rfl) _
  refine Only.setCell (S := fun i => i = x) (p := ⟨x, 0, none⟩) ?_ (fun _ => rfl) _
  exact Only.refl _ _
def getE (l : List Ln) (n : Int) : Int := if n < 0 ∨ (l.length : Int) ≤ n then 2 else 0
set_option maxRecDepth 100000 in
set_option maxHeartbeats 4000000 in
theorem get_any (b off c gb : Nat) (G : Ge) (hG : G.Is) (l : List Ln) (hl : gOk l) (op n : Int) (w : World) (k : LAt w b G l off c gb op) :
    Calls Try.prog 14 #[.pointer (some ⟨b, 0, none⟩), .int .i64 n] w fun e w' => e = .returned (.tuple #[getV G l n, .int .i64 (getE l n)]) ∧ Only (fun _ => False) w w' := by
  have o0 := (Only.refl (fun _ => False) w).alloc (.cells #[.int .i64 0, .int .i64 0, .int .i64 0, .int .i64 0, .int .i64 0] 43)
  have k1 := k.quiet o0
  have c0 := k1.st.cell 0
  simp only [List.getElem?_toArray, List.getElem?_cons_zero] at c0
  clear o0
  by_cases hn : n < 0
  · have HE : Hid (getE l n = 2 ∧ getV G l n = lnV0) := Lib.hid (by unfold getE getV; rw [if_pos (.inl hn), if_pos (.inl hn)]; exact ⟨rfl, rfl⟩)
    clear k k1 hl
    go_enter Try.func14, Try.ntmps14
    go_wp2
    refine bodyPost_ret (v := .tuple #[lnV0, .int .i64 2]) (results_row_tmp (p := 4) (u := 5) (ty := 43) rfl _ _ w.heap.size 43 #[.int .i64 0, .int .i64 0, .int .i64 0, .int .i64 0, .int .i64 0] (0, 0) _ rfl (At.new _ _ _) Try.underlying43 rfl rfl) rfl ?_
    exact ⟨by rw [HE.out.1, HE.out.2], (Only.refl _ _).alloc _⟩
  by_cases hn2 : (l.length : Int) ≤ n
  · have HE : Hid (getE l n = 2 ∧ getV G l n = lnV0) := Lib.hid (by unfold getE getV; rw [if_pos (.inr hn2), if_pos (.inr hn2)]; exact ⟨rfl, rfl⟩)
    clear k k1 hl
    go_enter Try.func14, Try.ntmps14
    go_wp2
    refine bodyPost_ret (v := .tuple #[lnV0, .int .i64 2]) (results_row_tmp (p := 4) (u := 5) (ty := 43) rfl _ _ w.heap.size 43 #[.int .i64 0, .int .i64 0, .int .i64 0, .int .i64 0, .int .i64 0] (0, 0) _ rfl (At.new _ _ _) Try.underlying43 rfl rfl) rfl ?_
    exact ⟨by rw [HE.out.1, HE.out.2], (Only.refl _ _).alloc _⟩
  obtain ⟨i, rfl⟩ : ∃ i : Nat, n = i := ⟨n.toNat, by omega⟩
  have hi : i < l.length := by omega
  have i0 : (0 : Int) ≤ i := by omega
  have i1 : (i : Int) < l.length := by omega
  have i4 : decide (l.length ≤ i) = false := by simp; omega
  have HE : Hid (getE l i = 0 ∧ getV G l i = lnV G l[i]) := Lib.hid (by unfold getE getV; rw [if_neg (by omega), if_neg (by omega), at'_nat hi]; exact ⟨rfl, rfl⟩)
  obtain ⟨e0, e1, e2, e3, e4, e5, e6, e7⟩ := k1.ln hi
  have hg := hl _ (List.getElem_mem hi)
  have HR : Hid (∀ w, Calls Try.prog 34 #[(l[i]).val G] w fun e w' => e = .returned (.int .i64 (rm G (l[i]).g)) ∧ Only (fun _ => False) w w') := Lib.hid (fun w => room_any G hG _ hg.1 hg.2 w)
  unfold Ln.val at HR
  unfold lnV at HE
  clear k k1 hl hg hn hn2 hG
  generalize l[i] = x at *
  have o1 := (Only.refl (fun _ => False) w).alloc (.cells #[.int .i64 0, .int .i64 0, .int .i64 0, .int .i64 0, .int .i64 0] 43)
  have n1 := At.new w 43 #[.int .i64 0, .int .i64 0, .int .i64 0, .int .i64 0, .int .i64 0]
  have hsz1 : (w.alloc (.cells #[.int .i64 0, .int .i64 0, .int .i64 0, .int .i64 0, .int .i64 0] 43)).heap.size = w.heap.size + 1 := by simp
  have o2 := o1.alloc (.cells #[.int .i64 x.s, .int .i64 x.w, .int .i64 x.g, .int .i64 G.c, .int .i64 G.l, .int .i64 G.b, .int .i64 G.p, .int .i64 G.s] 62)
  have n2 := n1.alloc (.cells #[.int .i64 x.s, .int .i64 x.w, .int .i64 x.g, .int .i64 G.c, .int .i64 G.l, .int .i64 G.b, .int .i64 G.p, .int .i64 G.s] 62)
  have m2 := At.new (w.alloc (.cells #[.int .i64 0, .int .i64 0, .int .i64 0, .int .i64 0, .int .i64 0] 43)) 62 #[.int .i64 x.s, .int .i64 x.w, .int .i64 x.g, .int .i64 G.c, .int .i64 G.l, .int .i64 G.b, .int .i64 G.p, .int .i64 G.s]
  rw [hsz1] at m2
  have HO2 := Lib.hid o2
  have HN2 := Lib.hid n2
  have HM2 := Lib.hid m2
  clear o1 n1 hsz1 o2 n2 m2
  go_enter Try.func14, Try.ntmps14
  go_wp2_with (fail)
  refine wp_region_held_drew (S := (fun W => ((W.cell? ⟨w.heap.size + 1, 0, none⟩ = some (.int .i64 x.s) ∧ W.cell? ⟨w.heap.size + 1, 1, none⟩ = some (.int .i64 x.w)) ∧ (W.cell? ⟨w.heap.size + 1, 2, none⟩ = some (.int .i64 x.g) ∧ W.cell? ⟨w.heap.size + 1, 3, none⟩ = some (.int .i64 G.c))) ∧ ((W.cell? ⟨w.heap.size + 1, 4, none⟩ = some (.int .i64 G.l) ∧ W.cell? ⟨w.heap.size + 1, 5, none⟩ = some (.int .i64 G.b)) ∧ (W.cell? ⟨w.heap.size + 1, 6, none⟩ = some (.int .i64 G.p) ∧ W.cell? ⟨w.heap.size + 1, 7, none⟩ = some (.int .i64 G.s))))) (by kernel_rfl) ?_ (fun hHeld => ?_)
  · exact ⟨⟨⟨HM2.out.cell 0, HM2.out.cell 1⟩, HM2.out.cell 2, HM2.out.cell 3⟩, ⟨HM2.out.cell 4, HM2.out.cell 5⟩, HM2.out.cell 6, HM2.out.cell 7⟩
  refine wpAnyH_take (i := 0) (oi := { dst := some 26, op := Op.fieldAddr 62 (Operand.tmp 6) 0, type := 0, pos := "lines.go:157", after := #[], guard := none }) (v := ?_) rfl (by kernel_rfl) (by kernel_rfl) (by kernel_rfl) (fun _ _ _ h => h) (Or.inl ⟨by rfl, ?_⟩) (by assumption) ?_
  rotate_left
  · (intro w hSw; (try dsimp only at hSw); (try obtain ⟨hSa, hSb⟩ := hSw); go_simp; try with_reducible rfl)
  try simp only [Act.put, List.setIfInBounds_toArray, List.set_cons_zero, List.set_cons_succ]
  refine wpAnyH_take (i := 1) (oi := { dst := some 27, op := Op.load 3 (Operand.tmp 26), type := 3, pos := "lines.go:157", after := #[{ on := 0, ground := Ground.data }], guard := none }) (v := ?_) rfl (by kernel_rfl) (by kernel_rfl) (by kernel_rfl) (fun _ _ _ h => h) (Or.inl ⟨by rfl, ?_⟩) (by assumption) ?_
  rotate_left
  · (intro w hSw; (try dsimp only at hSw); (try obtain ⟨hSa, hSb⟩ := hSw); go_simp; try with_reducible rfl)
  try simp only [Act.put, List.setIfInBounds_toArray, List.set_cons_zero, List.set_cons_succ]
  refine wpAnyH_take (i := 2) (oi := { dst := some 28, op := Op.fieldAddr 62 (Operand.tmp 6) 1, type := 0, pos := "lines.go:157", after := #[], guard := none }) (v := ?_) rfl (by kernel_rfl) (by kernel_rfl) (by kernel_rfl) (fun _ _ _ h => h) (Or.inl ⟨by rfl, ?_⟩) (by assumption) ?_
  rotate_left
  · (intro w hSw; (try dsimp only at hSw); (try obtain ⟨hSa, hSb⟩ := hSw); go_simp; try with_reducible rfl)
  try simp only [Act.put, List.setIfInBounds_toArray, List.set_cons_zero, List.set_cons_succ]
  refine wpAnyH_take (i := 3) (oi := { dst := some 29, op := Op.load 3 (Operand.tmp 28), type := 3, pos := "lines.go:157", after := #[{ on := 2, ground := Ground.data }], guard := none }) (v := ?_) rfl (by kernel_rfl) (by kernel_rfl) (by kernel_rfl) (fun _ _ _ h => h) (Or.inl ⟨by rfl, ?_⟩) (by assumption) ?_
  rotate_left
  · (intro w hSw; (try dsimp only at hSw); (try obtain ⟨hSa, hSb⟩ := hSw); go_simp; try with_reducible rfl)
  try simp only [Act.put, List.setIfInBounds_toArray, List.set_cons_zero, List.set_cons_succ]
  refine wpAnyH_take (i := 4) (oi := { dst := some 30, op := Op.fieldAddr 62 (Operand.tmp 6) 2, type := 0, pos := "lines.go:157", after := #[], guard := none }) (v := ?_) rfl (by kernel_rfl) (by kernel_rfl) (by kernel_rfl) (fun _ _ _ h => h) (Or.inl ⟨by rfl, ?_⟩) (by assumption) ?_
  rotate_left
  · (intro w hSw; (try dsimp only at hSw); (try obtain ⟨hSa, hSb⟩ := hSw); go_simp; try with_reducible rfl)
  try simp only [Act.put, List.setIfInBounds_toArray, List.set_cons_zero, List.set_cons_succ]
  refine wpAnyH_take (i := 5) (oi := { dst := some 31, op := Op.load 3 (Operand.tmp 30), type := 3, pos := "lines.go:157", after := #[{ on := 4, ground := Ground.data }], guard := none }) (v := ?_) rfl (by kernel_rfl) (by kernel_rfl) (by kernel_rfl) (fun _ _ _ h => h) (Or.inl ⟨by rfl, ?_⟩) (by assumption) ?_
  rotate_left
  · (intro w hSw; (try dsimp only at hSw); (try obtain ⟨hSa, hSb⟩ := hSw); go_simp; try with_reducible rfl)
  try simp only [Act.put, List.setIfInBounds_toArray, List.set_cons_zero, List.set_cons_succ]
  refine wpAnyH_take (i := 6) (oi := { dst := some 32, op := Op.load 62 (Operand.tmp 6), type := 62, pos := "lines.go:157", after := #[], guard := none }) (v := ?_) rfl (by kernel_rfl) (by kernel_rfl) (by kernel_rfl) (fun _ _ _ h => h) (Or.inl ⟨by rfl, ?_⟩) (by assumption) ?_
  rotate_left
  · (intro w hSw; (try dsimp only at hSw); (try obtain ⟨hSa, hSb⟩ := hSw); go_simp; try with_reducible rfl)
  try simp only [Act.put, List.setIfInBounds_toArray, List.set_cons_zero, List.set_cons_succ]
  refine wpAnyH_ready (rs := [7]) (by kernel_rfl) (by simp) ?_
  refine AllReadyH.cons (o := { dst := some 33, op := Op.call { callee := Callee.value (Operand.func 34), args := #[Operand.tmp 32], argTypes := #[62] }, type := 3, pos := "lines.go:157", after := #[{ on := 6, ground := Ground.data }], guard := none }) rfl (fun K hK => ?_) AllReadyH.nil
  go_simp
  (refine (HR.out _).mono ?_; rintro e wx ⟨rfl, hO3⟩; have HO3 := Lib.hid (HO2.out.drew.trans hO3); have HN3 := Lib.hid (HN2.out.drew.only hO3 id); have HM3 := Lib.hid (HM2.out.drew.only hO3 id); clear hO3; have z0 := HN3.out.cell 0; have z1 := HN3.out.cell 1; have z2 := HN3.out.cell 2; have z3 := HN3.out.cell 3; have z4 := HN3.out.cell 4; simp only [List.getElem?_toArray, List.getElem?_cons_zero, List.getElem?_cons_succ] at z0 z1 z2 z3 z4; have y0 := HN3.out.frozen 0; have y1 := HN3.out.frozen 1; have y2 := HN3.out.frozen 2; have y3 := HN3.out.frozen 3; have y4 := HN3.out.frozen 4; try simp only [])
  refine hK.out _ _ ?_ (fun hHeld => ?_)
  · exact ⟨⟨⟨HM3.out.cell 0, HM3.out.cell 1⟩, HM3.out.cell 2, HM3.out.cell 3⟩, ⟨HM3.out.cell 4, HM3.out.cell 5⟩, HM3.out.cell 6, HM3.out.cell 7⟩
  clear hK K
  try simp only [Act.put, List.setIfInBounds_toArray, List.set_cons_zero, List.set_cons_succ]
  refine wpAnyH_take (i := 8) (oi := { dst := some 34, op := Op.build 43 #[(0, Operand.tmp 27), (1, Operand.tmp 29), (2, Operand.tmp 31), (4, Operand.tmp 33)], type := 43, pos := "lines.go:157", after := #[{ on := 1, ground := Ground.data }, { on := 3, ground := Ground.data }, { on := 5, ground := Ground.data }, { on := 7, ground := Ground.data }], guard := none }) (v := ?_) rfl (by kernel_rfl) (by kernel_rfl) (by kernel_rfl) (fun _ _ _ h => h) (Or.inl ⟨by rfl, ?_⟩) (by assumption) ?_
  rotate_left
  · (intro w hSw; (try dsimp only at hSw); (try obtain ⟨hSa, hSb⟩ := hSw); go_simp; try with_reducible rfl)
  try simp only [Act.put, List.setIfInBounds_toArray, List.set_cons_zero, List.set_cons_succ]
  refine wpAnyH_ready (rs := [9]) (by kernel_rfl) (by simp) ?_
  refine AllReadyH.cons (o := { dst := none, op := Op.store 43 (Operand.tmp 4) (Operand.tmp 34), type := 0, pos := "lines.go:157", after := #[{ on := 8, ground := Ground.data }, { on := 7, ground := Ground.chain }, { on := 0, ground := Ground.phase }, { on := 1, ground := Ground.phase }, { on := 2, ground := Ground.phase }, { on := 3, ground := Ground.phase }, { on := 4, ground := Ground.phase }, { on := 5, ground := Ground.phase }, { on := 6, ground := Ground.phase }, { on := 7, ground := Ground.phase }, { on := 8, ground := Ground.phase }], guard := none }) rfl (fun K hK => ?_) AllReadyH.nil
  go_simp
  skip
  refine hK.out _ _ ?_ (fun hHeld => ?_)
  · have hm3 := HM3.out.only (only_line wx w.heap.size (.int .i64 x.s) (.int .i64 x.w) (.int .i64 x.g) (.int .i64 0) (.int .i64 (rm G x.g))) (by omega); exact ⟨⟨⟨hm3.cell 0, hm3.cell 1⟩, hm3.cell 2, hm3.cell 3⟩, ⟨hm3.cell 4, hm3.cell 5⟩, hm3.cell 6, hm3.cell 7⟩
  clear hK K
  try simp only [Act.put, List.setIfInBounds_toArray, List.set_cons_zero, List.set_cons_succ]
  refine wpAnyH_take (i := 10) (oi := { dst := some 5, op := Op.assign (Operand.const (Value.int IntKind.i64 0)), type := 27, pos := "lines.go:157", after := #[{ on := 9, ground := Ground.chain }, { on := 0, ground := Ground.phase }, { on := 1, ground := Ground.phase }, { on := 2, ground := Ground.phase }, { on := 3, ground := Ground.phase }, { on := 4, ground := Ground.phase }, { on := 5, ground := Ground.phase }, { on := 6, ground := Ground.phase }, { on := 7, ground := Ground.phase }, { on := 8, ground := Ground.phase }, { on := 9, ground := Ground.phase }], guard := none }) (v := ?_) rfl (by kernel_rfl) (by kernel_rfl) (by kernel_rfl) (fun _ _ _ h => h) (Or.inl ⟨by rfl, ?_⟩) (by assumption) ?_
  rotate_left
  · (intro w hSw; (try dsimp only at hSw); (try obtain ⟨hSa, hSb⟩ := hSw); go_simp; try with_reducible rfl)
  try simp only [Act.put, List.setIfInBounds_toArray, List.set_cons_zero, List.set_cons_succ]
  refine wpAnyH_done (by kernel_rfl) ?_ _
  go_wp2
  refine bodyPost_ret (v := .tuple #[lnV G x, .int .i64 0]) (results_row_tmp (p := 4) (u := 5) (ty := 43) rfl _ _ w.heap.size 43 #[.int .i64 x.s, .int .i64 x.w, .int .i64 x.g, .int .i64 0, .int .i64 (rm G x.g)] (0, 0) _ rfl (((((HN3.out.set 0 _).set 1 _).set 2 _).set 3 _).set 4 _) Try.underlying43 rfl rfl) rfl ?_
  exact ⟨by rw [HE.out.1, HE.out.2]; rfl, HO3.out.trans' (only_line _ _ _ _ _ _ _) (fun i hi e => by omega)⟩
end Go.Proofs.Ytlenjgofiocaaaa
