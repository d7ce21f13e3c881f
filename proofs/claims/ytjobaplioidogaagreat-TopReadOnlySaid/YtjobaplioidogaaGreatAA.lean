/- Top: a disk in memory; Open over a device that holds nothing. -/
import Derived.Test.YtjobaplioidogaaGreatZ
namespace Go.Proofs.YtjobaplioidogaaGreat
open Go.RowKit

/-- A disk that has just been made. -/
noncomputable def dCells (d : Nat) (G : Ge) (s : Sg) (mb lb : Nat) (sp : Int) (ob : Nat) : Array Value := ((((((((((((Tryz.zeroCells81.setIfInBounds 0 (.pointer (some ⟨d, 0, none⟩))).setIfInBounds 1 (.int .i64 G.c)).setIfInBounds 2 (.int .i64 G.l)).setIfInBounds 3 (.int .i64 G.b)).setIfInBounds 4 (.int .i64 G.p)).setIfInBounds 5 (.int .i64 G.s)).setIfInBounds 6 (.int .i64 s.n)).setIfInBounds 7 (.int .i64 s.r)).setIfInBounds 8 (.pointer (some ⟨mb, 0, none⟩))).setIfInBounds 9 (.pointer (some ⟨lb, 0, none⟩))).setIfInBounds 130 (.int .i64 sp)).setIfInBounds 136 (.map (some ob)))
/-- What a disk's cells say. -/
structure DOk (cs : Array Value) (G : Ge) (s : Sg) (mb lb rb sb : Nat) : Prop where
  sz : cs.size = 139
  g1 : cs[1]? = some (.int .i64 G.c)
  g2 : cs[2]? = some (.int .i64 G.l)
  g3 : cs[3]? = some (.int .i64 G.b)
  g4 : cs[4]? = some (.int .i64 G.p)
  g5 : cs[5]? = some (.int .i64 G.s)
  n : cs[6]? = some (.int .i64 s.n)
  m : cs[8]? = some (.pointer (some ⟨mb, 0, none⟩))
  l : cs[9]? = some (.pointer (some ⟨lb, 0, none⟩))
  rg : cs[10]? = some (.pointer (some ⟨rb, 0, none⟩))
  st : cs[129]? = some (.map (some sb))
  sp : cs[130]? = some (.int .i64 0)
  off : cs[131]? = some (.bool false)
  cl : cs[132]? = some (.bool false)
  pe : cs[135]? = some (.slice none 0 0)
theorem set_get (cs : Array Value) (i : Nat) (v : Value) (j : Nat) (h : i ≠ j) : (cs.setIfInBounds i v)[j]? = cs[j]? := by
  rw [Array.getElem?_setIfInBounds, if_neg h]
theorem DOk.set {cs : Array Value} {G : Ge} {s : Sg} {mb lb rb sb : Nat} (k : DOk cs G s mb lb rb sb) (i : Nat) (v : Value) (h : 12 ≤ i ∧ i ≤ 128) : DOk (cs.setIfInBounds i v) G s mb lb rb sb := by
  refine ⟨by simpa using k.sz, ?_, ?_, ?_, ?_, ?_, ?_, ?_, ?_, ?_, ?_, ?_, ?_, ?_, ?_⟩
  · rw [set_get _ _ _ _ (by omega)]; exact k.g1
  · rw [set_get _ _ _ _ (by omega)]; exact k.g2
  · rw [set_get _ _ _ _ (by omega)]; exact k.g3
  · rw [set_get _ _ _ _ (by omega)]; exact k.g4
  · rw [set_get _ _ _ _ (by omega)]; exact k.g5
  · rw [set_get _ _ _ _ (by omega)]; exact k.n
  · rw [set_get _ _ _ _ (by omega)]; exact k.m
  · rw [set_get _ _ _ _ (by omega)]; exact k.l
  · rw [set_get _ _ _ _ (by omega)]; exact k.rg
  · rw [set_get _ _ _ _ (by omega)]; exact k.st
  · rw [set_get _ _ _ _ (by omega)]; exact k.sp
  · rw [set_get _ _ _ _ (by omega)]; exact k.off
  · rw [set_get _ _ _ _ (by omega)]; exact k.cl
  · rw [set_get _ _ _ _ (by omega)]; exact k.pe
set_option maxRecDepth 100000 in
theorem dCells_size (d : Nat) (G : Ge) (s : Sg) (mb lb : Nat) (sp : Int) (ob : Nat) : (dCells d G s mb lb sp ob).size = 139 := by
  simp only [dCells, Array.size_setIfInBounds]
  kernel_rfl
theorem getElem_some {cs : Array Value} {n : Nat} (h : cs.size = n) (i : Nat) (hi : i < n) : ∃ v, cs[i]? = some v := ⟨cs[i], Array.getElem?_eq_getElem (by omega)⟩
/-- Nobody of three threads calls. -/
def Idle (cs : Array Value) : Prop := cs[42]? = some (.bool false) ∧ cs[55]? = some (.bool false) ∧ cs[68]? = some (.bool false)

/-- A map in memory is changed. -/
def wm (W : World) (b : Nat) (o : Obj) : World := { W with heap := W.heap.setIfInBounds b o }
theorem wm_at {W : World} {b : Nat} {o o' : Obj} (h : W.heap[b]? = some o') : (wm W b o).heap[b]? = some o := by
  have := (Array.getElem?_eq_some_iff.1 h).1
  simp [wm, this]
theorem wm_only (W : World) (b : Nat) (o : Obj) : Only (fun i => i = b) W (wm W b o) :=
  ⟨rfl, rfl, rfl, by simp [wm], fun k _ hk => by
    show (W.heap.setIfInBounds b o)[k]? = _
    rw [Array.getElem?_setIfInBounds, if_neg (fun h => hk h.symm)]⟩
theorem ins_any {W : World} {b ck : Nat} {es : Array MapEntry} {z : Int} {v : Value} (hb : W.heap[b]? = some (.map es ck)) (hf : Instr.findNow (.int .i64) (.int .i64 z) es.toList 0 = some none) :
    (Instr.mapUpdate 76 (.map (some b)) (.int .i64 z) v).run Tryz.prog W = .ok () (wm W b (.map (es.push ⟨.int .i64 z, v, ck⟩) (ck + 1))) := by
  have h1 := MapKept.run_findKey (P := Tryz.prog) (w := W) (kt := 3) Tryz.underlying3 hf
  have h2 : Tryz.prog.underlying 76 = some (.map 3 87) := Tryz.underlying76
  simp only [Instr.mapUpdate, run_underlying h2, MapKept.run_getObj_map hb, check_int Tryz.underlying3, h1, Sem.run_bind, Result.andThen]
  show (setObj b _).run Tryz.prog W = _
  simp only [setObj, Sem.run, hb, wm]

/-- What is done at a step, by what is called. -/
def stepE (k : Nat) : Array MapEntry := (#[⟨.int .i64 1, .func (.func 66) #[] #[], 0⟩, ⟨.int .i64 2, .func (.func 67) #[] #[], 1⟩, ⟨.int .i64 3, .func (.func 67) #[] #[], 2⟩, ⟨.int .i64 4, .func (.func 68) #[] #[], 3⟩, ⟨.int .i64 5, .func (.func 68) #[] #[], 4⟩] : Array MapEntry).extract 0 k
theorem ins_step {W : World} {b : Nat} (k : Nat) {z : Int} {v : Value} (hb : W.heap[b]? = some (.map (stepE k) k)) (hf : Instr.findNow (.int .i64) (.int .i64 z) (stepE k).toList 0 = some none) (hp : (stepE k).push ⟨.int .i64 z, v, k⟩ = stepE (k + 1)) :
    (Instr.mapUpdate 76 (.map (some b)) (.int .i64 z) v).run Tryz.prog W = .ok () (wm W b (.map (stepE (k + 1)) (k + 1))) := by
  rw [ins_any hb hf, hp]
theorem dOk_al {g : Ge} {s : Sg} (h : dOk g s = true) : s.n ≤ g.al := by
  obtain ⟨hI, h1, _, h2, _, h3, h4⟩ := dOk_all h
  have hs := hI.s
  have hb := hI.b
  have hu := hI.up
  have e1 : g.fl = (g.up - 1) * g.s := rfl
  have e2 : g.al = (g.up * g.s) * g.b := rfl
  have e3 : (g.up - 1) * g.s = g.up * g.s - g.s := by rw [Int.sub_mul, Int.one_mul]
  generalize g.up * g.s = q at *
  have hq : 0 ≤ q := by omega
  have e4 : (g.b - 5) * (g.fl - 2 * g.s) ≤ g.b * q := by
    by_cases hb5 : g.b ≤ 5
    · have : (g.b - 5) * (g.fl - 2 * g.s) ≤ 0 := Int.mul_nonpos_of_nonpos_of_nonneg (by omega) (by omega)
      have : 0 ≤ g.b * q := Int.mul_nonneg (by omega) hq
      omega
    · exact Int.mul_le_mul (by omega) (by omega) (by omega) (by omega)
  rw [Int.mul_comm] at e2
  omega

theorem KAt.far {w w' : World} {kb : Nat} {T e : TypeId} {sz lo : Nat} {sh : Nat → Sh} {xs : Nat → List Value} (k : KAt w kb T e sz sh xs lo) {x : Nat} {T' : TypeId} {cs : Array Value} (hx : At w x T' cs) (h1 : e ≠ T') (h2 : T ≠ T') (o : Only (fun i => i = x) w w') : KAt w' kb T e sz sh xs lo :=
  ⟨k.st.only o (k.st.ne hx h2), fun s hs => (k.row s hs).only o (fun hA => (k.row s hs).neAt hx hA h1), k.ne, k.ge⟩
/-- A store into the disk changes nothing of the map, or of the lines. -/
theorem MAt.far' {w w' : World} {mb kt kw vb n lo db : Nat} {G : Ge} {st sw : Nat → Sh} {E : Nat → En} {F : Nat → Int} {vs : List Int} {cs : Array Value} (k : MAt w mb kt kw vb G n st sw E F vs lo) (hx : At w db 81 cs) (o : Only (fun i => i = db) w w') : MAt w' mb kt kw vb G n st sw E F vs lo :=
  ⟨k.hd.only o (k.hd.ne hx (by decide)), k.tt.far hx (by decide) (by decide) o, k.who.far hx (by decide) (by decide) o, k.val.only o (k.val.ne hx (by decide)), k.is, k.len, k.nt, k.nw, k.ge⟩
theorem LAt.far' {w w' : World} {b off c gb db : Nat} {op : Int} {G : Ge} {l : List Ln} {cs : Array Value} (k : LAt w b G l off c gb op) (hx : At w db 81 cs) (o : Only (fun i => i = db) w w') : LAt w' b G l off c gb op :=
  k.only o (k.st.ne hx (by decide)) (k.row.neAt hx (by simp) (by decide))
theorem set_self (cs : Array Value) (i : Nat) (v : Value) (h : i < cs.size) : (cs.setIfInBounds i v)[i]? = some v := by
  simp [h]
set_option maxRecDepth 100000 in
theorem zero81 : Tryz.zeroCells81.size = 139 ∧ Tryz.zeroCells81[131]? = some (.bool false) ∧ Tryz.zeroCells81[132]? = some (.bool false) ∧ Tryz.zeroCells81[135]? = some (.slice none 0 0) ∧ Tryz.zeroCells81[42]? = some (.bool false) ∧ Tryz.zeroCells81[55]? = some (.bool false) ∧ Tryz.zeroCells81[68]? = some (.bool false) := by
  refine ⟨?_, ?_, ?_, ?_, ?_, ?_, ?_⟩ <;> kernel_rfl
set_option maxHeartbeats 4000000 in
theorem dCells_ok (d : Nat) (G : Ge) (s : Sg) (mb lb ob : Nat) : (∀ rb qb sb v, DOk (((((dCells d G s mb lb 0 ob).setIfInBounds 10 (.pointer (some ⟨rb, 0, none⟩))).setIfInBounds 11 qb).setIfInBounds 137 v).setIfInBounds 129 (.map (some sb))) G s mb lb rb sb ∧
    Idle (((((dCells d G s mb lb 0 ob).setIfInBounds 10 (.pointer (some ⟨rb, 0, none⟩))).setIfInBounds 11 qb).setIfInBounds 137 v).setIfInBounds 129 (.map (some sb)))) ∧ (dCells d G s mb lb 0 ob)[1]? = some (.int .i64 G.c) := by
  obtain ⟨z, z1, z2, z3, z4, z5, z6⟩ := zero81
  unfold dCells
  generalize Tryz.zeroCells81 = Z at *
  refine ⟨fun rb qb sb v => ⟨⟨by simp only [Array.size_setIfInBounds]; exact z, ?_, ?_, ?_, ?_, ?_, ?_, ?_, ?_, ?_, ?_, ?_, ?_, ?_, ?_⟩, ?_, ?_, ?_⟩, ?_⟩
  all_goals
    repeat rw [set_get _ _ _ _ (by decide)]
    first
      | (rw [set_self _ _ _ (by simp only [Array.size_setIfInBounds]; omega)])
      | exact z1
      | exact z2
      | exact z3
      | exact z4
      | exact z5
      | exact z6

/-- A disk that is at rest: its parts. -/
structure DAt (w : World) (db : Nat) (G : Ge) (s : Sg) (l : List Ln) (cs : Array Value) (mb kt kw vb : Nat) (st sw : Nat → Sh) (lb off c gb rb sb lo : Nat) : Prop where
  at' : At w db 81 cs
  ok : DOk cs G s mb lb rb sb
  map : MAt w mb kt kw vb G s.n.toNat st sw (fun _ => ⟨-1, 0, 0⟩) (fun _ => 0) (List.replicate G.b.toNat 0) lo
  lns : LAt w lb G l off c gb (-1)
  ring : RgAt w rb
  stp : w.heap[sb]? = some (.map (stepE 5) 5)

def OpenP (G : Ge) (l : List Bk) (s : Sg) (w : World) (e : Ending) (w' : World) : Prop :=
  ∃ db cs mb kt kw vb st sw lb off c gb rb sb, e = .returned (.tuple #[.pointer (some ⟨db, 0, none⟩), .int .i64 0]) ∧
    DAt w' db G s (mountL G l) cs mb kt kw vb st sw lb off c gb rb sb w.heap.size ∧ Idle cs ∧ w.heap.size ≤ db ∧ Only (fun _ => False) w w'

set_option maxRecDepth 100000 in
set_option maxHeartbeats 16000000 in
theorem open_none (d gb mp pp : Nat) (G : Ge) (l : List Bk) (ck : Nat) (s : Sg) (h : dOk G s = true) (w : World) (k : NAt w d gb mp pp G l #[] ck) :
    Calls Tryz.prog 24 #[.pointer (some ⟨d, 0, none⟩), s.val] w (OpenP G l s w) := by
  obtain ⟨hI, h1, h2, h3, h4, h5, h6⟩ := dOk_all h
  have hal := dOk_al h
  have hs4 := hI.s
  have hc4 := hI.c
  have HGE := Lib.hid (fun W (o : Only (fun _ => False) w W) => geometry_any d gb mp pp G l #[] ck W (k.quiet o))
  have HDR := Lib.hid (fun W => disk_ok G s h W)
  have HMO := Lib.hid (fun W (o : Only (fun _ => False) w W) => mount_none d gb mp pp G l ck s.n.toNat (by omega) (by omega) W (k.quiet o))
  have HRN := Lib.hid (fun W => ringNew_any s.r.toNat (by omega) W)
  have HQN := Lib.hid (fun W => queueNew_any G.c.toNat (by omega) W)
  rw [Int.toNat_of_nonneg (by omega)] at HMO HRN HQN
  have HB0 := Lib.hid (At.new w 25 #[.int .i64 s.n, .int .i64 s.r])
  have HO0 := Lib.hid ((Only.refl (fun _ => False) w).alloc (.cells #[.int .i64 s.n, .int .i64 s.r] 25))
  clear h k hI h1 h2 h3 h4 h5 h6 hal hs4 hc4
  unfold OpenP
  unfold MountP at HMO
  unfold Ge.val Sg.val at *
  obtain ⟨sn, sr⟩ := s
  simp only at *
  go_enter Tryz.func24, Tryz.ntmps24
  go_upto_region 1 with (fail)
  have HOs := Lib.hid (HO0.out.trans (Only.refl (fun _ => False) _).drew)
  have HBs := Lib.hid HB0.out.drew
  clear HO0 HB0
  refine wp_region_held_drew (S := (fun W => W.cell? ⟨w.heap.size, 0, none⟩ = some (.int .i64 sn) ∧ W.cell? ⟨w.heap.size, 1, none⟩ = some (.int .i64 sr))) (by kernel_rfl) ?_ (fun hHeld => ?_)
  · exact ⟨HBs.out.cell 0, HBs.out.cell 1⟩
  refine wpAnyH_take (i := 0) (oi := { dst := some 11, op := Op.move (Operand.tmp 0), type := 33, pos := "disk.go:61", after := #[], guard := none }) (v := ?_) rfl (by kernel_rfl) (by kernel_rfl) (by kernel_rfl) (fun _ _ _ h => h) (Or.inl ⟨by rfl, ?_⟩) (by assumption) ?_
  rotate_left
  · (intro w hSw; (try dsimp only at hSw); (try obtain ⟨hSa, hSb⟩ := hSw); go_simp; try with_reducible rfl)
  try simp only [Act.put, List.setIfInBounds_toArray, List.set_cons_zero, List.set_cons_succ]
  refine wpAnyH_take (i := 1) (oi := { dst := some 12, op := Op.binOp BinOp.eql 33 (Operand.tmp 11) (Operand.const (Value.pointer none)) 33, type := 4, pos := "disk.go:61", after := #[{ on := 0, ground := Ground.data }], guard := none }) (v := ?_) rfl (by kernel_rfl) (by kernel_rfl) (by kernel_rfl) (fun _ _ _ h => h) (Or.inl ⟨by rfl, ?_⟩) (by assumption) ?_
  rotate_left
  · (intro w hSw; (try dsimp only at hSw); (try obtain ⟨hSa, hSb⟩ := hSw); go_simp; try with_reducible rfl)
  try simp only [Act.put, List.setIfInBounds_toArray, List.set_cons_zero, List.set_cons_succ]
  refine wpAnyH_take (i := 2) (oi := { dst := some 13, op := Op.move (Operand.tmp 12), type := 4, pos := "disk.go:61", after := #[{ on := 1, ground := Ground.data }], guard := none }) (v := ?_) rfl (by kernel_rfl) (by kernel_rfl) (by kernel_rfl) (fun _ _ _ h => h) (Or.inl ⟨by rfl, ?_⟩) (by assumption) ?_
  rotate_left
  · (intro w hSw; (try dsimp only at hSw); (try obtain ⟨hSa, hSb⟩ := hSw); go_simp; try with_reducible rfl)
  try simp only [Act.put, List.setIfInBounds_toArray, List.set_cons_zero, List.set_cons_succ]
  refine wpAnyH_take (i := 3) (oi := { dst := some 14, op := Op.move (Operand.tmp 0), type := 33, pos := "disk.go:61", after := #[{ on := 2, ground := Ground.guard }], guard := some (2, false) }) (v := ?_) rfl (by kernel_rfl) (by kernel_rfl) (by kernel_rfl) (fun _ _ _ h => h) (Or.inl ⟨by rfl, ?_⟩) (by assumption) ?_
  rotate_left
  · (intro w hSw; (try dsimp only at hSw); (try obtain ⟨hSa, hSb⟩ := hSw); go_simp; try with_reducible rfl)
  try simp only [Act.put, List.setIfInBounds_toArray, List.set_cons_zero, List.set_cons_succ]
  refine wpAnyH_take (i := 5) (oi := { dst := some 16, op := Op.load 25 (Operand.tmp 3), type := 25, pos := "disk.go:61", after := #[{ on := 2, ground := Ground.guard }], guard := some (2, false) }) (v := ?_) rfl (by kernel_rfl) (by kernel_rfl) (by kernel_rfl) (fun _ _ _ h => h) (Or.inl ⟨by rfl, ?_⟩) (by assumption) ?_
  rotate_left
  · (intro w hSw; (try dsimp only at hSw); (try obtain ⟨hSa, hSb⟩ := hSw); go_simp; try with_reducible rfl)
  try simp only [Act.put, List.setIfInBounds_toArray, List.set_cons_zero, List.set_cons_succ]
  refine wpAnyH_ready (rs := [4]) (by kernel_rfl) (by simp) ?_
  refine AllReadyH.cons (o := { dst := some 15, op := Op.call { callee := Callee.value (Operand.func 51), args := #[Operand.tmp 14], argTypes := #[33] }, type := 23, pos := "disk.go:61", after := #[{ on := 3, ground := Ground.data }, { on := 2, ground := Ground.chain }, { on := 2, ground := Ground.guard }], guard := some (2, false) }) rfl (fun K hK => ?_) AllReadyH.nil
  go_simp
  refine (HGE.out _ HOs.out).mono ?_
  rintro e ww_1 ⟨rfl, hO⟩
  have HB_1 := Lib.hid (HBs.out.only hO id)
  have HO_1 := Lib.hid (HOs.out.trans hO)
  try clear hO
  try simp only []
  refine hK.out _ _ ?_ (fun hHeld => ?_)
  · exact ⟨HB_1.out.cell 0, HB_1.out.cell 1⟩
  clear hK K
  try simp only [Act.put, List.setIfInBounds_toArray, List.set_cons_zero, List.set_cons_succ]
  refine wpAnyH_ready (rs := [6]) (by kernel_rfl) (by simp) ?_
  refine AllReadyH.cons (o := { dst := some 17, op := Op.call { callee := Callee.value (Operand.func 63), args := #[Operand.tmp 15, Operand.tmp 16], argTypes := #[23, 25] }, type := 4, pos := "disk.go:61", after := #[{ on := 4, ground := Ground.data }, { on := 5, ground := Ground.data }, { on := 4, ground := Ground.chain }, { on := 2, ground := Ground.guard }], guard := some (2, false) }) rfl (fun K hK => ?_) AllReadyH.nil
  go_simp
  refine (HDR.out _).mono ?_
  rintro e ww_2 ⟨rfl, hO⟩
  have HB_2 := Lib.hid (HB_1.out.only hO id)
  have HO_2 := Lib.hid (HO_1.out.trans hO)
  try clear hO
  try simp only []
  refine hK.out _ _ ?_ (fun hHeld => ?_)
  · exact ⟨HB_2.out.cell 0, HB_2.out.cell 1⟩
  clear hK K
  try simp only [Act.put, List.setIfInBounds_toArray, List.set_cons_zero, List.set_cons_succ]
  refine wpAnyH_take (i := 7) (oi := { dst := some 18, op := Op.unOp UnOp.not 4 (Operand.tmp 17), type := 4, pos := "disk.go:61", after := #[{ on := 6, ground := Ground.data }, { on := 2, ground := Ground.guard }], guard := some (2, false) }) (v := ?_) rfl (by kernel_rfl) (by kernel_rfl) (by kernel_rfl) (fun _ _ _ h => h) (Or.inl ⟨by rfl, ?_⟩) (by assumption) ?_
  rotate_left
  · (intro w hSw; (try dsimp only at hSw); (try obtain ⟨hSa, hSb⟩ := hSw); go_simp; try with_reducible rfl)
  try simp only [Act.put, List.setIfInBounds_toArray, List.set_cons_zero, List.set_cons_succ]
  refine wpAnyH_take (i := 8) (oi := { dst := some 19, op := Op.pick (Operand.tmp 13) (Operand.const (Value.bool true)) (Operand.tmp 18), type := 4, pos := "disk.go:61", after := #[{ on := 2, ground := Ground.data }, { on := 7, ground := Ground.data }], guard := none }) (v := ?_) rfl (by kernel_rfl) (by kernel_rfl) (by kernel_rfl) (fun _ _ _ h => h) (Or.inl ⟨by rfl, ?_⟩) (by assumption) ?_
  rotate_left
  · (intro w hSw; (try dsimp only at hSw); (try obtain ⟨hSa, hSb⟩ := hSw); go_simp; try with_reducible rfl)
  try simp only [Act.put, List.setIfInBounds_toArray, List.set_cons_zero, List.set_cons_succ]
  refine wpAnyH_done (by kernel_rfl) ?_ _
  have y0 := HB_2.out.cell 0
  simp only [List.getElem?_toArray, List.getElem?_cons_zero, List.getElem?_cons_succ] at y0
  go_wp2_with (fail)
  clear y0
  refine (HMO.out _ HO_2.out).mono ?_
  rintro e w3 ⟨mb, kt, kw, vb, st, sw, lb, off, c, gl, rfl, hm, hl, hb1, hb2, hO⟩
  have HMa := Lib.hid (hm.weak HO_2.out.size)
  have HLa := Lib.hid hl
  have HOa := Lib.hid (HO_2.out.trans hO)
  have HBa := Lib.hid (HB_2.out.only hO id)
  clear hm hl hb1 hb2 hO HO_2 HB_2
  go_upto_region 6 with (fail)
  have HOb := Lib.hid (HOa.out.trans (Only.refl (fun _ => False) _).drew)
  have HBb := Lib.hid HBa.out.drew
  have HMb := Lib.hid (HMa.out.quiet (Only.refl (fun _ => False) _).drew)
  have HLb := Lib.hid (HLa.out.quiet (Only.refl (fun _ => False) _).drew)
  clear HOa HBa HMa HLa
  go_cut [10] (fun v10 wy => ∃ db ob, v10 = .pointer (some ⟨db, 0, none⟩) ∧ At wy db 81 (dCells d G ⟨sn, sr⟩ mb lb 0 ob) ∧ w.heap.size ≤ db ∧ At wy w.heap.size 25 #[.int .i64 sn, .int .i64 sr] ∧ MAt wy mb kt kw vb G sn.toNat st sw (fun _ => ⟨-1, 0, 0⟩) (fun _ => 0) (List.replicate G.b.toNat 0) w.heap.size ∧ LAt wy lb G (mountL G l) off c gl (-1) ∧ Only (fun _ => False) w wy)
  case first =>
    refine wp_region_held_drew (S := (fun W => W.cell? ⟨w.heap.size, 0, none⟩ = some (.int .i64 sn) ∧ W.cell? ⟨w.heap.size, 1, none⟩ = some (.int .i64 sr))) (by kernel_rfl) ?_ (fun hHeld => ?_)
    · exact ⟨HBb.out.cell 0, HBb.out.cell 1⟩
    refine wpAnyH_take (i := 0) (oi := { dst := some 32, op := Op.move (Operand.tmp 0), type := 33, pos := "disk.go:68", after := #[], guard := none }) (v := ?_) rfl (by kernel_rfl) (by kernel_rfl) (by kernel_rfl) (fun _ _ _ h => h) (Or.inl ⟨by rfl, ?_⟩) (by assumption) ?_
    rotate_left
    · (intro w hSw; (try dsimp only at hSw); (try obtain ⟨hSa, hSb⟩ := hSw); go_simp; try with_reducible rfl)
    try simp only [Act.put, List.setIfInBounds_toArray, List.set_cons_zero, List.set_cons_succ]
    refine wpAnyH_take (i := 1) (oi := { dst := some 33, op := Op.move (Operand.tmp 0), type := 33, pos := "disk.go:68", after := #[], guard := none }) (v := ?_) rfl (by kernel_rfl) (by kernel_rfl) (by kernel_rfl) (fun _ _ _ h => h) (Or.inl ⟨by rfl, ?_⟩) (by assumption) ?_
    rotate_left
    · (intro w hSw; (try dsimp only at hSw); (try obtain ⟨hSa, hSb⟩ := hSw); go_simp; try with_reducible rfl)
    try simp only [Act.put, List.setIfInBounds_toArray, List.set_cons_zero, List.set_cons_succ]
    refine wpAnyH_take (i := 3) (oi := { dst := some 35, op := Op.load 25 (Operand.tmp 3), type := 25, pos := "disk.go:68", after := #[], guard := none }) (v := ?_) rfl (by kernel_rfl) (by kernel_rfl) (by kernel_rfl) (fun _ _ _ h => h) (Or.inl ⟨by rfl, ?_⟩) (by assumption) ?_
    rotate_left
    · (intro w hSw; (try dsimp only at hSw); (try obtain ⟨hSa, hSb⟩ := hSw); go_simp; try with_reducible rfl)
    try simp only [Act.put, List.setIfInBounds_toArray, List.set_cons_zero, List.set_cons_succ]
    refine wpAnyH_take (i := 4) (oi := { dst := some 36, op := Op.move (Operand.tmp 6), type := 62, pos := "disk.go:68", after := #[], guard := none }) (v := ?_) rfl (by kernel_rfl) (by kernel_rfl) (by kernel_rfl) (fun _ _ _ h => h) (Or.inl ⟨by rfl, ?_⟩) (by assumption) ?_
    rotate_left
    · (intro w hSw; (try dsimp only at hSw); (try obtain ⟨hSa, hSb⟩ := hSw); go_simp; try with_reducible rfl)
    try simp only [Act.put, List.setIfInBounds_toArray, List.set_cons_zero, List.set_cons_succ]
    refine wpAnyH_take (i := 5) (oi := { dst := some 37, op := Op.move (Operand.tmp 7), type := 63, pos := "disk.go:68", after := #[], guard := none }) (v := ?_) rfl (by kernel_rfl) (by kernel_rfl) (by kernel_rfl) (fun _ _ _ h => h) (Or.inl ⟨by rfl, ?_⟩) (by assumption) ?_
    rotate_left
    · (intro w hSw; (try dsimp only at hSw); (try obtain ⟨hSa, hSb⟩ := hSw); go_simp; try with_reducible rfl)
    try simp only [Act.put, List.setIfInBounds_toArray, List.set_cons_zero, List.set_cons_succ]
    refine wpAnyH_take (i := 6) (oi := { dst := some 38, op := Op.move (Operand.tmp 8), type := 3, pos := "disk.go:68", after := #[], guard := none }) (v := ?_) rfl (by kernel_rfl) (by kernel_rfl) (by kernel_rfl) (fun _ _ _ h => h) (Or.inl ⟨by rfl, ?_⟩) (by assumption) ?_
    rotate_left
    · (intro w hSw; (try dsimp only at hSw); (try obtain ⟨hSa, hSb⟩ := hSw); go_simp; try with_reducible rfl)
    try simp only [Act.put, List.setIfInBounds_toArray, List.set_cons_zero, List.set_cons_succ]
    refine wpAnyH_ready (rs := [2, 7]) (by kernel_rfl) (by simp) ?_
    refine AllReadyH.cons (o := { dst := some 34, op := Op.call { callee := Callee.value (Operand.func 51), args := #[Operand.tmp 33], argTypes := #[33] }, type := 23, pos := "disk.go:68", after := #[{ on := 1, ground := Ground.data }], guard := none }) rfl (fun K hK => ?_) (AllReadyH.cons (o := { dst := some 39, op := Op.makeMap 77 none, type := 77, pos := "disk.go:68", after := #[], guard := none }) rfl (fun K hK => ?_) AllReadyH.nil)
    · skip
      go_simp
      refine (HGE.out _ HOb.out).mono ?_
      rintro e ww_1 ⟨rfl, hO⟩
      have HB_1 := Lib.hid (HBb.out.only hO id)
      have HO_1 := Lib.hid (HOb.out.trans hO)
      have HM_1 := Lib.hid (HMb.out.quiet hO)
      have HL_1 := Lib.hid (HLb.out.quiet hO)
      try clear hO
      try simp only []
      refine hK.out _ _ ?_ (fun hHeld => ?_)
      · exact ⟨HB_1.out.cell 0, HB_1.out.cell 1⟩
      clear hK K
      try simp only [Act.put, List.setIfInBounds_toArray, List.set_cons_zero, List.set_cons_succ]
      refine wpAnyH_ready (rs := [7]) (by kernel_rfl) (by simp) ?_
      refine AllReadyH.cons (o := { dst := some 39, op := Op.makeMap 77 none, type := 77, pos := "disk.go:68", after := #[], guard := none }) rfl (fun K hK => ?_) AllReadyH.nil
      have hmm : ∀ W : World, (Instr.makeMap 77 none).run Tryz.prog W = .ok (.map (some W.heap.size)) (W.alloc (.map #[] 0)) := fun W => rfl
      go_simp
      clear hmm
      have hO := (Only.refl (fun _ => False) ww_1).alloc (.map #[] 0)
      have HB_2 := Lib.hid (HB_1.out.only hO id)
      have HO_2 := Lib.hid (HO_1.out.trans hO)
      have HM_2 := Lib.hid (HM_1.out.quiet hO)
      have HL_2 := Lib.hid (HL_1.out.quiet hO)
      try clear hO
      try simp only []
      refine hK.out _ _ ?_ (fun hHeld => ?_)
      · exact ⟨HB_2.out.cell 0, HB_2.out.cell 1⟩
      clear hK K
      try simp only [Act.put, List.setIfInBounds_toArray, List.set_cons_zero, List.set_cons_succ]
      refine wpAnyH_take (i := 8) (oi := { dst := some 40, op := Op.build 81 #[(0, Operand.tmp 32), (1, Operand.tmp 34), (2, Operand.tmp 35), (3, Operand.tmp 36), (4, Operand.tmp 37), (9, Operand.tmp 38), (15, Operand.tmp 39)], type := 81, pos := "disk.go:68", after := #[{ on := 0, ground := Ground.data }, { on := 2, ground := Ground.data }, { on := 3, ground := Ground.data }, { on := 4, ground := Ground.data }, { on := 5, ground := Ground.data }, { on := 6, ground := Ground.data }, { on := 7, ground := Ground.data }], guard := none }) (v := ?_) rfl (by kernel_rfl) (by kernel_rfl) (by kernel_rfl) (fun _ _ _ h => h) (Or.inl ⟨by rfl, ?_⟩) (by assumption) ?_
      rotate_left
      · (intro w hSw; (try dsimp only at hSw); (try obtain ⟨hSa, hSb⟩ := hSw); go_simp; try with_reducible rfl)
      try simp only [Act.put, List.setIfInBounds_toArray, List.set_cons_zero, List.set_cons_succ]
      refine wpAnyH_ready (rs := [9]) (by kernel_rfl) (by simp) ?_
      refine AllReadyH.cons (o := { dst := some 41, op := Op.box 81 (Operand.tmp 40), type := 34, pos := "disk.go:68", after := #[{ on := 8, ground := Ground.data }], guard := none }) rfl (fun K hK => ?_) AllReadyH.nil
      go_simp
      have hO := (Only.refl (fun _ => False) (ww_1.alloc (.map #[] 0))).alloc (.cells ((((((((((((Tryz.zeroCells81.setIfInBounds 0 (.pointer (some ⟨d, 0, none⟩))).setIfInBounds 1 (.int .i64 G.c)).setIfInBounds 2 (.int .i64 G.l)).setIfInBounds 3 (.int .i64 G.b)).setIfInBounds 4 (.int .i64 G.p)).setIfInBounds 5 (.int .i64 G.s)).setIfInBounds 6 (.int .i64 sn)).setIfInBounds 7 (.int .i64 sr)).setIfInBounds 8 (.pointer (some ⟨mb, 0, none⟩))).setIfInBounds 9 (.pointer (some ⟨lb, 0, none⟩))).setIfInBounds 130 (.int .i64 0)).setIfInBounds 136 (.map (some ww_1.heap.size))) 81)
      have HX_3 : Hid (At ((ww_1.alloc (.map #[] 0)).alloc (.cells ((((((((((((Tryz.zeroCells81.setIfInBounds 0 (.pointer (some ⟨d, 0, none⟩))).setIfInBounds 1 (.int .i64 G.c)).setIfInBounds 2 (.int .i64 G.l)).setIfInBounds 3 (.int .i64 G.b)).setIfInBounds 4 (.int .i64 G.p)).setIfInBounds 5 (.int .i64 G.s)).setIfInBounds 6 (.int .i64 sn)).setIfInBounds 7 (.int .i64 sr)).setIfInBounds 8 (.pointer (some ⟨mb, 0, none⟩))).setIfInBounds 9 (.pointer (some ⟨lb, 0, none⟩))).setIfInBounds 130 (.int .i64 0)).setIfInBounds 136 (.map (some ww_1.heap.size))) 81)) (ww_1.heap.size + 1) 81 ((((((((((((Tryz.zeroCells81.setIfInBounds 0 (.pointer (some ⟨d, 0, none⟩))).setIfInBounds 1 (.int .i64 G.c)).setIfInBounds 2 (.int .i64 G.l)).setIfInBounds 3 (.int .i64 G.b)).setIfInBounds 4 (.int .i64 G.p)).setIfInBounds 5 (.int .i64 G.s)).setIfInBounds 6 (.int .i64 sn)).setIfInBounds 7 (.int .i64 sr)).setIfInBounds 8 (.pointer (some ⟨mb, 0, none⟩))).setIfInBounds 9 (.pointer (some ⟨lb, 0, none⟩))).setIfInBounds 130 (.int .i64 0)).setIfInBounds 136 (.map (some ww_1.heap.size)))) := Lib.hid (At.new' (by first | rfl | simp) 81 _)
      have HB_3 := Lib.hid (HB_2.out.only hO id)
      have HO_3 := Lib.hid (HO_2.out.trans hO)
      have HM_3 := Lib.hid (HM_2.out.quiet hO)
      have HL_3 := Lib.hid (HL_2.out.quiet hO)
      try clear hO
      try simp only []
      refine hK.out _ _ ?_ (fun hHeld => ?_)
      · exact ⟨HB_3.out.cell 0, HB_3.out.cell 1⟩
      clear hK K
      try simp only [Act.put, List.setIfInBounds_toArray, List.set_cons_zero, List.set_cons_succ]
      refine wpAnyH_take (i := 10) (oi := { dst := some 10, op := Op.assign (Operand.tmp 41), type := 34, pos := "disk.go:68", after := #[{ on := 9, ground := Ground.data }, { on := 2, ground := Ground.chain }, { on := 0, ground := Ground.phase }, { on := 1, ground := Ground.phase }, { on := 2, ground := Ground.phase }, { on := 3, ground := Ground.phase }, { on := 4, ground := Ground.phase }, { on := 5, ground := Ground.phase }, { on := 6, ground := Ground.phase }, { on := 7, ground := Ground.phase }, { on := 8, ground := Ground.phase }, { on := 9, ground := Ground.phase }], guard := none }) (v := ?_) rfl (by kernel_rfl) (by kernel_rfl) (by kernel_rfl) (fun _ _ _ h => h) (Or.inl ⟨by rfl, ?_⟩) (by assumption) ?_
      rotate_left
      · (intro w hSw; (try dsimp only at hSw); (try obtain ⟨hSa, hSb⟩ := hSw); go_simp; try with_reducible rfl)
      try simp only [Act.put, List.setIfInBounds_toArray, List.set_cons_zero, List.set_cons_succ]
      refine wpAnyH_done (by kernel_rfl) ?_ _
      have HXz := HX_3
      have HOz := HO_3
      have HBz := HB_3
      have HMz := HM_3
      have HLz := HL_3
      go_wp2_with (fail)
      go_meet
      exact ⟨ww_1.heap.size + 1, ww_1.heap.size, rfl, HXz.out, by have h := HO_2.out.size; first | exact h | (simp at h; omega), HBz.out, HMz.out, HLz.out, HOz.out⟩
    · skip
      have hmm : ∀ W : World, (Instr.makeMap 77 none).run Tryz.prog W = .ok (.map (some W.heap.size)) (W.alloc (.map #[] 0)) := fun W => rfl
      go_simp
      clear hmm
      have hO := (Only.refl (fun _ => False) w3.drew).alloc (.map #[] 0)
      have HB_4 := Lib.hid (HBb.out.only hO id)
      have HO_4 := Lib.hid (HOb.out.trans hO)
      have HM_4 := Lib.hid (HMb.out.quiet hO)
      have HL_4 := Lib.hid (HLb.out.quiet hO)
      try clear hO
      try simp only []
      refine hK.out _ _ ?_ (fun hHeld => ?_)
      · exact ⟨HB_4.out.cell 0, HB_4.out.cell 1⟩
      clear hK K
      try simp only [Act.put, List.setIfInBounds_toArray, List.set_cons_zero, List.set_cons_succ]
      refine wpAnyH_ready (rs := [2]) (by kernel_rfl) (by simp) ?_
      refine AllReadyH.cons (o := { dst := some 34, op := Op.call { callee := Callee.value (Operand.func 51), args := #[Operand.tmp 33], argTypes := #[33] }, type := 23, pos := "disk.go:68", after := #[{ on := 1, ground := Ground.data }], guard := none }) rfl (fun K hK => ?_) AllReadyH.nil
      go_simp
      refine (HGE.out _ HO_4.out).mono ?_
      rintro e ww_5 ⟨rfl, hO⟩
      have HB_5 := Lib.hid (HB_4.out.only hO id)
      have HO_5 := Lib.hid (HO_4.out.trans hO)
      have HM_5 := Lib.hid (HM_4.out.quiet hO)
      have HL_5 := Lib.hid (HL_4.out.quiet hO)
      try clear hO
      try simp only []
      refine hK.out _ _ ?_ (fun hHeld => ?_)
      · exact ⟨HB_5.out.cell 0, HB_5.out.cell 1⟩
      clear hK K
      try simp only [Act.put, List.setIfInBounds_toArray, List.set_cons_zero, List.set_cons_succ]
      refine wpAnyH_take (i := 8) (oi := { dst := some 40, op := Op.build 81 #[(0, Operand.tmp 32), (1, Operand.tmp 34), (2, Operand.tmp 35), (3, Operand.tmp 36), (4, Operand.tmp 37), (9, Operand.tmp 38), (15, Operand.tmp 39)], type := 81, pos := "disk.go:68", after := #[{ on := 0, ground := Ground.data }, { on := 2, ground := Ground.data }, { on := 3, ground := Ground.data }, { on := 4, ground := Ground.data }, { on := 5, ground := Ground.data }, { on := 6, ground := Ground.data }, { on := 7, ground := Ground.data }], guard := none }) (v := ?_) rfl (by kernel_rfl) (by kernel_rfl) (by kernel_rfl) (fun _ _ _ h => h) (Or.inl ⟨by rfl, ?_⟩) (by assumption) ?_
      rotate_left
      · (intro w hSw; (try dsimp only at hSw); (try obtain ⟨hSa, hSb⟩ := hSw); go_simp; try with_reducible rfl)
      try simp only [Act.put, List.setIfInBounds_toArray, List.set_cons_zero, List.set_cons_succ]
      refine wpAnyH_ready (rs := [9]) (by kernel_rfl) (by simp) ?_
      refine AllReadyH.cons (o := { dst := some 41, op := Op.box 81 (Operand.tmp 40), type := 34, pos := "disk.go:68", after := #[{ on := 8, ground := Ground.data }], guard := none }) rfl (fun K hK => ?_) AllReadyH.nil
      go_simp
      have hO := (Only.refl (fun _ => False) ww_5).alloc (.cells ((((((((((((Tryz.zeroCells81.setIfInBounds 0 (.pointer (some ⟨d, 0, none⟩))).setIfInBounds 1 (.int .i64 G.c)).setIfInBounds 2 (.int .i64 G.l)).setIfInBounds 3 (.int .i64 G.b)).setIfInBounds 4 (.int .i64 G.p)).setIfInBounds 5 (.int .i64 G.s)).setIfInBounds 6 (.int .i64 sn)).setIfInBounds 7 (.int .i64 sr)).setIfInBounds 8 (.pointer (some ⟨mb, 0, none⟩))).setIfInBounds 9 (.pointer (some ⟨lb, 0, none⟩))).setIfInBounds 130 (.int .i64 0)).setIfInBounds 136 (.map (some w3.heap.size))) 81)
      have HX_6 : Hid (At (ww_5.alloc (.cells ((((((((((((Tryz.zeroCells81.setIfInBounds 0 (.pointer (some ⟨d, 0, none⟩))).setIfInBounds 1 (.int .i64 G.c)).setIfInBounds 2 (.int .i64 G.l)).setIfInBounds 3 (.int .i64 G.b)).setIfInBounds 4 (.int .i64 G.p)).setIfInBounds 5 (.int .i64 G.s)).setIfInBounds 6 (.int .i64 sn)).setIfInBounds 7 (.int .i64 sr)).setIfInBounds 8 (.pointer (some ⟨mb, 0, none⟩))).setIfInBounds 9 (.pointer (some ⟨lb, 0, none⟩))).setIfInBounds 130 (.int .i64 0)).setIfInBounds 136 (.map (some w3.heap.size))) 81)) (ww_5.heap.size) 81 ((((((((((((Tryz.zeroCells81.setIfInBounds 0 (.pointer (some ⟨d, 0, none⟩))).setIfInBounds 1 (.int .i64 G.c)).setIfInBounds 2 (.int .i64 G.l)).setIfInBounds 3 (.int .i64 G.b)).setIfInBounds 4 (.int .i64 G.p)).setIfInBounds 5 (.int .i64 G.s)).setIfInBounds 6 (.int .i64 sn)).setIfInBounds 7 (.int .i64 sr)).setIfInBounds 8 (.pointer (some ⟨mb, 0, none⟩))).setIfInBounds 9 (.pointer (some ⟨lb, 0, none⟩))).setIfInBounds 130 (.int .i64 0)).setIfInBounds 136 (.map (some w3.heap.size)))) := Lib.hid (At.new' (by first | rfl | simp) 81 _)
      have HB_6 := Lib.hid (HB_5.out.only hO id)
      have HO_6 := Lib.hid (HO_5.out.trans hO)
      have HM_6 := Lib.hid (HM_5.out.quiet hO)
      have HL_6 := Lib.hid (HL_5.out.quiet hO)
      try clear hO
      try simp only []
      refine hK.out _ _ ?_ (fun hHeld => ?_)
      · exact ⟨HB_6.out.cell 0, HB_6.out.cell 1⟩
      clear hK K
      try simp only [Act.put, List.setIfInBounds_toArray, List.set_cons_zero, List.set_cons_succ]
      refine wpAnyH_take (i := 10) (oi := { dst := some 10, op := Op.assign (Operand.tmp 41), type := 34, pos := "disk.go:68", after := #[{ on := 9, ground := Ground.data }, { on := 2, ground := Ground.chain }, { on := 0, ground := Ground.phase }, { on := 1, ground := Ground.phase }, { on := 2, ground := Ground.phase }, { on := 3, ground := Ground.phase }, { on := 4, ground := Ground.phase }, { on := 5, ground := Ground.phase }, { on := 6, ground := Ground.phase }, { on := 7, ground := Ground.phase }, { on := 8, ground := Ground.phase }, { on := 9, ground := Ground.phase }], guard := none }) (v := ?_) rfl (by kernel_rfl) (by kernel_rfl) (by kernel_rfl) (fun _ _ _ h => h) (Or.inl ⟨by rfl, ?_⟩) (by assumption) ?_
      rotate_left
      · (intro w hSw; (try dsimp only at hSw); (try obtain ⟨hSa, hSb⟩ := hSw); go_simp; try with_reducible rfl)
      try simp only [Act.put, List.setIfInBounds_toArray, List.set_cons_zero, List.set_cons_succ]
      refine wpAnyH_done (by kernel_rfl) ?_ _
      have HXz := HX_6
      have HOz := HO_6
      have HBz := HB_6
      have HMz := HM_6
      have HLz := HL_6
      go_wp2_with (fail)
      go_meet
      exact ⟨ww_5.heap.size, w3.heap.size, rfl, HXz.out, by have h := HO_5.out.size; first | exact h | (simp at h; omega), HBz.out, HMz.out, HLz.out, HOz.out⟩
  case rest =>
    obtain ⟨db, ob, rfl, hx, hdb, hb, hm, hl, hO⟩ := hcut
    have HD := Lib.hid (dCells_ok d G ⟨sn, sr⟩ mb lb ob)
    have HSZ := Lib.hid (dCells_size d G ⟨sn, sr⟩ mb lb 0 ob)
    generalize dCells d G ⟨sn, sr⟩ mb lb 0 ob = cs at *
    have HX := Lib.hid hx
    have HDB := Lib.hid hdb
    have HM := Lib.hid hm
    have HL := Lib.hid hl
    have HO := Lib.hid hO
    have y1 := hb.cell 1
    simp only [List.getElem?_toArray, List.getElem?_cons_zero, List.getElem?_cons_succ] at y1
    clear hx hdb hm hl hO hb
    go_wp2_with (fail)
    clear y1
    refine (HRN.out _).mono ?_
    rintro e w5 ⟨rb, rfl, hr, hrl, hO⟩
    have HX5 := Lib.hid (HX.out.only hO id)
    have HM5 := Lib.hid (HM.out.quiet hO)
    have HL5 := Lib.hid (HL.out.quiet hO)
    have HO5 := Lib.hid (HO.out.trans hO)
    have HR5 := Lib.hid hr
    have HRL := Lib.hid (Nat.le_trans HO.out.size hrl)
    clear hO hr hrl HX HM HL HO
    obtain ⟨v10, h10⟩ := getElem_some HSZ.out 10 (by omega)
    have c10 := (HX5.out.cell 10).trans h10
    have f10 := HX5.out.frozen 10
    have o6 := (Only.refl (fun i => i = db) w5).setCell (p := ⟨db, 10, none⟩) (fun _ => rfl) (.pointer (some ⟨rb, 0, none⟩))
    have HX6 := Lib.hid (HX5.out.set 10 (.pointer (some ⟨rb, 0, none⟩)))
    have HR6 := Lib.hid (HR5.out.only o6 (fun e => by obtain ⟨v, h⟩ := HR5.out; exact h.ne HX5.out (by decide) e))
    have HM6 := Lib.hid (HM5.out.far' HX5.out o6)
    have HL6 := Lib.hid (HL5.out.far' HX5.out o6)
    have HO6 := Lib.hid (HO5.out.setCell (p := ⟨db, 10, none⟩) (fun h => by have := HDB.out; simp at h; omega) (.pointer (some ⟨rb, 0, none⟩)))
    have hs6 : cs.size = 139 := HSZ.out
    have g1 := HX6.out.cell 1
    rw [set_get _ _ _ _ (by omega), HD.out.2] at g1
    clear o6 h10 hs6
    go_wp2_with (fail)
    clear c10 f10 g1
    refine (HQN.out _).mono ?_
    rintro e w7 ⟨qb, rfl, hql, hO⟩
    have HX7 := Lib.hid (HX6.out.only hO id)
    have HM7 := Lib.hid (HM6.out.quiet hO)
    have HL7 := Lib.hid (HL6.out.quiet hO)
    have HO7 := Lib.hid (HO6.out.trans hO)
    have HR7 := Lib.hid (HR6.out.only hO id)
    clear hO hql HX6 HM6 HL6 HO6 HR6 HX5 HM5 HL5 HO5 HR5
    have HSZ7 : Hid ((cs.setIfInBounds 10 (.pointer (some ⟨rb, 0, none⟩))).size = 139) := Lib.hid (by rw [Array.size_setIfInBounds]; exact HSZ.out)
    obtain ⟨v11, h11⟩ := getElem_some HSZ7.out 11 (by omega)
    have c11 := (HX7.out.cell 11).trans h11
    have f11 := HX7.out.frozen 11
    have HX8 := Lib.hid (HX7.out.set 11 (.pointer (some ⟨qb, 0, none⟩)))
    have HSZ8 : Hid (((cs.setIfInBounds 10 (.pointer (some ⟨rb, 0, none⟩))).setIfInBounds 11 (.pointer (some ⟨qb, 0, none⟩))).size = 139) := Lib.hid (by rw [Array.size_setIfInBounds]; exact HSZ7.out)
    obtain ⟨v37, h37⟩ := getElem_some HSZ8.out 137 (by omega)
    have c37 := (HX8.out.cell 137).trans h37
    have f37 := HX8.out.frozen 137
    have HX9 := Lib.hid (HX8.out.set 137 (.int .i64 (-1)))
    have o9 := ((Only.refl (fun i => i = db) w7).setCell (p := ⟨db, 11, none⟩) (fun _ => rfl) (.pointer (some ⟨qb, 0, none⟩))).setCell (p := ⟨db, 137, none⟩) (fun _ => rfl) (.int .i64 (-1))
    have HR9 := Lib.hid (HR7.out.only o9 (fun e => by obtain ⟨v, h⟩ := HR7.out; exact h.ne HX7.out (by decide) e))
    have HM9 := Lib.hid (HM7.out.far' HX7.out o9)
    have HL9 := Lib.hid (HL7.out.far' HX7.out o9)
    have HO9 := Lib.hid ((HO7.out.setCell (p := ⟨db, 11, none⟩) (fun h => by have := HDB.out; simp at h; omega) (.pointer (some ⟨qb, 0, none⟩))).setCell (p := ⟨db, 137, none⟩) (fun h => by have := HDB.out; simp at h; omega) (.int .i64 (-1)))
    clear o9 h11 h37 HX7 HX8 HR7 HM7 HL7 HO7
    go_upto_region 10 with (fail)
    clear c11 f11 c37 f37
    generalize (w7.setCell ⟨db, 11, none⟩ (.pointer (some ⟨qb, 0, none⟩))).setCell ⟨db, 137, none⟩ (.int .i64 (-1)) = V at *
    have hmk : ∀ W : World, (Instr.makeMap 76 none).run Tryz.prog W = .ok (.map (some W.heap.size)) (W.alloc (.map #[] 0)) := fun W => rfl
    have m0 : (V.alloc (.map #[] 0)).heap[V.heap.size]? = some (.map (stepE 0) 0) := heap_alloc_new _ _
    have q1 := ins_step (z := 1) (v := .func (.func 66) #[] #[]) 0 m0 rfl rfl
    have m1 := wm_at (o := .map (stepE 1) 1) m0
    have q2 := ins_step (z := 2) (v := .func (.func 67) #[] #[]) 1 m1 rfl rfl
    have m2 := wm_at (o := .map (stepE 2) 2) m1
    have q3 := ins_step (z := 3) (v := .func (.func 67) #[] #[]) 2 m2 rfl rfl
    have m3 := wm_at (o := .map (stepE 3) 3) m2
    have q4 := ins_step (z := 4) (v := .func (.func 68) #[] #[]) 3 m3 rfl rfl
    have m4 := wm_at (o := .map (stepE 4) 4) m3
    have q5 := ins_step (z := 5) (v := .func (.func 68) #[] #[]) 4 m4 rfl rfl
    have m5 := wm_at (o := .map (stepE 5) 5) m4
    have oA := (Only.refl (fun _ => False) V).alloc (.map #[] 0)
    have oB := ((((wm_only (V.alloc (.map #[] 0)) V.heap.size (.map (stepE 1) 1)).trans (wm_only _ V.heap.size (.map (stepE 2) 2))).trans (wm_only _ V.heap.size (.map (stepE 3) 3))).trans (wm_only _ V.heap.size (.map (stepE 4) 4))).trans (wm_only _ V.heap.size (.map (stepE 5) 5))
    simp only [Nat.zero_add, Nat.reduceAdd] at q1 q2 q3 q4 q5
    clear m0 m1 m2 m3 m4
    generalize hU : wm (wm (wm (wm (wm (V.alloc (.map #[] 0)) V.heap.size (.map (stepE 1) 1)) V.heap.size (.map (stepE 2) 2)) V.heap.size (.map (stepE 3) 3)) V.heap.size (.map (stepE 4) 4)) V.heap.size (.map (stepE 5) 5) = U at *
    have hO := oA.trans' oB (S := fun _ => False) (fun i hi e => by omega)
    clear oA oB
    have HM5 := Lib.hid m5
    have HX10 := Lib.hid (HX9.out.only hO id)
    have HM10 := Lib.hid (HM9.out.quiet hO)
    have HL10 := Lib.hid (HL9.out.quiet hO)
    have HR10 := Lib.hid (HR9.out.only hO id)
    have HO10 := Lib.hid (HO9.out.trans hO)
    clear hO m5 HX9 HM9 HL9 HR9
    have HSZ9 : Hid ((((cs.setIfInBounds 10 (.pointer (some ⟨rb, 0, none⟩))).setIfInBounds 11 (.pointer (some ⟨qb, 0, none⟩))).setIfInBounds 137 (.int .i64 (-1))).size = 139) := Lib.hid (by rw [Array.size_setIfInBounds]; exact HSZ8.out)
    obtain ⟨v29, h29⟩ := getElem_some HSZ9.out 129 (by omega)
    have c29 := (HX10.out.cell 129).trans h29
    have f29 := HX10.out.frozen 129
    have HFX := Lib.hid (HX10.out.set 129 (.map (some V.heap.size)))
    have o11 := (Only.refl (fun i => i = db) U).setCell (p := ⟨db, 129, none⟩) (fun _ => rfl) (.map (some V.heap.size))
    have HFR := Lib.hid (HR10.out.only o11 (fun e => by obtain ⟨v, h⟩ := HR10.out; exact h.ne HX10.out (by decide) e))
    have HFM := Lib.hid (HM10.out.far' HX10.out o11)
    have HFL := Lib.hid (HL10.out.far' HX10.out o11)
    have hmd : ¬ V.heap.size = db := fun e => by have h1 := HX10.out; have h2 := HM5.out; unfold At at h1; rw [e, h1] at h2; cases h2
    have HFS := Lib.hid (map_at HM5.out o11 hmd)
    have HFO := Lib.hid (HO10.out.setCell (p := ⟨db, 129, none⟩) (fun h => by have := HDB.out; simp at h; omega) (.map (some V.heap.size)))
    clear o11 h29 hmd
    go_wp2
    go_ret2
    exact ⟨db, _, mb, kt, kw, vb, st, sw, lb, off, c, gl, rb, V.heap.size, rfl, ⟨HFX.out, (HD.out.1 rb _ _ _).1, HFM.out, HFL.out, HFR.out, HFS.out⟩, (HD.out.1 rb _ V.heap.size _).2, HDB.out, HFO.out⟩
end Go.Proofs.YtjobaplioidogaaGreat
