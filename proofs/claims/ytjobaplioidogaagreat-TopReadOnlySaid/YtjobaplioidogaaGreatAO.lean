/- Top: the walk, but for the first word. -/
import Derived.Test.YtjobaplioidogaaGreatAN
namespace Go.Proofs.YtjobaplioidogaaGreat
open Go.RowKit

/-- What a disk is, whose three threads are idle. -/
structure Ready (w : World) (db : Nat) (G : Ge) (s : Sg) (l : List Ln) (mb kt kw vb : Nat) (st sw : Nat → Sh) (lb off c gb rb sb lo : Nat) (cs : Array Value) : Prop where
  d : DAt w db G s l cs mb kt kw vb st sw lb off c gb rb sb lo
  i : Idle cs

def RowP (w : World) (e : Ending) (w' : World) : Prop := e = .returned (.bool true) ∧ Only (fun _ => False) w w'

/-- Puts, as cells. -/
def pv (l : List (Int × Int)) : List Value := l.flatMap fun z => [.int .i64 z.1, .int .i64 z.2]
theorem pv_get : ∀ (l : List (Int × Int)) (k : Nat) (h : k < l.length), (pv l)[k * 2]? = some (.int .i64 (l[k]).1) ∧ (pv l)[k * 2 + 1]? = some (.int .i64 (l[k]).2)
  | [], k, h => by simp at h
  | x :: l, 0, _ => ⟨rfl, rfl⟩
  | x :: l, k + 1, h => by
    have := pv_get l k (by simpa using h)
    rw [show (k + 1) * 2 = k * 2 + 1 + 1 by omega]
    simpa [pv] using this

theorem and_mask (z : Int) : ∃ m : Nat, m ≤ 4095 ∧ bits .and .i64 z 4095 = (m : Int) := by
  refine ⟨(BitVec.ofInt 64 z &&& BitVec.ofInt 64 4095).toNat, ?_, ?_⟩
  · rw [BitVec.toNat_and]
    exact Nat.le_trans Nat.and_le_right (by decide)
  · have h : (BitVec.ofInt 64 z &&& BitVec.ofInt 64 4095).toNat ≤ 4095 := by
      rw [BitVec.toNat_and]
      exact Nat.le_trans Nat.and_le_right (by decide)
    show IntKind.i64.wrap (((BitVec.ofInt 64 z &&& BitVec.ofInt 64 4095).toNat : Nat) : Int) = _
    exact IntWalk.i64_in _ (by omega)
theorem lba_any (z n : Int) (h : 1 ≤ n) : ∃ q : Nat, q < n.toNat ∧ (bits .and .i64 z 4095).tmod n = (q : Int) := by
  obtain ⟨m, hm, he⟩ := and_mask z
  rw [he, Int.tmod_eq_emod_of_nonneg (by omega)]
  have h1 := Int.emod_nonneg (m : Int) (show n ≠ 0 by omega)
  have h2 := Int.emod_lt_of_pos (m : Int) (show 0 < n by omega)
  exact ⟨((m : Int) % n).toNat, by omega, by omega⟩
theorem DAt.blk {w w' : World} {db mb kt kw vb lb off c gb rb sb lo : Nat} {st sw : Nat → Sh} {G : Ge} {s : Sg} {l : List Ln} {cs : Array Value} (k : DAt w db G s l cs mb kt kw vb st sw lb off c gb rb sb lo) {d : Nat} {xs : Array Value} (hx : At w d 48 xs) (o : Only (fun i => i = d) w w') : DAt w' db G s l cs mb kt kw vb st sw lb off c gb rb sb lo :=
  ⟨k.at'.only o (k.at'.ne hx (by decide)), k.ok,
   ⟨k.map.hd.only o (k.map.hd.ne hx (by decide)), k.map.tt.far hx (by decide) (by decide) o, k.map.who.far hx (by decide) (by decide) o, k.map.val.only o (k.map.val.ne hx (by decide)), k.map.is, k.map.len, k.map.nt, k.map.nw, k.map.ge⟩,
   k.lns.only o (k.lns.st.ne hx (by decide)) (k.lns.row.neAt hx (by simp) (by decide)),
   k.ring.only o (fun e => by obtain ⟨v, hv⟩ := k.ring; exact hv.ne hx (by decide) e),
   map_at k.stp o (fun e => by have h1 := hx; have h2 := k.stp; unfold At at h1; rw [e, h1] at h2; cases h2)⟩
theorem At.rdL {w : World} {g : Nat} {t : TypeId} {xs : List Value} (h : At w g t xs.toArray) : Rd w g (some ⟨g, 0, none⟩) xs :=
  .inr ⟨0, rfl, h.lt, fun j u hu => by rw [Nat.zero_add, h.cell]; simpa using hu⟩

set_option maxRecDepth 100000 in
set_option maxHeartbeats 16000000 in
theorem top_walk (G : Ge) (s : Sg) (bad : List Int) (Ab : Option Addr) (cb gs : Nat) (pl : List Int) (Ap : Option Addr) (cp gp : Nat) (l : List (Int × Int)) (Al : Option Addr) (cl gl : Nat) (w : World)
    (hr : Rd w gs Ab (bad.map (Value.int .i64))) (hp : Rd w gp Ap (bv pl)) (hl : Rd w gl Al (pv l))
    (haw : ∀ W, Calls Tryz.prog 4 #[] W fun e w' => e = .returned (.bool true) ∧ Only (fun _ => False) W w') :
    Calls Tryz.prog 3 #[.agg (setV G s Ab bad.length cb Ap pl.length cp), .slice Al l.length cl] w (RowP w) := by
  have HBX := Lib.hid (At.new w 29 (setV G s Ab bad.length cb Ap pl.length cp))
  have HO0 := Lib.hid ((Only.refl (fun _ => False) w).alloc (.cells (setV G s Ab bad.length cb Ap pl.length cp) 29))
  have HAW := Lib.hid haw
  have HFI := Lib.hid (fun W => fits_any G s Ab bad.length cb Ap pl.length cp W)
  have HRB := Lib.hid hr
  have HRP := Lib.hid hp
  have HRL := Lib.hid hl
  have HBE := Lib.hid (fun W (h : dOk G s = true) (h1 : bad.length ≤ 100) (h2 : pl.length ≤ 300) (o : Only (fun _ => False) w W) => begun_any G s h bad Ab cb gs pl Ap cp gp W (hr.only o id) h1 (hp.only o id) h2)
  have HSO := Lib.hid (fun W (h : G.Is) (h1 : bad.length ≤ 100) (hb : ∃ z ∈ bad, z < 0 ∨ G.u * G.b ≤ z) (o : Only (fun _ => False) w W) => some_any G h s bad Ab cb gs Ap pl.length cp W (hr.only o id) h1 hb)
  have HGU := Lib.hid (fun W (h : G.Is) (h1 : bad.length ≤ 100) (o : Only (fun _ => False) w W) => goodsU_any G h s bad Ab cb gs Ap pl.length cp W (hr.only o id) h1)
  unfold RowP
  have hset : setV G s Ab bad.length cb Ap pl.length cp = #[.int .i64 G.c, .int .i64 G.l, .int .i64 G.b, .int .i64 G.p, .int .i64 G.s, .int .i64 s.n, .int .i64 s.r, .slice Ab bad.length cb, .slice Ap pl.length cp] := rfl
  rw [hset] at HBX HO0 HFI HBE HSO HGU ⊢
  clear hset hr hp hl haw
  have x0 := HBX.out.cell 0
  have x1 := HBX.out.cell 1
  have x2 := HBX.out.cell 2
  have x3 := HBX.out.cell 3
  have x4 := HBX.out.cell 4
  have x5 := HBX.out.cell 5
  have x6 := HBX.out.cell 6
  have x7 := HBX.out.cell 7
  have x8 := HBX.out.cell 8
  simp only [List.getElem?_toArray, List.getElem?_cons_zero, List.getElem?_cons_succ] at x0 x1 x2 x3 x4 x5 x6 x7 x8
  go_enter Tryz.func3, Tryz.ntmps3
  go_wp2_with (fail)
  refine (HAW.out _).mono ?_
  rintro e w1 ⟨rfl, hO⟩
  have hx := HBX.out.only hO id
  have HX1 := Lib.hid hx
  have HO1 := Lib.hid (HO0.out.trans hO)
  clear hO x0 x1 x2 x3 x4 x5 x6 x7 x8
  have x0 := hx.cell 0
  have x1 := hx.cell 1
  have x2 := hx.cell 2
  have x3 := hx.cell 3
  have x4 := hx.cell 4
  have x5 := hx.cell 5
  have x6 := hx.cell 6
  have x7 := hx.cell 7
  have x8 := hx.cell 8
  simp only [List.getElem?_toArray, List.getElem?_cons_zero, List.getElem?_cons_succ] at x0 x1 x2 x3 x4 x5 x6 x7 x8
  clear hx
  go_wp2_with (fail)
  refine (HFI.out _).mono ?_
  rintro e w2 ⟨rfl, hO⟩
  have hx := HX1.out.only hO id
  have HX2 := Lib.hid hx
  have HO2 := Lib.hid (HO1.out.trans hO)
  clear hO x0 x1 x2 x3 x4 x5 x6 x7 x8
  have x0 := hx.cell 0
  have x1 := hx.cell 1
  have x2 := hx.cell 2
  have x3 := hx.cell 3
  have x4 := hx.cell 4
  have x5 := hx.cell 5
  have x6 := hx.cell 6
  have x7 := hx.cell 7
  have x8 := hx.cell 8
  simp only [List.getElem?_toArray, List.getElem?_cons_zero, List.getElem?_cons_succ] at x0 x1 x2 x3 x4 x5 x6 x7 x8
  clear hx
  cases hfi : fitI G s bad.length pl.length with
  | false =>
    have HF := Lib.hid hfi
    clear hfi
    go_wp2
    go_ret
    exact ⟨rfl, HO2.out⟩
  | true =>
    simp only [fitI, Bool.and_eq_true, decide_eq_true_eq] at hfi
    obtain ⟨⟨⟨hd, hal⟩, hb100⟩, hp300⟩ := hfi
    have HD := Lib.hid hd
    clear hd
    by_cases hl60 : l.length ≤ 60
    · have i1 : decide (60 < l.length) = false := decide_eq_false (by omega)
      have i1' : decide ((60 : Int) < l.length) = false := decide_eq_false (by omega)
      go_wp2_with (fail)
      refine (HBE.out _ HD.out hb100 hp300 HO2.out).mono ?_
      rintro e w3 (⟨hbad, rfl, hO⟩ | ⟨d, ngb, mp, pp, db, mb, kt, kw, vb, lb, off, c, lgb, rb, sb, lo, st, sw, cs, hin, rfl, hN, hD, hid, hsz, n1, n2, n3, hO⟩)
      · have hx := HX2.out.only hO id
        have HX3 := Lib.hid hx
        have HO3 := Lib.hid (HO2.out.trans hO)
        have HBD := Lib.hid hbad
        clear hO hbad x0 x1 x2 x3 x4 x5 x6 x7 x8
        have x0 := hx.cell 0
        have x1 := hx.cell 1
        have x2 := hx.cell 2
        have x3 := hx.cell 3
        have x4 := hx.cell 4
        have x5 := hx.cell 5
        have x6 := hx.cell 6
        have x7 := hx.cell 7
        have x8 := hx.cell 8
        simp only [List.getElem?_toArray, List.getElem?_cons_zero, List.getElem?_cons_succ] at x0 x1 x2 x3 x4 x5 x6 x7 x8
        clear hx
        go_wp2_with (fail)
        refine (HSO.out _ (dOk_all HD.out).1 hb100 HBD.out HO3.out).mono ?_
        rintro e w4 ⟨rfl, hO⟩
        have HO4 := Lib.hid (HO3.out.trans hO)
        clear hO x0 x1 x2 x3 x4 x5 x6 x7 x8
        go_wp2
        go_ret
        exact ⟨rfl, HO4.out⟩
      · have HX3 := Lib.hid (HX2.out.only hO id)
        have HO3 := Lib.hid (HO2.out.trans hO)
        have HN := Lib.hid hN
        have HDA := Lib.hid hD
        have HID := Lib.hid hid
        have HNE := Lib.hid (And.intro n1 (And.intro n2 n3))
        have hszw : w.heap.size + 1 ≤ db := by have := HO1.out.size; have := HO2.out.size; have h2 := HX2.out.lt; omega
        have HSZ := Lib.hid hszw
        obtain ⟨hI, hn1, hn2, -⟩ := dOk_all HD.out
        have hl1 := goodsL_len G.b.toNat (mkBs (G.u * G.b).toNat bad) G.u.toNat G.b.toNat
        have hgo := goodsL_ok hI (mkBs (G.u * G.b).toNat bad)
        have hlaw := ro_law s (mkBs (G.u * G.b).toNat bad) (G := G)
        have hbb := hI.b
        have HRO := Lib.hid (fun W cs' (k : DAt W db G s (mountL G (mkBs (G.u * G.b).toNat bad)) cs' mb kt kw vb st sw lb off c lgb rb sb lo) => readOnly_any db mb kt kw vb lb off c lgb rb sb lo st sw G s _ cs' (mount_gOk hI _) ⟨hn1, hn2⟩ W k)
        have HRR := Lib.hid (fun A c g W hr => refRO_any G hI s ⟨hn1, hn2⟩ _ hgo G.b.toNat hl1 (by omega) A c g W hr)
        have HGO := Lib.hid (fun W o => HGU.out W hI hb100 o)
        unfold GoodsU at HGO
        have HLAW := Lib.hid hlaw
        have HGOK := Lib.hid (mount_gOk hI (mkBs (G.u * G.b).toNat bad))
        have HIN := Lib.hid hI
        rw [hlaw] at HRO
        obtain ⟨b, hb⟩ : ∃ b, b = decide (rmsTo G (goodsL G.b.toNat (mkBs (G.u * G.b).toNat bad) G.u.toNat G.b.toNat) G.b.toNat < 2 * s.n + 5 * G.fl) := ⟨_, rfl⟩
        rw [← hb] at HRO HRR HLAW
        generalize goodsL G.b.toNat (mkBs (G.u * G.b).toNat bad) G.u.toNat G.b.toNat = good at *
        generalize mountL G (mkBs (G.u * G.b).toNat bad) = L at *
        generalize hnn : G.b.toNat = nn at *
        clear hO hN hD hid n1 n2 n3 hszw hlaw hgo hl1 hb hI hin hsz x0 x1 x2 x3 x4 x5 x6 x7 x8 hnn
        go_upto_region 9 with (fail)
        have HXs := Lib.hid HX3.out.drew
        have HOs := Lib.hid HO3.out.drew
        have HQs := Lib.hid (Only.refl (fun _ => False) w3).drew
        refine wp_region_held_drew (S := (fun W => ((W.cell? ⟨w.heap.size, 0, none⟩ = some (.int .i64 G.c) ∧ W.cell? ⟨w.heap.size, 1, none⟩ = some (.int .i64 G.l)) ∧ (W.cell? ⟨w.heap.size, 2, none⟩ = some (.int .i64 G.b) ∧ W.cell? ⟨w.heap.size, 3, none⟩ = some (.int .i64 G.p)) ∧ W.cell? ⟨w.heap.size, 4, none⟩ = some (.int .i64 G.s)) ∧ (W.cell? ⟨w.heap.size, 5, none⟩ = some (.int .i64 s.n) ∧ W.cell? ⟨w.heap.size, 6, none⟩ = some (.int .i64 s.r)) ∧ (W.cell? ⟨w.heap.size, 7, none⟩ = some (.slice Ab bad.length cb) ∧ W.cell? ⟨w.heap.size, 8, none⟩ = some (.slice Ap pl.length cp)))) (by kernel_rfl) ?_ (fun hHeld => ?_)
        · exact ⟨⟨⟨HXs.out.cell 0, HXs.out.cell 1⟩, ⟨HXs.out.cell 2, HXs.out.cell 3⟩, HXs.out.cell 4⟩, ⟨HXs.out.cell 5, HXs.out.cell 6⟩, ⟨HXs.out.cell 7, HXs.out.cell 8⟩⟩
        refine wpAnyH_take (i := 0) (oi := { dst := some 43, op := Op.move (Operand.tmp 8), type := 34, pos := "more.go:251", after := #[], guard := none }) (v := ?_) rfl (by kernel_rfl) (by kernel_rfl) (by kernel_rfl) (fun _ _ _ h => h) (Or.inl ⟨by rfl, ?_⟩) (by assumption) ?_
        rotate_left
        · (intro w hSw; (try dsimp only at hSw); (try obtain ⟨hSa, hSb⟩ := hSw); go_simp; try with_reducible rfl)
        try simp only [Act.put, List.setIfInBounds_toArray, List.set_cons_zero, List.set_cons_succ]
        refine wpAnyH_take (i := 2) (oi := { dst := some 45, op := Op.fieldAddr 29 (Operand.tmp 2) 0, type := 0, pos := "more.go:251", after := #[], guard := none }) (v := ?_) rfl (by kernel_rfl) (by kernel_rfl) (by kernel_rfl) (fun _ _ _ h => h) (Or.inl ⟨by rfl, ?_⟩) (by assumption) ?_
        rotate_left
        · (intro w hSw; (try dsimp only at hSw); (try obtain ⟨hSa, hSb⟩ := hSw); go_simp; try with_reducible rfl)
        try simp only [Act.put, List.setIfInBounds_toArray, List.set_cons_zero, List.set_cons_succ]
        refine wpAnyH_take (i := 4) (oi := { dst := some 47, op := Op.fieldAddr 29 (Operand.tmp 2) 1, type := 0, pos := "more.go:251", after := #[], guard := none }) (v := ?_) rfl (by kernel_rfl) (by kernel_rfl) (by kernel_rfl) (fun _ _ _ h => h) (Or.inl ⟨by rfl, ?_⟩) (by assumption) ?_
        rotate_left
        · (intro w hSw; (try dsimp only at hSw); (try obtain ⟨hSa, hSb⟩ := hSw); go_simp; try with_reducible rfl)
        try simp only [Act.put, List.setIfInBounds_toArray, List.set_cons_zero, List.set_cons_succ]
        refine wpAnyH_take (i := 6) (oi := { dst := some 49, op := Op.load 29 (Operand.tmp 2), type := 29, pos := "more.go:251", after := #[], guard := none }) (v := ?_) rfl (by kernel_rfl) (by kernel_rfl) (by kernel_rfl) (fun _ _ _ h => h) (Or.inl ⟨by rfl, ?_⟩) (by assumption) ?_
        rotate_left
        · (intro w hSw; (try dsimp only at hSw); (try obtain ⟨hSa, hSb⟩ := hSw); go_simp; try with_reducible rfl)
        try simp only [Act.put, List.setIfInBounds_toArray, List.set_cons_zero, List.set_cons_succ]
        refine wpAnyH_take (i := 3) (oi := { dst := some 46, op := Op.load 23 (Operand.tmp 45), type := 23, pos := "more.go:251", after := #[{ on := 2, ground := Ground.data }], guard := none }) (v := ?_) rfl (by kernel_rfl) (by kernel_rfl) (by kernel_rfl) (fun _ _ _ h => h) (Or.inl ⟨by rfl, ?_⟩) (by assumption) ?_
        rotate_left
        · (intro w hSw; (try dsimp only at hSw); (try obtain ⟨hSa, hSb⟩ := hSw); go_simp; try with_reducible rfl)
        try simp only [Act.put, List.setIfInBounds_toArray, List.set_cons_zero, List.set_cons_succ]
        refine wpAnyH_take (i := 5) (oi := { dst := some 48, op := Op.load 25 (Operand.tmp 47), type := 25, pos := "more.go:251", after := #[{ on := 4, ground := Ground.data }], guard := none }) (v := ?_) rfl (by kernel_rfl) (by kernel_rfl) (by kernel_rfl) (fun _ _ _ h => h) (Or.inl ⟨by rfl, ?_⟩) (by assumption) ?_
        rotate_left
        · (intro w hSw; (try dsimp only at hSw); (try obtain ⟨hSa, hSb⟩ := hSw); go_simp; try with_reducible rfl)
        try simp only [Act.put, List.setIfInBounds_toArray, List.set_cons_zero, List.set_cons_succ]
        refine wpAnyH_ready (rs := [1]) (by kernel_rfl) (by simp) ?_
        refine AllReadyH.cons (o := { dst := some 44, op := Op.call { callee := Callee.value (Operand.func 8), args := #[Operand.tmp 43], argTypes := #[34] }, type := 4, pos := "more.go:251", after := #[{ on := 0, ground := Ground.data }], guard := none }) rfl (fun K hK => ?_) AllReadyH.nil
        go_simp
        refine (HRO.out _ _ (HDA.out.quiet HQs.out)).mono ?_
        rintro e ww_1 ⟨rfl, hO⟩
        have HX_1 := Lib.hid (HXs.out.only hO id)
        have HO_1 := Lib.hid (HOs.out.trans hO)
        have HQ_1 := Lib.hid (HQs.out.trans hO)
        try clear hO
        try simp only []
        refine hK.out _ _ ?_ (fun hHeld => ?_)
        · exact ⟨⟨⟨HX_1.out.cell 0, HX_1.out.cell 1⟩, ⟨HX_1.out.cell 2, HX_1.out.cell 3⟩, HX_1.out.cell 4⟩, ⟨HX_1.out.cell 5, HX_1.out.cell 6⟩, ⟨HX_1.out.cell 7, HX_1.out.cell 8⟩⟩
        clear hK K
        try simp only [Act.put, List.setIfInBounds_toArray, List.set_cons_zero, List.set_cons_succ]
        refine wpAnyH_ready (rs := [7]) (by kernel_rfl) (by simp) ?_
        refine AllReadyH.cons (o := { dst := some 50, op := Op.call { callee := Callee.value (Operand.func 10), args := #[Operand.tmp 49], argTypes := #[29] }, type := 26, pos := "more.go:251", after := #[{ on := 6, ground := Ground.data }, { on := 1, ground := Ground.chain }], guard := none }) rfl (fun K hK => ?_) AllReadyH.nil
        go_simp
        refine (HGO.out _ HO_1.out).mono ?_
        rintro e ww_2 ⟨A0, c0, g0, rfl, hrow, hge, hO⟩
        have HR_2 := Lib.hid hrow
        clear hrow hge
        have HX_2 := Lib.hid (HX_1.out.only hO id)
        have HO_2 := Lib.hid (HO_1.out.trans hO)
        have HQ_2 := Lib.hid (HQ_1.out.trans hO)
        try clear hO
        try simp only []
        refine hK.out _ _ ?_ (fun hHeld => ?_)
        · exact ⟨⟨⟨HX_2.out.cell 0, HX_2.out.cell 1⟩, ⟨HX_2.out.cell 2, HX_2.out.cell 3⟩, HX_2.out.cell 4⟩, ⟨HX_2.out.cell 5, HX_2.out.cell 6⟩, ⟨HX_2.out.cell 7, HX_2.out.cell 8⟩⟩
        clear hK K
        try simp only [Act.put, List.setIfInBounds_toArray, List.set_cons_zero, List.set_cons_succ]
        refine wpAnyH_ready (rs := [8]) (by kernel_rfl) (by simp) ?_
        refine AllReadyH.cons (o := { dst := some 51, op := Op.call { callee := Callee.value (Operand.func 9), args := #[Operand.tmp 46, Operand.tmp 48, Operand.tmp 50], argTypes := #[23, 25, 26] }, type := 4, pos := "more.go:251", after := #[{ on := 3, ground := Ground.data }, { on := 5, ground := Ground.data }, { on := 7, ground := Ground.data }, { on := 7, ground := Ground.chain }], guard := none }) rfl (fun K hK => ?_) AllReadyH.nil
        go_simp
        refine (HRR.out A0 c0 g0 _ HR_2.out).mono ?_
        rintro e ww_3 ⟨rfl, hO⟩
        have HX_3 := Lib.hid (HX_2.out.only hO id)
        have HO_3 := Lib.hid (HO_2.out.trans hO)
        have HQ_3 := Lib.hid (HQ_2.out.trans hO)
        have HR_3 := Lib.hid (HR_2.out.only hO (fun _ => id))
        try clear hO
        try simp only []
        refine hK.out _ _ ?_ (fun hHeld => ?_)
        · exact ⟨⟨⟨HX_3.out.cell 0, HX_3.out.cell 1⟩, ⟨HX_3.out.cell 2, HX_3.out.cell 3⟩, HX_3.out.cell 4⟩, ⟨HX_3.out.cell 5, HX_3.out.cell 6⟩, ⟨HX_3.out.cell 7, HX_3.out.cell 8⟩⟩
        clear hK K
        try simp only [Act.put, List.setIfInBounds_toArray, List.set_cons_zero, List.set_cons_succ]
        refine wpAnyH_take (i := 9) (oi := { dst := some 52, op := Op.binOp BinOp.neq 4 (Operand.tmp 44) (Operand.tmp 51) 4, type := 4, pos := "more.go:251", after := #[{ on := 1, ground := Ground.data }, { on := 8, ground := Ground.data }], guard := none }) (v := ?_) rfl (by kernel_rfl) (by kernel_rfl) (by kernel_rfl) (fun _ _ _ h => h) (Or.inl ⟨by rfl, ?_⟩) (by assumption) ?_
        rotate_left
        · (intro w hSw; (try dsimp only at hSw); (try obtain ⟨hSa, hSb⟩ := hSw); go_simp; try with_reducible rfl)
        try simp only [Act.put, List.setIfInBounds_toArray, List.set_cons_zero, List.set_cons_succ]
        refine wpAnyH_done (by kernel_rfl) ?_ _
        cases b with
        | false =>
          go_wp2_with (fail)
          refine (HRO.out _ _ (HDA.out.quiet HQ_3.out)).mono ?_
          rintro e w5 ⟨rfl, hO⟩
          have HO5 := Lib.hid (HO_3.out.trans hO)
          clear hO
          go_wp2
          go_ret
          exact ⟨rfl, HO5.out⟩
        | true =>
          go_wp2_with (fail)
          refine (HRO.out _ _ (HDA.out.quiet HQ_3.out)).mono ?_
          rintro e wa ⟨rfl, hO⟩
          have HOa := Lib.hid (HO_3.out.trans hO)
          have HQa := Lib.hid (HQ_3.out.trans hO)
          have HXa := Lib.hid (HX_3.out.only hO id)
          clear hO
          have HDa := Lib.hid (HDA.out.quiet HQa.out)
          have HNa := Lib.hid (HN.out.quiet HQa.out)
          have hro := HLAW.out
          have HROB := Lib.hid hro
          clear hro
          clear HXs HOs HQs HDA HN
          go_wp2_with (fail)
          go_loopw [10, 11, 12, 13, 14, 15] (fun v10 v11 v12 v13 v14 v15 wr => ∃ (k : Nat) (cs1 : Array Value), k ≤ l.length ∧ v10 = .int .i64 k ∧ DAt wr db G s L cs1 mb kt kw vb st sw lb off c lgb rb sb lo ∧ Idle cs1 ∧ Only (fun i => i = db) wa wr) (fun v10 _ _ _ _ _ _ => (l.length - intOf v10).toNat)
          case atStart => exact ⟨0, cs, by omega, rfl, HDa.out, HID.out, Only.refl _ _⟩
          case round =>
            obtain ⟨k, cs1, hk, rfl, hD, hI, hO⟩ := hrel
            have HD1 := Lib.hid hD
            have HI1 := Lib.hid hI
            have HOr := Lib.hid hO
            clear hD hI hO
            by_cases hkl : k < l.length
            · have i2 : decide ((k : Int) < l.length) = true := decide_eq_true (by omega)
              have i2' : decide (k < l.length) = true := decide_eq_true (by omega)
              have i3 : (0 : Int) ≤ k := by omega
              have i4 : (k : Int) < l.length := by omega
              obtain ⟨g1, g2⟩ := pv_get l k hkl
              obtain ⟨o, rfl, hglt, hc⟩ := HRL.out.at (fun e => by rw [e] at g1; simp at g1)
              have hne : ¬ gl = db := by have := HSZ.out; omega
              have p1 : wr.cell? ⟨gl, o + k * 2, none⟩ = some (.int .i64 (l[k]).1) := by
                rw [← hc _ _ g1, ← HOa.out.cell (p := ⟨gl, o + k * 2, none⟩) hglt id]
                exact HOr.out.cell (p := ⟨gl, o + k * 2, none⟩) (Nat.lt_of_lt_of_le hglt HOa.out.size) hne
              have p2 : wr.cell? ⟨gl, o + (k * 2 + 1), none⟩ = some (.int .i64 (l[k]).2) := by
                rw [← hc _ _ g2, ← HOa.out.cell (p := ⟨gl, o + (k * 2 + 1), none⟩) hglt id]
                exact HOr.out.cell (p := ⟨gl, o + (k * 2 + 1), none⟩) (Nat.lt_of_lt_of_le hglt HOa.out.size) hne
              have p2' : wr.cell? ⟨gl, o + k * 2 + 1, none⟩ = some (.int .i64 (l[k]).2) := by rw [← p2, Nat.add_assoc]
              have HP2 := Lib.hid p2'
              clear p2 p2' hc g1 g2
              generalize hz1 : (l[k]).1 = z1 at *
              generalize hz2 : (l[k]).2 = z2 at *
              clear hz1 hz2
              have hxk := HXa.out.only HOr.out (by have := HSZ.out; omega)
              have x5 := hxk.cell 5
              simp only [List.getElem?_toArray, List.getElem?_cons_zero, List.getElem?_cons_succ] at x5
              have HXk := Lib.hid hxk
              clear hxk
              have e5 : ¬ s.n = 0 := by omega
              go_upto_region 16 with (fail)
              go_region
              obtain ⟨q, hq, hqe⟩ := lba_any z1 s.n hn1
              rw [hqe]
              have HQ := Lib.hid hq
              clear hqe p1 x5 hq
              have HOd := Lib.hid HOr.out.drew
              have HDd := Lib.hid (HD1.out.quiet (Only.refl (fun _ => False) wr).drew)
              obtain ⟨wd, hwd⟩ : ∃ wd, wd = wr.drew := ⟨_, rfl⟩
              have p2 : wd.cell? ⟨gl, o + k * 2 + 1, none⟩ = some (.int .i64 z2) := by rw [hwd]; exact HP2.out
              rw [← hwd] at HOd HDd ⊢
              clear hwd
              go_wp2_with (fail)
              refine (sector_any z2 _).mono ?_
              rintro e w6 ⟨rfl, hA, hO⟩
              have HRs := Lib.hid (hA.rdL)
              have HD6 := Lib.hid (HDd.out.quiet hO)
              have HO6 := Lib.hid (HOd.out.trans (hO.mono (fun _ _ h => h.elim)))
              clear hA hO p2
              go_wp2_with (fail)
              refine (submit2 db mb kt kw vb lb off c lgb rb sb lo st sw G s L cs1 q HQ.out hn2 _ 16 _ (secL z2 4) (secL_len _ _) (secL_one _ _) _ HRs.out HD6.out HI1.out.1).mono ?_
              rintro e w7 ⟨rfl, cs2, A2, c2, h2, t2, r2, hO⟩
              have HD7 := Lib.hid (HD6.out.put hO h2 (HD6.out.ok.far r2 (by omega) (by omega)))
              have HO7 := Lib.hid (HO6.out.trans hO)
              have HT7 := Lib.hid t2
              have HF7 := Lib.hid r2
              clear h2 t2 r2 hO
              go_wp2_with (fail)
              refine (step2 db mb kt kw vb lb off c lgb rb sb lo st sw G s L cs2 HGOK.out ⟨hn1, hn2⟩ HROB.out _ _ _ _ _ _ _ _ 0 none 0 0 HT7.out _ HD7.out).mono ?_
              rintro e w8 ⟨rfl, cs3, h3, t3, r3, hO⟩
              have HD8 := Lib.hid (HD7.out.put hO h3 (HD7.out.ok.far r3 (by omega) (by omega)))
              have HO8 := Lib.hid (HO7.out.trans hO)
              have HT8 := Lib.hid t3
              have HF8 := Lib.hid (HF7.out.trans r3)
              clear h3 t3 r3 hO HT7 HF7 HRs
              go_wp2_with (fail)
              refine (reply2 db cs3 17 0 none 0 0 0 [] rfl (by simp) (by omega) _ Rd.nil HD8.out.at' (HT8.out 9 (by omega)) (HT8.out 10 (by omega)) (HT8.out 11 (by omega)) (HT8.out 12 (by omega))).mono ?_
              rintro e w9 ⟨A9, c9, g9, rfl, -, hO⟩
              have oa := hO.alloc (.cells #[.int .i64 17, .int .i64 0, .slice A9 0 c9] 48)
              have HD9 := Lib.hid (HD8.out.quiet oa)
              have HO9 := Lib.hid (HO8.out.trans (oa.mono (fun _ _ h => h.elim)))
              have hB := At.new w9 48 #[.int .i64 17, .int .i64 0, .slice A9 0 c9]
              have HB9 := Lib.hid hB
              have b0 := hB.cell 0
              have b1 := hB.cell 1
              simp only [List.getElem?_toArray, List.getElem?_cons_zero, List.getElem?_cons_succ] at b0 b1
              have HSZ9 := Lib.hid (Nat.le_trans HO8.out.size hO.size)
              have HL9 := Lib.hid (show db < w9.heap.size from Nat.lt_of_lt_of_le HD8.out.at'.lt hO.size)
              clear hO oa hB
              go_wp2_with (fail)
              refine (submit3 db mb kt kw vb lb off c lgb rb sb lo st sw G s L cs3 q HQ.out hn2 _ HD9.out ((HF8.out.2 55 (by omega)).trans HI1.out.2.1)).mono ?_
              rintro e w10 ⟨rfl, cs4, A4, c4, h4, t4, r4, hO⟩
              have HD10 := Lib.hid (HD9.out.put hO h4 (HD9.out.ok.far r4 (by omega) (by omega)))
              have HO10 := Lib.hid (HO9.out.trans hO)
              have HB10 := Lib.hid (HB9.out.only hO (by have := HL9.out; omega))
              have HT10 := Lib.hid t4
              have HF10 := Lib.hid r4
              clear h4 t4 r4 hO b0 b1
              go_wp2_with (fail)
              refine (step3 db mb kt kw vb lb off c lgb rb sb lo st sw G s L cs4 q HQ.out hn2 _ _ _ _ _ _ HT10.out _ HD10.out).mono ?_
              rintro e w11 ⟨rfl, cs5, A5, c5, g5, h5, t5, r5, hge5, hrd5, hO⟩
              have HD11 := Lib.hid (HD10.out.put hO h5 (HD10.out.ok.far r5 (by omega) (by omega)))
              have HO11 := Lib.hid (HO10.out.trans hO)
              have HB11 := Lib.hid (HB10.out.only hO (by have := HL9.out; omega))
              have HT11 := Lib.hid t5
              have HF11 := Lib.hid (HF10.out.trans r5)
              have HRD5 := Lib.hid hrd5
              clear h5 t5 r5 hO hge5 hrd5 HT10 HF10
              go_wp2_with (fail)
              refine (reply3 db cs5 0 1 A5 16 c5 g5 z16 (by simp [z16]) z16_one (by omega) _ HRD5.out HD11.out.at' (HT11.out 9 (by omega)) (HT11.out 10 (by omega)) (HT11.out 11 (by omega)) (HT11.out 12 (by omega))).mono ?_
              rintro e w12 ⟨A6, c6, g6, rfl, hrd6, hO⟩
              obtain ⟨hge6, hrd6⟩ := hrd6 (by simp [z16])
              have HD12 := Lib.hid (HD11.out.quiet hO)
              have HO12 := Lib.hid (HO11.out.trans (hO.mono (fun _ _ h => h.elim)))
              have hB := HB11.out.only hO id
              have b0 := hB.cell 0
              have b1 := hB.cell 1
              have b2 := hB.cell 2
              have f0 := hB.frozen 0
              have f1 := hB.frozen 1
              have f2 := hB.frozen 2
              simp only [List.getElem?_toArray, List.getElem?_cons_zero, List.getElem?_cons_succ] at b0 b1 b2
              have hB3 := ((hB.set 0 (.int .i64 0)).set 1 (.int .i64 1)).set 2 (.slice A6 16 c6)
              simp only [List.setIfInBounds_toArray, List.set_cons_zero, List.set_cons_succ] at hB3
              have d0 := hB3.cell 0
              have d2 := hB3.cell 2
              simp only [List.getElem?_toArray, List.getElem?_cons_zero, List.getElem?_cons_succ] at d0 d2
              have o3 := (((Only.refl (fun i => i = w9.heap.size) w12).setCell (p := ⟨w9.heap.size, 0, none⟩) (fun _ => rfl) (.int .i64 0)).setCell (p := ⟨w9.heap.size, 1, none⟩) (fun _ => rfl) (.int .i64 1)).setCell (p := ⟨w9.heap.size, 2, none⟩) (fun _ => rfl) (.slice A6 16 c6)
              have HNU := Lib.hid (hrd6.only o3 (by have := HB11.out.lt; omega))
              have HOF := Lib.hid (HO12.out.trans' o3 (S := fun i => i = db) (fun i hi e => by have := HSZ9.out; omega))
              have HDF := Lib.hid (HD12.out.blk hB o3)
              clear hB hB3 hO hge6 hrd6
              go_wp2_with (fail)
              refine (number_none A6 c6 g6 _ HNU.out).mono ?_
              rintro e w13 ⟨rfl, rfl⟩
              clear b0 b1 b2 f0 f1 f2
              go_wp2_with (fail)
              go_roundw
              case rel => exact ⟨k + 1, cs5, by omega, by simp, HDF.out, ⟨(HF11.out.2 42 (by omega)).trans (HT8.out 4 (by omega)), HT11.out 4 (by omega), ((HF11.out.2 68 (by omega)).trans (HF8.out.2 68 (by omega))).trans HI1.out.2.2⟩, HOF.out⟩
              case measure => simp [intOf]; omega
            · have hk' : k = l.length := by omega
              subst hk'
              have i2 : decide ((l.length : Int) < l.length) = false := by simp
              go_wp2_with (fail)
              refine (submit4 db mb kt kw vb lb off c lgb rb sb lo st sw G s L cs1 _ HD1.out HI1.out.2.2).mono ?_
              rintro e w7 ⟨rfl, cs2, A2, c2, h2, t2, r2, hO⟩
              have HD7 := Lib.hid (HD1.out.put hO h2 (HD1.out.ok.far r2 (by omega) (by omega)))
              have HO7 := Lib.hid (HOr.out.trans hO)
              have HT7 := Lib.hid t2
              clear h2 t2 r2 hO
              go_wp2_with (fail)
              refine (step4 db mb kt kw vb lb off c lgb rb sb lo st sw G s L cs2 _ _ _ _ _ _ _ _ 0 none 0 0 HT7.out _ HD7.out).mono ?_
              rintro e w8 ⟨rfl, cs3, h3, t3, r3, hO⟩
              have HD8 := Lib.hid (HD7.out.put hO h3 r3)
              have HO8 := Lib.hid (HO7.out.trans hO)
              have HT8 := Lib.hid t3
              clear h3 t3 r3 hO HT7
              go_wp2_with (fail)
              refine (reply4 db cs3 0 0 none 0 0 0 [] rfl (by simp) (by omega) _ Rd.nil HD8.out.at' (HT8.out 9 (by omega)) (HT8.out 10 (by omega)) (HT8.out 11 (by omega)) (HT8.out 12 (by omega))).mono ?_
              rintro e w9 ⟨A9, c9, g9, rfl, -, hO⟩
              have oa := hO.alloc (.cells #[.int .i64 0, .int .i64 0, .slice A9 0 c9] 48)
              have HO9 := Lib.hid (HO8.out.trans (oa.mono (fun _ _ h => h.elim)))
              have hB := At.new w9 48 #[.int .i64 0, .int .i64 0, .slice A9 0 c9]
              have b0 := hB.cell 0
              simp only [List.getElem?_toArray, List.getElem?_cons_zero, List.getElem?_cons_succ] at b0
              have HWR := Lib.hid (wrong_any d ngb mp pp G _ #[] 0 _ (HNa.out.only HO9.out HNE.out.2.2 HNE.out.1 HNE.out.2.1))
              clear hO oa hB
              go_wp2_with (fail)
              refine HWR.out.mono ?_
              rintro e w10 ⟨rfl, rfl⟩
              go_wp2
              go_ret
              exact ⟨rfl, HOa.out.trans' HO9.out (S := fun _ => False) (fun i hi e => by have := HSZ.out; omega)⟩
    · have i1 : decide (60 < l.length) = true := decide_eq_true (by omega)
      have i1' : decide ((60 : Int) < l.length) = true := decide_eq_true (by omega)
      go_wp2
      go_ret
      exact ⟨rfl, HO2.out⟩
end Go.Proofs.YtjobaplioidogaaGreat
