/- Top: the disk begun over a device. -/
import Derived.Test.YtjobaplioidogaaGreatAM
namespace Go.Proofs.YtjobaplioidogaaGreat
open Go.RowKit

theorem goodsL_at (n : Nat) (l : List Bk) (un : Nat) {i : Nat} : ∀ k, i < k → (goodsL n l un k).getD i 0 = goodTo n l i un := by
  intro k
  induction k with
  | zero => intro h; omega
  | succ k ih =>
    intro h
    simp only [goodsL, List.getD]
    by_cases hk : i < k
    · rw [List.getElem?_append_left (by rw [goodsL_len]; exact hk)]
      exact ih hk
    · obtain rfl : i = k := by omega
      rw [List.getElem?_append_right (by rw [goodsL_len]; exact Nat.le_refl _), goodsL_len]
      simp
theorem newL_at (good wear : List Int) {i : Nat} : ∀ k, i < k → ((newL good wear k).getD i ⟨0, 0, 0⟩).g = good.getD i 0 := by
  intro k
  induction k with
  | zero => intro h; omega
  | succ k ih =>
    intro h
    simp only [newL]
    by_cases hk : i < k
    · rw [List.getD_eq_getElem?_getD, List.getElem?_append_left (by rw [newL_len]; exact hk), ← List.getD_eq_getElem?_getD]
      exact ih hk
    · obtain rfl : i = k := by omega
      rw [List.getD_eq_getElem?_getD, List.getElem?_append_right (by rw [newL_len]; exact Nat.le_refl _), newL_len]
      simp
theorem capTo_rms (G : Ge) (good wear : List Int) (k : Nat) : ∀ j, j ≤ k → capTo G (newL good wear k) j = rmsTo G good j
  | 0, _ => rfl
  | j + 1, h => by
    simp only [capTo, rmsTo]
    rw [capTo_rms G good wear k j (by omega), newL_at good wear k (by omega)]
theorem goodsL_ok {G : Ge} (hI : G.Is) (l : List Bk) : gsOk (goodsL G.b.toNat l G.u.toNat G.b.toNat) := by
  intro z hz
  obtain ⟨i, hi, rfl⟩ := List.getElem_of_mem hz
  have hi' := hi
  rw [goodsL_len] at hi'
  have h1 := goodsL_at G.b.toNat l G.u.toNat G.b.toNat hi'
  rw [List.getD_eq_getElem?_getD, List.getElem?_eq_getElem hi] at h1
  simp only [Option.getD_some] at h1
  rw [h1]
  have h2 := goodTo_bd G.b.toNat l i G.u.toNat
  have hu : 1 ≤ G.u ∧ G.u ≤ 8 := hI.u
  omega
theorem mount_gOk {G : Ge} (hI : G.Is) (l : List Bk) : gOk (mountL G l) := by
  intro x hx
  obtain ⟨i, hi, rfl⟩ := List.getElem_of_mem hx
  have hi' := hi
  unfold mountL at hi'
  rw [newL_len] at hi'
  have h1 := newL_at (goodsL G.b.toNat l G.u.toNat G.b.toNat) (List.replicate G.b.toNat 0) G.b.toNat hi'
  have h2 : ((newL (goodsL G.b.toNat l G.u.toNat G.b.toNat) (List.replicate G.b.toNat 0) G.b.toNat).getD i ⟨0, 0, 0⟩) = (mountL G l)[i] := by
    rw [List.getD_eq_getElem?_getD, List.getElem?_eq_getElem (by exact hi)]; rfl
  rw [h2] at h1
  rw [h1]
  exact (goodsL_ok hI l).at i
/-- A disk is read only just where its document says so. -/
theorem ro_law {G : Ge} (s : Sg) (l : List Bk) : roB G s (mountL G l) = decide (rmsTo G (goodsL G.b.toNat l G.u.toNat G.b.toNat) G.b.toNat < 2 * s.n + 5 * G.fl) := by
  unfold roB mountL
  rw [newL_len, capTo_rms _ _ _ _ _ (Nat.le_refl _)]

/-- A store into the device changes nothing of the disk. -/
theorem DAt.dev {w w' : World} {db mb kt kw vb lb off c gb rb sb lo : Nat} {st sw : Nat → Sh} {G : Ge} {s : Sg} {l : List Ln} {cs : Array Value} (k : DAt w db G s l cs mb kt kw vb st sw lb off c gb rb sb lo) {d : Nat} {xs : Array Value} (hx : At w d 95 xs) (o : Only (fun i => i = d) w w') : DAt w' db G s l cs mb kt kw vb st sw lb off c gb rb sb lo :=
  ⟨k.at'.only o (k.at'.ne hx (by decide)), k.ok,
   ⟨k.map.hd.only o (k.map.hd.ne hx (by decide)), k.map.tt.far hx (by decide) (by decide) o, k.map.who.far hx (by decide) (by decide) o, k.map.val.only o (k.map.val.ne hx (by decide)), k.map.is, k.map.len, k.map.nt, k.map.nw, k.map.ge⟩,
   k.lns.only o (k.lns.st.ne hx (by decide)) (k.lns.row.neAt hx (by simp) (by decide)),
   k.ring.only o (fun e => by obtain ⟨v, hv⟩ := k.ring; exact hv.ne hx (by decide) e),
   map_at k.stp o (fun e => by have h1 := hx; have h2 := k.stp; unfold At at h1; rw [e, h1] at h2; cases h2)⟩

def BegunP (G : Ge) (s : Sg) (bad : List Int) (w : World) (e : Ending) (w' : World) : Prop :=
  ((∃ z ∈ bad, z < 0 ∨ G.u * G.b ≤ z) ∧ e = .returned (.tuple #[.pointer none, .pointer none]) ∧ Only (fun _ => False) w w') ∨
  (∃ d ngb mp pp db mb kt kw vb lb off c gb rb sb lo, ∃ (st sw : Nat → Sh) (cs : Array Value), (∀ z ∈ bad, 0 ≤ z ∧ z < G.u * G.b) ∧ e = .returned (.tuple #[.pointer (some ⟨d, 0, none⟩), .pointer (some ⟨db, 0, none⟩)]) ∧
    NAt w' d ngb mp pp G (mkBs (G.u * G.b).toNat bad) #[] 0 ∧ DAt w' db G s (mountL G (mkBs (G.u * G.b).toNat bad)) cs mb kt kw vb st sw lb off c gb rb sb lo ∧ Idle cs ∧ w.heap.size ≤ db ∧ ngb ≠ db ∧ mp ≠ db ∧ d ≠ db ∧ Only (fun _ => False) w w')

set_option maxRecDepth 100000 in
set_option maxHeartbeats 16000000 in
theorem begun_any (G : Ge) (s : Sg) (h : dOk G s = true) (bad : List Int) (Ab : Option Addr) (cb gs : Nat) (pl : List Int) (Ap : Option Addr) (cp gp : Nat) (w : World) (hr : Rd w gs Ab (bad.map (Value.int .i64))) (hb100 : bad.length ≤ 100) (hp : Rd w gp Ap (bv pl)) (hp3 : pl.length ≤ 300) :
    Calls Tryz.prog 6 #[.agg (setV G s Ab bad.length cb Ap pl.length cp)] w (BegunP G s bad w) := by
  obtain ⟨hI, -⟩ := dOk_all h
  have HBX := Lib.hid (At.new w 29 (setV G s Ab bad.length cb Ap pl.length cp))
  have HO0 := Lib.hid ((Only.refl (fun _ => False) w).alloc (.cells (setV G s Ab bad.length cb Ap pl.length cp) 29))
  have HNW := Lib.hid (nand_walk G hI bad Ab cb gs _ (hr.only HO0.out id) hb100)
  have HOP := Lib.hid (fun d gb mp pp W k => open_none d gb mp pp G (mkBs (G.u * G.b).toNat bad) 0 s h W k)
  have HSP := Lib.hid (fun d gb mp pp W k (o : Only (fun _ => False) w W) => setPlan_any d gb mp pp G (mkBs (G.u * G.b).toNat bad) #[] 0 pl Ap cp gp W k (hp.only o id) (by omega))
  have HIU := Lib.hid (u_mul hI)
  unfold BegunP
  generalize G.u * G.b = N at *
  generalize mkBs N.toNat bad = L at *
  have HV := Lib.hid (show setV G s Ab bad.length cb Ap pl.length cp = #[.int .i64 G.c, .int .i64 G.l, .int .i64 G.b, .int .i64 G.p, .int .i64 G.s, .int .i64 s.n, .int .i64 s.r, .slice Ab bad.length cb, .slice Ap pl.length cp] from rfl)
  have HQ := Lib.hid (show G.val = .agg #[.int .i64 G.c, .int .i64 G.l, .int .i64 G.b, .int .i64 G.p, .int .i64 G.s] from rfl)
  have HQs := Lib.hid (show s.val = .agg #[.int .i64 s.n, .int .i64 s.r] from rfl)
  rw [HV.out] at HBX HO0 HNW ⊢
  rw [HQ.out] at HNW
  rw [HQs.out] at HOP
  clear hr hp h hI HV HQ HQs
  have x0 := HBX.out.cell 0
  have x1 := HBX.out.cell 1
  have x2 := HBX.out.cell 2
  have x3 := HBX.out.cell 3
  have x4 := HBX.out.cell 4
  have x7 := HBX.out.cell 7
  simp only [List.getElem?_toArray, List.getElem?_cons_zero, List.getElem?_cons_succ] at x0 x1 x2 x3 x4 x7
  go_enter Tryz.func6, Tryz.ntmps6
  go_wp2_with (fail)
  refine HNW.out.mono ?_
  rintro e w1 (⟨hbad, d, gb, mp, pp, rfl, hk, -, hge, hO⟩ | ⟨hbad, rfl, hO⟩)
  · have HBAD := Lib.hid hbad
    have HGE := Lib.hid hge.1
    clear hge
    have hx := HBX.out.only hO id
    have HX := Lib.hid hx
    have HO1 := Lib.hid (HO0.out.trans hO)
    have HK1 := Lib.hid hk
    clear hbad hk hO x0 x1 x2 x3 x4 x7
    have y5 := hx.cell 5
    have y6 := hx.cell 6
    simp only [List.getElem?_toArray, List.getElem?_cons_zero, List.getElem?_cons_succ] at y5 y6
    clear hx
    go_wp2_with (fail)
    refine (HOP.out d gb mp pp _ HK1.out).mono ?_
    rintro e w2 ⟨db, cs, mb, kt, kw, vb, st, sw, lb, off, c, lgb, rb, sb, rfl, hD, hid, hsz, hO⟩
    have hx2 := HX.out.only hO id
    have HD := Lib.hid hD
    have HID := Lib.hid hid
    have HSZ := Lib.hid hsz
    have HO2 := Lib.hid (HO1.out.trans hO)
    have HK2 := Lib.hid (HK1.out.quiet hO)
    clear hD hid hsz hO y5 y6
    have z8 := hx2.cell 8
    simp only [List.getElem?_toArray, List.getElem?_cons_zero, List.getElem?_cons_succ] at z8
    clear hx2
    go_wp2_with (fail)
    refine (HSP.out d gb mp pp _ HK2.out HO2.out).mono ?_
    rintro e w3 ⟨rfl, ⟨pp', hK3⟩, hO3⟩
    have HK3 := Lib.hid hK3
    have HO3 := Lib.hid hO3
    clear hK3 hO3 z8
    go_wp2
    go_ret2
    have hlt := HK1.out.lts
    have hs := HSZ.out
    exact .inr ⟨d, gb, mp, pp', db, mb, kt, kw, vb, lb, off, c, lgb, rb, sb, _, st, sw, cs, HBAD.out, rfl, HK3.out, HD.out.dev HK2.out.st HO3.out, HID.out, Nat.le_trans HO1.out.size hs, by omega, by omega, by omega, HO2.out.trans' HO3.out (fun i hi e => by have := HGE.out; simp at this; omega)⟩
  · have HBAD := Lib.hid hbad
    have HO1 := Lib.hid (HO0.out.trans hO)
    clear hbad hO x0 x1 x2 x3 x4 x7
    go_wp2
    go_ret2
    exact .inl ⟨HBAD.out, rfl, HO1.out⟩
end Go.Proofs.YtjobaplioidogaaGreat
