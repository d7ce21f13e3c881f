/- Top: a call is right, is handed in, is answered. -/
import Derived.Test.YtjobaplioidogaaGreatAG
namespace Go.Proofs.YtjobaplioidogaaGreat
open Go.RowKit

/-- A call. -/
def clv (op lba n : Int) (A : Option Addr) (m c : Nat) : Value := .agg #[.int .i64 op, .int .i64 lba, .int .i64 n, .slice A m c]

set_option maxRecDepth 100000 in
set_option maxHeartbeats 8000000 in
theorem right2 (db mb kt kw vb lb off c gb rb sb lo : Nat) (st sw : Nat → Sh) (G : Ge) (s : Sg) (l : List Ln) (cs : Array Value) (i : Nat) (hi : i < s.n.toNat) (hn : s.n ≤ 4096) (A : Option Addr) (c' : Nat) (w : World) (k : DAt w db G s l cs mb kt kw vb st sw lb off c gb rb sb lo) :
    Calls Tryz.prog 31 #[.pointer (some ⟨db, 0, none⟩), clv 2 i 1 A 16 c'] w fun e w' => e = .returned (.int .i64 0) ∧ Only (fun _ => False) w w' := by
  have hX := At.new w 45 #[.int .i64 2, .int .i64 i, .int .i64 1, .slice A 16 c']
  have hO := (Only.refl (fun _ => False) w).alloc (.cells #[.int .i64 2, .int .i64 i, .int .i64 1, .slice A 16 c'] 45)
  have k1 := k.quiet hO
  have c132 := (k1.cell 132).trans k1.ok.cl
  have c6 := (k1.cell 6).trans k1.ok.n
  have x0 := hX.cell 0
  have x1 := hX.cell 1
  have x2 := hX.cell 2
  have x3 := hX.cell 3
  simp only [List.getElem?_toArray, List.getElem?_cons_zero, List.getElem?_cons_succ] at x0 x1 x2 x3
  have d1 : decide ((i : Int) < 0) = false := decide_eq_false (by omega)
  have d2 : decide (s.n ≤ (i : Int)) = false := decide_eq_false (by omega)
  have d2' : decide ((i : Int) ≥ s.n) = false := decide_eq_false (by omega)
  have e1 : IntKind.i64.wrap (s.n - i) = s.n - i := IntWalk.i64_in _ (by omega)
  have e1' : wrap64 (s.n - i) = s.n - i := by rw [← IntWalk.i64_left]; exact e1
  have d3 : decide (s.n - (i : Int) < 1) = false := decide_eq_false (by omega)
  have HO := Lib.hid hO
  clear k k1 hX hO
  unfold clv
  go_enter Tryz.func31, Tryz.ntmps31
  go_upto_region 5 with (fail)
  go_region
  go_wp2
  go_ret
  exact ⟨rfl, HO.out.drew⟩

set_option maxRecDepth 100000 in
set_option maxHeartbeats 8000000 in
theorem right1 (db mb kt kw vb lb off c gb rb sb lo : Nat) (st sw : Nat → Sh) (G : Ge) (s : Sg) (l : List Ln) (cs : Array Value) (i : Nat) (hi : i < s.n.toNat) (hn : s.n ≤ 4096) (A : Option Addr) (m c' : Nat) (w : World) (k : DAt w db G s l cs mb kt kw vb st sw lb off c gb rb sb lo) :
    Calls Tryz.prog 31 #[.pointer (some ⟨db, 0, none⟩), clv 1 i 1 A m c'] w fun e w' => e = .returned (.int .i64 0) ∧ Only (fun _ => False) w w' := by
  have hX := At.new w 45 #[.int .i64 1, .int .i64 i, .int .i64 1, .slice A m c']
  have hO := (Only.refl (fun _ => False) w).alloc (.cells #[.int .i64 1, .int .i64 i, .int .i64 1, .slice A m c'] 45)
  have k1 := k.quiet hO
  have c132 := (k1.cell 132).trans k1.ok.cl
  have c6 := (k1.cell 6).trans k1.ok.n
  have x0 := hX.cell 0
  have x1 := hX.cell 1
  have x2 := hX.cell 2
  have x3 := hX.cell 3
  simp only [List.getElem?_toArray, List.getElem?_cons_zero, List.getElem?_cons_succ] at x0 x1 x2 x3
  have d1 : decide ((i : Int) < 0) = false := decide_eq_false (by omega)
  have d2 : decide (s.n ≤ (i : Int)) = false := decide_eq_false (by omega)
  have d2' : decide ((i : Int) ≥ s.n) = false := decide_eq_false (by omega)
  have e1 : IntKind.i64.wrap (s.n - i) = s.n - i := IntWalk.i64_in _ (by omega)
  have e1' : wrap64 (s.n - i) = s.n - i := by rw [← IntWalk.i64_left]; exact e1
  have d3 : decide (s.n - (i : Int) < 1) = false := decide_eq_false (by omega)
  have HO := Lib.hid hO
  clear k k1 hX hO
  unfold clv
  go_enter Tryz.func31, Tryz.ntmps31
  go_upto_region 5 with (fail)
  go_region
  go_wp2
  go_ret
  exact ⟨rfl, HO.out.drew⟩

set_option maxRecDepth 100000 in
set_option maxHeartbeats 8000000 in
theorem right4 (db mb kt kw vb lb off c gb rb sb lo : Nat) (st sw : Nat → Sh) (G : Ge) (s : Sg) (l : List Ln) (cs : Array Value) (A : Option Addr) (m c' : Nat) (w : World) (k : DAt w db G s l cs mb kt kw vb st sw lb off c gb rb sb lo) :
    Calls Tryz.prog 31 #[.pointer (some ⟨db, 0, none⟩), clv 4 0 0 A m c'] w fun e w' => e = .returned (.int .i64 0) ∧ Only (fun _ => False) w w' := by
  have hX := At.new w 45 #[.int .i64 4, .int .i64 0, .int .i64 0, .slice A m c']
  have hO := (Only.refl (fun _ => False) w).alloc (.cells #[.int .i64 4, .int .i64 0, .int .i64 0, .slice A m c'] 45)
  have k1 := k.quiet hO
  have c132 := (k1.cell 132).trans k1.ok.cl
  have c6 := (k1.cell 6).trans k1.ok.n
  have x0 := hX.cell 0
  have x1 := hX.cell 1
  have x2 := hX.cell 2
  have x3 := hX.cell 3
  simp only [List.getElem?_toArray, List.getElem?_cons_zero, List.getElem?_cons_succ] at x0 x1 x2 x3
  have HO := Lib.hid hO
  clear k k1 hX hO
  unfold clv
  go_enter Tryz.func31, Tryz.ntmps31
  go_wp2
  go_ret
  exact ⟨rfl, HO.out.mono (fun _ _ h => h)⟩

end Go.Proofs.YtjobaplioidogaaGreat

namespace Go.Proofs.YtjobaplioidogaaGreat
open Go.RowKit

theorem thr2 (cs : Array Value) (hs : cs.size = 139) (i : Nat) (A1 : Option Addr) (c1 : Nat) : Thr (((((((((((((cs.setIfInBounds 38 (.int .i64 2)).setIfInBounds 39 (.int .i64 i)).setIfInBounds 40 (.int .i64 1)).setIfInBounds 41 (.slice A1 16 c1)).setIfInBounds 42 (.bool true)).setIfInBounds 43 (.bool false)).setIfInBounds 44 (.int .i64 0)).setIfInBounds 45 (.int .i64 0)).setIfInBounds 46 (.slice none 0 0)).setIfInBounds 47 (.bool false)).setIfInBounds 48 (.int .i64 0)).setIfInBounds 49 (.int .i64 0)).setIfInBounds 50 (.slice none 0 0)) 38 [.int .i64 2, .int .i64 i, .int .i64 1, .slice A1 16 c1, .bool true, .bool false, .int .i64 0, .int .i64 0, .slice none 0 0, .bool false, .int .i64 0, .int .i64 0, .slice none 0 0] ∧ Far 38 cs (((((((((((((cs.setIfInBounds 38 (.int .i64 2)).setIfInBounds 39 (.int .i64 i)).setIfInBounds 40 (.int .i64 1)).setIfInBounds 41 (.slice A1 16 c1)).setIfInBounds 42 (.bool true)).setIfInBounds 43 (.bool false)).setIfInBounds 44 (.int .i64 0)).setIfInBounds 45 (.int .i64 0)).setIfInBounds 46 (.slice none 0 0)).setIfInBounds 47 (.bool false)).setIfInBounds 48 (.int .i64 0)).setIfInBounds 49 (.int .i64 0)).setIfInBounds 50 (.slice none 0 0)) := by
  have hs' : 38 + 13 ≤ cs.size := by omega
  constructor
  · intro j hj
    have hc : j = 0 ∨ j = 1 ∨ j = 2 ∨ j = 3 ∨ j = 4 ∨ j = 5 ∨ j = 6 ∨ j = 7 ∨ j = 8 ∨ j = 9 ∨ j = 10 ∨ j = 11 ∨ j = 12 := by omega
    rcases hc with rfl | rfl | rfl | rfl | rfl | rfl | rfl | rfl | rfl | rfl | rfl | rfl | rfl <;> simp [Array.getElem?_setIfInBounds, hs]
  · exact (((((((((((((Far.refl 38 cs).set 0 (by omega) _).set 1 (by omega) _).set 2 (by omega) _).set 3 (by omega) _).set 4 (by omega) _).set 5 (by omega) _).set 6 (by omega) _).set 7 (by omega) _).set 8 (by omega) _).set 9 (by omega) _).set 10 (by omega) _).set 11 (by omega) _).set 12 (by omega) _

set_option maxRecDepth 100000 in
set_option maxHeartbeats 16000000 in
theorem submit2 (db mb kt kw vb lb off c gb rb sb lo : Nat) (st sw : Nat → Sh) (G : Ge) (s : Sg) (l : List Ln) (cs : Array Value) (i : Nat) (hi : i < s.n.toNat) (hn : s.n ≤ 4096) (A : Option Addr) (c' g : Nat) (xs : List Value) (hx : xs.length = 16) (h1 : ∀ u ∈ xs, u.oneCell' = true) (w : World) (hr : Rd w g A xs) (k : DAt w db G s l cs mb kt kw vb st sw lb off c gb rb sb lo) (hg : cs[42]? = some (.bool false)) :
    Calls Tryz.prog 11 #[.pointer (some ⟨db, 0, none⟩), .int .i64 2, clv 2 i 1 A 16 c'] w fun e w' => e = .returned (.int .i64 0) ∧ ∃ cs' A1 c1, At w' db 81 cs' ∧ Thr cs' 38 [.int .i64 2, .int .i64 i, .int .i64 1, .slice A1 16 c1, .bool true, .bool false, .int .i64 0, .int .i64 0, .slice none 0 0, .bool false, .int .i64 0, .int .i64 0, .slice none 0 0] ∧ Far 38 cs cs' ∧ Only (fun i => i = db) w w' := by
  obtain ⟨i0, hi0⟩ : ∃ i, Tryz.prog.info? 5 = some i := ⟨_, rfl⟩
  have HI := Lib.hid (And.intro hi0 (And.intro (show i0.zero = some (.int .u8 0) by cases hi0; rfl) (And.intro (show i0.size = 1 by cases hi0; rfl) (show i0.bytes = 1 by cases hi0; rfl))))
  have hX := At.new w 45 #[.int .i64 2, .int .i64 i, .int .i64 1, .slice A 16 c']
  have hO := (Only.refl (fun _ => False) w).alloc (.cells #[.int .i64 2, .int .i64 i, .int .i64 1, .slice A 16 c'] 45)
  have k1 := k.quiet hO
  have c131 := (k1.cell 131).trans k1.ok.off
  have c42 := (k1.cell 42).trans hg
  have x0 := hX.cell 0
  simp only [List.getElem?_toArray, List.getElem?_cons_zero, List.getElem?_cons_succ] at x0
  have hO2 := hO.alloc (.cells #[] 5)
  have hX2 := hX.alloc (.cells #[] 5)
  have y3 := hX2.cell 3
  simp only [List.getElem?_toArray, List.getElem?_cons_zero, List.getElem?_cons_succ] at y3
  have HOWN := Lib.hid (ownsRow_fresh (w.alloc (.cells #[.int .i64 2, .int .i64 i, .int .i64 1, .slice A 16 c'] 45)) 5 1)
  have HR : Hid (Rd ((w.alloc (.cells #[.int .i64 2, .int .i64 i, .int .i64 1, .slice A 16 c'] 45)).alloc (.cells #[] 5)) g A xs) := Lib.hid ((hr.only hO id).only ((Only.refl (fun _ => False) _).alloc _) id)
  have HX := Lib.hid hX2
  have HB := Lib.hid (k.quiet hO2)
  have HO := Lib.hid hO2
  have HLT := Lib.hid k.at'.lt
  have HSZ := Lib.hid k.ok.sz
  have HOK := Lib.hid k.ok
  have HK := Lib.hid k
  have HW := Lib.hid (fun (W : World) (cs2 : Array Value) (A1 : Option Addr) (c1 : Nat) (k2 : DAt W db G s l cs2 mb kt kw vb st sw lb off c gb rb sb lo) => right2 db mb kt kw vb lb off c gb rb sb lo st sw G s l cs2 i hi hn A1 c1 W k2)
  obtain ⟨v0, hv0⟩ := getElem_some k.ok.sz 38 (by omega)
  obtain ⟨v1, hv1⟩ := getElem_some k.ok.sz 39 (by omega)
  obtain ⟨v2, hv2⟩ := getElem_some k.ok.sz 40 (by omega)
  obtain ⟨v3, hv3⟩ := getElem_some k.ok.sz 41 (by omega)
  obtain ⟨v4, hv4⟩ := getElem_some k.ok.sz 42 (by omega)
  obtain ⟨v5, hv5⟩ := getElem_some k.ok.sz 43 (by omega)
  obtain ⟨v6, hv6⟩ := getElem_some k.ok.sz 44 (by omega)
  obtain ⟨v7, hv7⟩ := getElem_some k.ok.sz 45 (by omega)
  obtain ⟨v8, hv8⟩ := getElem_some k.ok.sz 46 (by omega)
  obtain ⟨v9, hv9⟩ := getElem_some k.ok.sz 47 (by omega)
  obtain ⟨v10, hv10⟩ := getElem_some k.ok.sz 48 (by omega)
  obtain ⟨v11, hv11⟩ := getElem_some k.ok.sz 49 (by omega)
  obtain ⟨v12, hv12⟩ := getElem_some k.ok.sz 50 (by omega)
  have HV0 := Lib.hid hv0
  have HV1 := Lib.hid hv1
  have HV2 := Lib.hid hv2
  have HV3 := Lib.hid hv3
  have HV4 := Lib.hid hv4
  have HV5 := Lib.hid hv5
  have HV6 := Lib.hid hv6
  have HV7 := Lib.hid hv7
  have HV8 := Lib.hid hv8
  have HV9 := Lib.hid hv9
  have HV10 := Lib.hid hv10
  have HV11 := Lib.hid hv11
  have HV12 := Lib.hid hv12
  clear k k1 hO hX hi0 hO2 hX2 hg hv0 hv1 hv2 hv3 hv4 hv5 hv6 hv7 hv8 hv9 hv10 hv11 hv12
  unfold clv at *
  go_enter Tryz.func11, Tryz.ntmps11
  go_wp2_with (at_builtin; go_loud (refine wpList_append_src _ rfl (.tmp 38) (.tmp 40) 27 rfl (w.heap.size + 1) 5 i0 (.int .u8 0) 1 1 Tryz.underlying27 HI.out.1 HI.out.2.1 HI.out.2.2.1 HI.out.2.2.2 rfl (by decide) (.slice (some ⟨w.heap.size + 1, 0, none⟩) 0 0) 0 [] rfl (by simpa using HOWN.out) g A 16 c' xs rfl hx HR.out h1 (by unfold maxLen; omega) (by omega) (by simp) ?_); intro A1 c1 w2 hc1 hown1 hg1 hat; have HG := Lib.hid (Only.of_grown hg1); have hX2 := HX.out.only HG.out (fun e => by simp [Value.ownBlock] at e); have x3 := hX2.cell 3; have f3 := hX2.frozen 3; have hX9 := hX2.set 3 (.slice A1 16 c1); have z0 := hX9.cell 0; have z1 := hX9.cell 1; have z2 := hX9.cell 2; have z3 := hX9.cell 3; simp only [List.getElem?_toArray, List.getElem?_cons_zero, List.getElem?_cons_succ, List.setIfInBounds_toArray, List.set_cons_zero, List.set_cons_succ] at x3 z0 z1 z2 z3 hX9; have hB2 := HB.out.at'.only HG.out (fun e => by have := HLT.out; simp [Value.ownBlock] at e; omega); have hB9 := hB2.far (p := ⟨w.heap.size, 3, none⟩) (fun e => by have := HLT.out; simp at e; omega) (.slice A1 16 c1); have c38 := (hB9.cell 38).trans HV0.out; have f38 := hB9.frozen 38; have c39 := (hB9.cell 39).trans HV1.out; have f39 := hB9.frozen 39; have c40 := (hB9.cell 40).trans HV2.out; have f40 := hB9.frozen 40; have c41 := (hB9.cell 41).trans HV3.out; have f41 := hB9.frozen 41; have c42 := (hB9.cell 42).trans HV4.out; have f42 := hB9.frozen 42; have c43 := (hB9.cell 43).trans HV5.out; have f43 := hB9.frozen 43; have c44 := (hB9.cell 44).trans HV6.out; have f44 := hB9.frozen 44; have c45 := (hB9.cell 45).trans HV7.out; have f45 := hB9.frozen 45; have c46 := (hB9.cell 46).trans HV8.out; have f46 := hB9.frozen 46; have c47 := (hB9.cell 47).trans HV9.out; have f47 := hB9.frozen 47; have c48 := (hB9.cell 48).trans HV10.out; have f48 := hB9.frozen 48; have c49 := (hB9.cell 49).trans HV11.out; have f49 := hB9.frozen 49; have c50 := (hB9.cell 50).trans HV12.out; have f50 := hB9.frozen 50; have HX9 := Lib.hid hX9; have HB9 := Lib.hid hB9; have hO9 := ((HO.out.trans' HG.out (S := fun _ => False) (fun i hi h => by simp [Value.ownBlock] at h; omega)).setCell (p := ⟨w.heap.size, 3, none⟩) (fun e => absurd e (Nat.lt_irrefl _)) (.slice A1 16 c1)); have HO9 := Lib.hid hO9; clear hown1 hg1 hat hc1 hX2 hX9 hB2 hB9 hO9)
  have h10 := (((((((((((((HB9.out.set 38 (.int .i64 2)).set 39 (.int .i64 i)).set 40 (.int .i64 1)).set 41 (.slice A1 16 c1)).set 42 (.bool true)).set 43 (.bool false)).set 44 (.int .i64 0)).set 45 (.int .i64 0)).set 46 (.slice none 0 0)).set 47 (.bool false)).set 48 (.int .i64 0)).set 49 (.int .i64 0)).set 50 (.slice none 0 0))
  have hthr := thr2 cs HSZ.out i A1 c1
  have o10 := (((((((((((((HO9.out.mono (T := fun i => i = db) (fun _ _ h => h.elim)).setCell (p := ⟨db, 38, none⟩) (fun _ => rfl) (.int .i64 2)).setCell (p := ⟨db, 39, none⟩) (fun _ => rfl) (.int .i64 i)).setCell (p := ⟨db, 40, none⟩) (fun _ => rfl) (.int .i64 1)).setCell (p := ⟨db, 41, none⟩) (fun _ => rfl) (.slice A1 16 c1)).setCell (p := ⟨db, 42, none⟩) (fun _ => rfl) (.bool true)).setCell (p := ⟨db, 43, none⟩) (fun _ => rfl) (.bool false)).setCell (p := ⟨db, 44, none⟩) (fun _ => rfl) (.int .i64 0)).setCell (p := ⟨db, 45, none⟩) (fun _ => rfl) (.int .i64 0)).setCell (p := ⟨db, 46, none⟩) (fun _ => rfl) (.slice none 0 0)).setCell (p := ⟨db, 47, none⟩) (fun _ => rfl) (.bool false)).setCell (p := ⟨db, 48, none⟩) (fun _ => rfl) (.int .i64 0)).setCell (p := ⟨db, 49, none⟩) (fun _ => rfl) (.int .i64 0)).setCell (p := ⟨db, 50, none⟩) (fun _ => rfl) (.slice none 0 0)
  have k10 := HK.out.put o10 h10 (HOK.out.far hthr.2 (by omega) (by omega))
  refine (HW.out _ _ A1 c1 k10).mono ?_
  rintro e w3 ⟨rfl, hO3⟩
  have H3 := Lib.hid (h10.only hO3 id)
  have O3 := Lib.hid (o10.trans (hO3.mono (fun _ _ h => h.elim)))
  have HTH := Lib.hid hthr
  clear h10 hthr o10 k10 hO3
  clear c38 f38 c39 f39 c40 f40 c41 f41 c42 f42 c43 f43 c44 f44 c45 f45 c46 f46 c47 f47 c48 f48 c49 f49 c50 f50
  go_wp2
  go_ret
  exact ⟨rfl, _, A1, c1, H3.out, HTH.out.1, HTH.out.2, O3.out⟩

theorem thr3 (cs : Array Value) (hs : cs.size = 139) (i : Nat) (A1 : Option Addr) (c1 : Nat) : Thr (((((((((((((cs.setIfInBounds 51 (.int .i64 1)).setIfInBounds 52 (.int .i64 i)).setIfInBounds 53 (.int .i64 1)).setIfInBounds 54 (.slice A1 0 c1)).setIfInBounds 55 (.bool true)).setIfInBounds 56 (.bool false)).setIfInBounds 57 (.int .i64 0)).setIfInBounds 58 (.int .i64 0)).setIfInBounds 59 (.slice none 0 0)).setIfInBounds 60 (.bool false)).setIfInBounds 61 (.int .i64 0)).setIfInBounds 62 (.int .i64 0)).setIfInBounds 63 (.slice none 0 0)) 51 [.int .i64 1, .int .i64 i, .int .i64 1, .slice A1 0 c1, .bool true, .bool false, .int .i64 0, .int .i64 0, .slice none 0 0, .bool false, .int .i64 0, .int .i64 0, .slice none 0 0] ∧ Far 51 cs (((((((((((((cs.setIfInBounds 51 (.int .i64 1)).setIfInBounds 52 (.int .i64 i)).setIfInBounds 53 (.int .i64 1)).setIfInBounds 54 (.slice A1 0 c1)).setIfInBounds 55 (.bool true)).setIfInBounds 56 (.bool false)).setIfInBounds 57 (.int .i64 0)).setIfInBounds 58 (.int .i64 0)).setIfInBounds 59 (.slice none 0 0)).setIfInBounds 60 (.bool false)).setIfInBounds 61 (.int .i64 0)).setIfInBounds 62 (.int .i64 0)).setIfInBounds 63 (.slice none 0 0)) := by
  have hs' : 51 + 13 ≤ cs.size := by omega
  constructor
  · intro j hj
    have hc : j = 0 ∨ j = 1 ∨ j = 2 ∨ j = 3 ∨ j = 4 ∨ j = 5 ∨ j = 6 ∨ j = 7 ∨ j = 8 ∨ j = 9 ∨ j = 10 ∨ j = 11 ∨ j = 12 := by omega
    rcases hc with rfl | rfl | rfl | rfl | rfl | rfl | rfl | rfl | rfl | rfl | rfl | rfl | rfl <;> simp [Array.getElem?_setIfInBounds, hs]
  · exact (((((((((((((Far.refl 51 cs).set 0 (by omega) _).set 1 (by omega) _).set 2 (by omega) _).set 3 (by omega) _).set 4 (by omega) _).set 5 (by omega) _).set 6 (by omega) _).set 7 (by omega) _).set 8 (by omega) _).set 9 (by omega) _).set 10 (by omega) _).set 11 (by omega) _).set 12 (by omega) _

set_option maxRecDepth 100000 in
set_option maxHeartbeats 16000000 in
theorem submit3 (db mb kt kw vb lb off c gb rb sb lo : Nat) (st sw : Nat → Sh) (G : Ge) (s : Sg) (l : List Ln) (cs : Array Value) (i : Nat) (hi : i < s.n.toNat) (hn : s.n ≤ 4096) (w : World) (k : DAt w db G s l cs mb kt kw vb st sw lb off c gb rb sb lo) (hg : cs[55]? = some (.bool false)) :
    Calls Tryz.prog 11 #[.pointer (some ⟨db, 0, none⟩), .int .i64 3, clv 1 i 1 none 0 0] w fun e w' => e = .returned (.int .i64 0) ∧ ∃ cs' A1 c1, At w' db 81 cs' ∧ Thr cs' 51 [.int .i64 1, .int .i64 i, .int .i64 1, .slice A1 0 c1, .bool true, .bool false, .int .i64 0, .int .i64 0, .slice none 0 0, .bool false, .int .i64 0, .int .i64 0, .slice none 0 0] ∧ Far 51 cs cs' ∧ Only (fun i => i = db) w w' := by
  obtain ⟨i0, hi0⟩ : ∃ i, Tryz.prog.info? 5 = some i := ⟨_, rfl⟩
  have HI := Lib.hid (And.intro hi0 (And.intro (show i0.zero = some (.int .u8 0) by cases hi0; rfl) (And.intro (show i0.size = 1 by cases hi0; rfl) (show i0.bytes = 1 by cases hi0; rfl))))
  have hX := At.new w 45 #[.int .i64 1, .int .i64 i, .int .i64 1, .slice none 0 0]
  have hO := (Only.refl (fun _ => False) w).alloc (.cells #[.int .i64 1, .int .i64 i, .int .i64 1, .slice none 0 0] 45)
  have k1 := k.quiet hO
  have c131 := (k1.cell 131).trans k1.ok.off
  have c42 := (k1.cell 55).trans hg
  have x0 := hX.cell 0
  simp only [List.getElem?_toArray, List.getElem?_cons_zero, List.getElem?_cons_succ] at x0
  have hO2 := hO.alloc (.cells #[] 5)
  have hX2 := hX.alloc (.cells #[] 5)
  have y3 := hX2.cell 3
  simp only [List.getElem?_toArray, List.getElem?_cons_zero, List.getElem?_cons_succ] at y3
  have HOWN := Lib.hid (ownsRow_fresh (w.alloc (.cells #[.int .i64 1, .int .i64 i, .int .i64 1, .slice none 0 0] 45)) 5 1)
  have HR : Hid (Rd ((w.alloc (.cells #[.int .i64 1, .int .i64 i, .int .i64 1, .slice none 0 0] 45)).alloc (.cells #[] 5)) 0 none []) := Lib.hid (Rd.nil)
  have HX := Lib.hid hX2
  have HB := Lib.hid (k.quiet hO2)
  have HO := Lib.hid hO2
  have HLT := Lib.hid k.at'.lt
  have HSZ := Lib.hid k.ok.sz
  have HOK := Lib.hid k.ok
  have HK := Lib.hid k
  have HW := Lib.hid (fun (W : World) (cs2 : Array Value) (A1 : Option Addr) (c1 : Nat) (k2 : DAt W db G s l cs2 mb kt kw vb st sw lb off c gb rb sb lo) => right1 db mb kt kw vb lb off c gb rb sb lo st sw G s l cs2 i hi hn A1 0 c1 W k2)
  obtain ⟨v0, hv0⟩ := getElem_some k.ok.sz 51 (by omega)
  obtain ⟨v1, hv1⟩ := getElem_some k.ok.sz 52 (by omega)
  obtain ⟨v2, hv2⟩ := getElem_some k.ok.sz 53 (by omega)
  obtain ⟨v3, hv3⟩ := getElem_some k.ok.sz 54 (by omega)
  obtain ⟨v4, hv4⟩ := getElem_some k.ok.sz 55 (by omega)
  obtain ⟨v5, hv5⟩ := getElem_some k.ok.sz 56 (by omega)
  obtain ⟨v6, hv6⟩ := getElem_some k.ok.sz 57 (by omega)
  obtain ⟨v7, hv7⟩ := getElem_some k.ok.sz 58 (by omega)
  obtain ⟨v8, hv8⟩ := getElem_some k.ok.sz 59 (by omega)
  obtain ⟨v9, hv9⟩ := getElem_some k.ok.sz 60 (by omega)
  obtain ⟨v10, hv10⟩ := getElem_some k.ok.sz 61 (by omega)
  obtain ⟨v11, hv11⟩ := getElem_some k.ok.sz 62 (by omega)
  obtain ⟨v12, hv12⟩ := getElem_some k.ok.sz 63 (by omega)
  have HV0 := Lib.hid hv0
  have HV1 := Lib.hid hv1
  have HV2 := Lib.hid hv2
  have HV3 := Lib.hid hv3
  have HV4 := Lib.hid hv4
  have HV5 := Lib.hid hv5
  have HV6 := Lib.hid hv6
  have HV7 := Lib.hid hv7
  have HV8 := Lib.hid hv8
  have HV9 := Lib.hid hv9
  have HV10 := Lib.hid hv10
  have HV11 := Lib.hid hv11
  have HV12 := Lib.hid hv12
  clear k k1 hO hX hi0 hO2 hX2 hg hv0 hv1 hv2 hv3 hv4 hv5 hv6 hv7 hv8 hv9 hv10 hv11 hv12
  unfold clv at *
  go_enter Tryz.func11, Tryz.ntmps11
  go_wp2_with (at_builtin; go_loud (refine wpList_append_src _ rfl (.tmp 38) (.tmp 40) 27 rfl (w.heap.size + 1) 5 i0 (.int .u8 0) 1 1 Tryz.underlying27 HI.out.1 HI.out.2.1 HI.out.2.2.1 HI.out.2.2.2 rfl (by decide) (.slice (some ⟨w.heap.size + 1, 0, none⟩) 0 0) 0 [] rfl (by simpa using HOWN.out) 0 none 0 0 [] rfl rfl HR.out (by simp) (by unfold maxLen; omega) (by omega) (by simp) ?_); intro A1 c1 w2 hc1 hown1 hg1 hat; have HG := Lib.hid (Only.of_grown hg1); have hX2 := HX.out.only HG.out (fun e => by simp [Value.ownBlock] at e); have x3 := hX2.cell 3; have f3 := hX2.frozen 3; have hX9 := hX2.set 3 (.slice A1 0 c1); have z0 := hX9.cell 0; have z1 := hX9.cell 1; have z2 := hX9.cell 2; have z3 := hX9.cell 3; simp only [List.getElem?_toArray, List.getElem?_cons_zero, List.getElem?_cons_succ, List.setIfInBounds_toArray, List.set_cons_zero, List.set_cons_succ] at x3 z0 z1 z2 z3 hX9; have hB2 := HB.out.at'.only HG.out (fun e => by have := HLT.out; simp [Value.ownBlock] at e; omega); have hB9 := hB2.far (p := ⟨w.heap.size, 3, none⟩) (fun e => by have := HLT.out; simp at e; omega) (.slice A1 0 c1); have c51 := (hB9.cell 51).trans HV0.out; have f51 := hB9.frozen 51; have c52 := (hB9.cell 52).trans HV1.out; have f52 := hB9.frozen 52; have c53 := (hB9.cell 53).trans HV2.out; have f53 := hB9.frozen 53; have c54 := (hB9.cell 54).trans HV3.out; have f54 := hB9.frozen 54; have c55 := (hB9.cell 55).trans HV4.out; have f55 := hB9.frozen 55; have c56 := (hB9.cell 56).trans HV5.out; have f56 := hB9.frozen 56; have c57 := (hB9.cell 57).trans HV6.out; have f57 := hB9.frozen 57; have c58 := (hB9.cell 58).trans HV7.out; have f58 := hB9.frozen 58; have c59 := (hB9.cell 59).trans HV8.out; have f59 := hB9.frozen 59; have c60 := (hB9.cell 60).trans HV9.out; have f60 := hB9.frozen 60; have c61 := (hB9.cell 61).trans HV10.out; have f61 := hB9.frozen 61; have c62 := (hB9.cell 62).trans HV11.out; have f62 := hB9.frozen 62; have c63 := (hB9.cell 63).trans HV12.out; have f63 := hB9.frozen 63; have HX9 := Lib.hid hX9; have HB9 := Lib.hid hB9; have hO9 := ((HO.out.trans' HG.out (S := fun _ => False) (fun i hi h => by simp [Value.ownBlock] at h; omega)).setCell (p := ⟨w.heap.size, 3, none⟩) (fun e => absurd e (Nat.lt_irrefl _)) (.slice A1 0 c1)); have HO9 := Lib.hid hO9; clear hown1 hg1 hat hc1 hX2 hX9 hB2 hB9 hO9)
  have h10 := (((((((((((((HB9.out.set 51 (.int .i64 1)).set 52 (.int .i64 i)).set 53 (.int .i64 1)).set 54 (.slice A1 0 c1)).set 55 (.bool true)).set 56 (.bool false)).set 57 (.int .i64 0)).set 58 (.int .i64 0)).set 59 (.slice none 0 0)).set 60 (.bool false)).set 61 (.int .i64 0)).set 62 (.int .i64 0)).set 63 (.slice none 0 0))
  have hthr := thr3 cs HSZ.out i A1 c1
  have o10 := (((((((((((((HO9.out.mono (T := fun i => i = db) (fun _ _ h => h.elim)).setCell (p := ⟨db, 51, none⟩) (fun _ => rfl) (.int .i64 1)).setCell (p := ⟨db, 52, none⟩) (fun _ => rfl) (.int .i64 i)).setCell (p := ⟨db, 53, none⟩) (fun _ => rfl) (.int .i64 1)).setCell (p := ⟨db, 54, none⟩) (fun _ => rfl) (.slice A1 0 c1)).setCell (p := ⟨db, 55, none⟩) (fun _ => rfl) (.bool true)).setCell (p := ⟨db, 56, none⟩) (fun _ => rfl) (.bool false)).setCell (p := ⟨db, 57, none⟩) (fun _ => rfl) (.int .i64 0)).setCell (p := ⟨db, 58, none⟩) (fun _ => rfl) (.int .i64 0)).setCell (p := ⟨db, 59, none⟩) (fun _ => rfl) (.slice none 0 0)).setCell (p := ⟨db, 60, none⟩) (fun _ => rfl) (.bool false)).setCell (p := ⟨db, 61, none⟩) (fun _ => rfl) (.int .i64 0)).setCell (p := ⟨db, 62, none⟩) (fun _ => rfl) (.int .i64 0)).setCell (p := ⟨db, 63, none⟩) (fun _ => rfl) (.slice none 0 0)
  have k10 := HK.out.put o10 h10 (HOK.out.far hthr.2 (by omega) (by omega))
  refine (HW.out _ _ A1 c1 k10).mono ?_
  rintro e w3 ⟨rfl, hO3⟩
  have H3 := Lib.hid (h10.only hO3 id)
  have O3 := Lib.hid (o10.trans (hO3.mono (fun _ _ h => h.elim)))
  have HTH := Lib.hid hthr
  clear h10 hthr o10 k10 hO3
  clear c51 f51 c52 f52 c53 f53 c54 f54 c55 f55 c56 f56 c57 f57 c58 f58 c59 f59 c60 f60 c61 f61 c62 f62 c63 f63
  go_wp2
  go_ret
  exact ⟨rfl, _, A1, c1, H3.out, HTH.out.1, HTH.out.2, O3.out⟩

theorem thr4 (cs : Array Value) (hs : cs.size = 139) (_i : Nat) (A1 : Option Addr) (c1 : Nat) : Thr (((((((((((((cs.setIfInBounds 64 (.int .i64 4)).setIfInBounds 65 (.int .i64 0)).setIfInBounds 66 (.int .i64 0)).setIfInBounds 67 (.slice A1 0 c1)).setIfInBounds 68 (.bool true)).setIfInBounds 69 (.bool false)).setIfInBounds 70 (.int .i64 0)).setIfInBounds 71 (.int .i64 0)).setIfInBounds 72 (.slice none 0 0)).setIfInBounds 73 (.bool false)).setIfInBounds 74 (.int .i64 0)).setIfInBounds 75 (.int .i64 0)).setIfInBounds 76 (.slice none 0 0)) 64 [.int .i64 4, .int .i64 0, .int .i64 0, .slice A1 0 c1, .bool true, .bool false, .int .i64 0, .int .i64 0, .slice none 0 0, .bool false, .int .i64 0, .int .i64 0, .slice none 0 0] ∧ Far 64 cs (((((((((((((cs.setIfInBounds 64 (.int .i64 4)).setIfInBounds 65 (.int .i64 0)).setIfInBounds 66 (.int .i64 0)).setIfInBounds 67 (.slice A1 0 c1)).setIfInBounds 68 (.bool true)).setIfInBounds 69 (.bool false)).setIfInBounds 70 (.int .i64 0)).setIfInBounds 71 (.int .i64 0)).setIfInBounds 72 (.slice none 0 0)).setIfInBounds 73 (.bool false)).setIfInBounds 74 (.int .i64 0)).setIfInBounds 75 (.int .i64 0)).setIfInBounds 76 (.slice none 0 0)) := by
  have hs' : 64 + 13 ≤ cs.size := by omega
  constructor
  · intro j hj
    have hc : j = 0 ∨ j = 1 ∨ j = 2 ∨ j = 3 ∨ j = 4 ∨ j = 5 ∨ j = 6 ∨ j = 7 ∨ j = 8 ∨ j = 9 ∨ j = 10 ∨ j = 11 ∨ j = 12 := by omega
    rcases hc with rfl | rfl | rfl | rfl | rfl | rfl | rfl | rfl | rfl | rfl | rfl | rfl | rfl <;> simp [Array.getElem?_setIfInBounds, hs]
  · exact (((((((((((((Far.refl 64 cs).set 0 (by omega) _).set 1 (by omega) _).set 2 (by omega) _).set 3 (by omega) _).set 4 (by omega) _).set 5 (by omega) _).set 6 (by omega) _).set 7 (by omega) _).set 8 (by omega) _).set 9 (by omega) _).set 10 (by omega) _).set 11 (by omega) _).set 12 (by omega) _

set_option maxRecDepth 100000 in
set_option maxHeartbeats 16000000 in
theorem submit4 (db mb kt kw vb lb off c gb rb sb lo : Nat) (st sw : Nat → Sh) (G : Ge) (s : Sg) (l : List Ln) (cs : Array Value)  (w : World) (k : DAt w db G s l cs mb kt kw vb st sw lb off c gb rb sb lo) (hg : cs[68]? = some (.bool false)) :
    Calls Tryz.prog 11 #[.pointer (some ⟨db, 0, none⟩), .int .i64 4, clv 4 0 0 none 0 0] w fun e w' => e = .returned (.int .i64 0) ∧ ∃ cs' A1 c1, At w' db 81 cs' ∧ Thr cs' 64 [.int .i64 4, .int .i64 0, .int .i64 0, .slice A1 0 c1, .bool true, .bool false, .int .i64 0, .int .i64 0, .slice none 0 0, .bool false, .int .i64 0, .int .i64 0, .slice none 0 0] ∧ Far 64 cs cs' ∧ Only (fun i => i = db) w w' := by
  obtain ⟨i0, hi0⟩ : ∃ i, Tryz.prog.info? 5 = some i := ⟨_, rfl⟩
  have HI := Lib.hid (And.intro hi0 (And.intro (show i0.zero = some (.int .u8 0) by cases hi0; rfl) (And.intro (show i0.size = 1 by cases hi0; rfl) (show i0.bytes = 1 by cases hi0; rfl))))
  have hX := At.new w 45 #[.int .i64 4, .int .i64 0, .int .i64 0, .slice none 0 0]
  have hO := (Only.refl (fun _ => False) w).alloc (.cells #[.int .i64 4, .int .i64 0, .int .i64 0, .slice none 0 0] 45)
  have k1 := k.quiet hO
  have c131 := (k1.cell 131).trans k1.ok.off
  have c42 := (k1.cell 68).trans hg
  have x0 := hX.cell 0
  simp only [List.getElem?_toArray, List.getElem?_cons_zero, List.getElem?_cons_succ] at x0
  have hO2 := hO.alloc (.cells #[] 5)
  have hX2 := hX.alloc (.cells #[] 5)
  have y3 := hX2.cell 3
  simp only [List.getElem?_toArray, List.getElem?_cons_zero, List.getElem?_cons_succ] at y3
  have HOWN := Lib.hid (ownsRow_fresh (w.alloc (.cells #[.int .i64 4, .int .i64 0, .int .i64 0, .slice none 0 0] 45)) 5 1)
  have HR : Hid (Rd ((w.alloc (.cells #[.int .i64 4, .int .i64 0, .int .i64 0, .slice none 0 0] 45)).alloc (.cells #[] 5)) 0 none []) := Lib.hid (Rd.nil)
  have HX := Lib.hid hX2
  have HB := Lib.hid (k.quiet hO2)
  have HO := Lib.hid hO2
  have HLT := Lib.hid k.at'.lt
  have HSZ := Lib.hid k.ok.sz
  have HOK := Lib.hid k.ok
  have HK := Lib.hid k
  have HW := Lib.hid (fun (W : World) (cs2 : Array Value) (A1 : Option Addr) (c1 : Nat) (k2 : DAt W db G s l cs2 mb kt kw vb st sw lb off c gb rb sb lo) => right4 db mb kt kw vb lb off c gb rb sb lo st sw G s l cs2 A1 0 c1 W k2)
  obtain ⟨v0, hv0⟩ := getElem_some k.ok.sz 64 (by omega)
  obtain ⟨v1, hv1⟩ := getElem_some k.ok.sz 65 (by omega)
  obtain ⟨v2, hv2⟩ := getElem_some k.ok.sz 66 (by omega)
  obtain ⟨v3, hv3⟩ := getElem_some k.ok.sz 67 (by omega)
  obtain ⟨v4, hv4⟩ := getElem_some k.ok.sz 68 (by omega)
  obtain ⟨v5, hv5⟩ := getElem_some k.ok.sz 69 (by omega)
  obtain ⟨v6, hv6⟩ := getElem_some k.ok.sz 70 (by omega)
  obtain ⟨v7, hv7⟩ := getElem_some k.ok.sz 71 (by omega)
  obtain ⟨v8, hv8⟩ := getElem_some k.ok.sz 72 (by omega)
  obtain ⟨v9, hv9⟩ := getElem_some k.ok.sz 73 (by omega)
  obtain ⟨v10, hv10⟩ := getElem_some k.ok.sz 74 (by omega)
  obtain ⟨v11, hv11⟩ := getElem_some k.ok.sz 75 (by omega)
  obtain ⟨v12, hv12⟩ := getElem_some k.ok.sz 76 (by omega)
  have HV0 := Lib.hid hv0
  have HV1 := Lib.hid hv1
  have HV2 := Lib.hid hv2
  have HV3 := Lib.hid hv3
  have HV4 := Lib.hid hv4
  have HV5 := Lib.hid hv5
  have HV6 := Lib.hid hv6
  have HV7 := Lib.hid hv7
  have HV8 := Lib.hid hv8
  have HV9 := Lib.hid hv9
  have HV10 := Lib.hid hv10
  have HV11 := Lib.hid hv11
  have HV12 := Lib.hid hv12
  clear k k1 hO hX hi0 hO2 hX2 hg hv0 hv1 hv2 hv3 hv4 hv5 hv6 hv7 hv8 hv9 hv10 hv11 hv12
  unfold clv at *
  go_enter Tryz.func11, Tryz.ntmps11
  go_wp2_with (at_builtin; go_loud (refine wpList_append_src _ rfl (.tmp 38) (.tmp 40) 27 rfl (w.heap.size + 1) 5 i0 (.int .u8 0) 1 1 Tryz.underlying27 HI.out.1 HI.out.2.1 HI.out.2.2.1 HI.out.2.2.2 rfl (by decide) (.slice (some ⟨w.heap.size + 1, 0, none⟩) 0 0) 0 [] rfl (by simpa using HOWN.out) 0 none 0 0 [] rfl rfl HR.out (by simp) (by unfold maxLen; omega) (by omega) (by simp) ?_); intro A1 c1 w2 hc1 hown1 hg1 hat; have HG := Lib.hid (Only.of_grown hg1); have hX2 := HX.out.only HG.out (fun e => by simp [Value.ownBlock] at e); have x3 := hX2.cell 3; have f3 := hX2.frozen 3; have hX9 := hX2.set 3 (.slice A1 0 c1); have z0 := hX9.cell 0; have z1 := hX9.cell 1; have z2 := hX9.cell 2; have z3 := hX9.cell 3; simp only [List.getElem?_toArray, List.getElem?_cons_zero, List.getElem?_cons_succ, List.setIfInBounds_toArray, List.set_cons_zero, List.set_cons_succ] at x3 z0 z1 z2 z3 hX9; have hB2 := HB.out.at'.only HG.out (fun e => by have := HLT.out; simp [Value.ownBlock] at e; omega); have hB9 := hB2.far (p := ⟨w.heap.size, 3, none⟩) (fun e => by have := HLT.out; simp at e; omega) (.slice A1 0 c1); have c64 := (hB9.cell 64).trans HV0.out; have f64 := hB9.frozen 64; have c65 := (hB9.cell 65).trans HV1.out; have f65 := hB9.frozen 65; have c66 := (hB9.cell 66).trans HV2.out; have f66 := hB9.frozen 66; have c67 := (hB9.cell 67).trans HV3.out; have f67 := hB9.frozen 67; have c68 := (hB9.cell 68).trans HV4.out; have f68 := hB9.frozen 68; have c69 := (hB9.cell 69).trans HV5.out; have f69 := hB9.frozen 69; have c70 := (hB9.cell 70).trans HV6.out; have f70 := hB9.frozen 70; have c71 := (hB9.cell 71).trans HV7.out; have f71 := hB9.frozen 71; have c72 := (hB9.cell 72).trans HV8.out; have f72 := hB9.frozen 72; have c73 := (hB9.cell 73).trans HV9.out; have f73 := hB9.frozen 73; have c74 := (hB9.cell 74).trans HV10.out; have f74 := hB9.frozen 74; have c75 := (hB9.cell 75).trans HV11.out; have f75 := hB9.frozen 75; have c76 := (hB9.cell 76).trans HV12.out; have f76 := hB9.frozen 76; have HX9 := Lib.hid hX9; have HB9 := Lib.hid hB9; have hO9 := ((HO.out.trans' HG.out (S := fun _ => False) (fun i hi h => by simp [Value.ownBlock] at h; omega)).setCell (p := ⟨w.heap.size, 3, none⟩) (fun e => absurd e (Nat.lt_irrefl _)) (.slice A1 0 c1)); have HO9 := Lib.hid hO9; clear hown1 hg1 hat hc1 hX2 hX9 hB2 hB9 hO9)
  have h10 := (((((((((((((HB9.out.set 64 (.int .i64 4)).set 65 (.int .i64 0)).set 66 (.int .i64 0)).set 67 (.slice A1 0 c1)).set 68 (.bool true)).set 69 (.bool false)).set 70 (.int .i64 0)).set 71 (.int .i64 0)).set 72 (.slice none 0 0)).set 73 (.bool false)).set 74 (.int .i64 0)).set 75 (.int .i64 0)).set 76 (.slice none 0 0))
  have hthr := thr4 cs HSZ.out 0 A1 c1
  have o10 := (((((((((((((HO9.out.mono (T := fun i => i = db) (fun _ _ h => h.elim)).setCell (p := ⟨db, 64, none⟩) (fun _ => rfl) (.int .i64 4)).setCell (p := ⟨db, 65, none⟩) (fun _ => rfl) (.int .i64 0)).setCell (p := ⟨db, 66, none⟩) (fun _ => rfl) (.int .i64 0)).setCell (p := ⟨db, 67, none⟩) (fun _ => rfl) (.slice A1 0 c1)).setCell (p := ⟨db, 68, none⟩) (fun _ => rfl) (.bool true)).setCell (p := ⟨db, 69, none⟩) (fun _ => rfl) (.bool false)).setCell (p := ⟨db, 70, none⟩) (fun _ => rfl) (.int .i64 0)).setCell (p := ⟨db, 71, none⟩) (fun _ => rfl) (.int .i64 0)).setCell (p := ⟨db, 72, none⟩) (fun _ => rfl) (.slice none 0 0)).setCell (p := ⟨db, 73, none⟩) (fun _ => rfl) (.bool false)).setCell (p := ⟨db, 74, none⟩) (fun _ => rfl) (.int .i64 0)).setCell (p := ⟨db, 75, none⟩) (fun _ => rfl) (.int .i64 0)).setCell (p := ⟨db, 76, none⟩) (fun _ => rfl) (.slice none 0 0)
  have k10 := HK.out.put o10 h10 (HOK.out.far hthr.2 (by omega) (by omega))
  refine (HW.out _ _ A1 c1 k10).mono ?_
  rintro e w3 ⟨rfl, hO3⟩
  have H3 := Lib.hid (h10.only hO3 id)
  have O3 := Lib.hid (o10.trans (hO3.mono (fun _ _ h => h.elim)))
  have HTH := Lib.hid hthr
  clear h10 hthr o10 k10 hO3
  clear c64 f64 c65 f65 c66 f66 c67 f67 c68 f68 c69 f69 c70 f70 c71 f71 c72 f72 c73 f73 c74 f74 c75 f75 c76 f76
  go_wp2
  go_ret
  exact ⟨rfl, _, A1, c1, H3.out, HTH.out.1, HTH.out.2, O3.out⟩


end Go.Proofs.YtjobaplioidogaaGreat

namespace Go.Proofs.YtjobaplioidogaaGreat
open Go.RowKit

set_option maxRecDepth 100000 in
set_option maxHeartbeats 16000000 in
theorem reply2 (db : Nat) (cs : Array Value) (z dn : Int) (A : Option Addr) (m c g : Nat) (xs : List Value) (hx : xs.length = m) (h1 : ∀ u ∈ xs, u.oneCell' = true) (hm : m ≤ 1000) (w : World) (hr : Rd w g A xs) (h : At w db 81 cs)
    (t9 : cs[47]? = some (.bool true)) (t10 : cs[48]? = some (.int .i64 z)) (t11 : cs[49]? = some (.int .i64 dn)) (t12 : cs[50]? = some (.slice A m c)) :
    Calls Tryz.prog 14 #[.pointer (some ⟨db, 0, none⟩), .int .i64 2] w fun e w' => ∃ A1 c1 g1, e = .returned (.tuple #[.agg #[.int .i64 z, .int .i64 dn, .slice A1 m c1], .bool true]) ∧ (xs ≠ [] → w.heap.size ≤ g1 ∧ Rd w' g1 A1 xs) ∧ Only (fun _ => False) w w' := by
  obtain ⟨i0, hi0⟩ : ∃ i, Tryz.prog.info? 5 = some i := ⟨_, rfl⟩
  have HI := Lib.hid (And.intro hi0 (And.intro (show i0.zero = some (.int .u8 0) by cases hi0; rfl) (And.intro (show i0.size = 1 by cases hi0; rfl) (show i0.bytes = 1 by cases hi0; rfl))))
  have o0 := (Only.refl (fun _ => False) w).alloc (.cells #[.int .i64 0, .int .i64 0, .slice none 0 0] 48)
  have h0 := h.alloc (.cells #[.int .i64 0, .int .i64 0, .slice none 0 0] 48)
  have c9 := (h0.cell 47).trans t9
  have c10 := (h0.cell 48).trans t10
  have c11 := (h0.cell 49).trans t11
  have c12 := (h0.cell 50).trans t12
  have hML : 0 + m ≤ maxLen := by unfold maxLen; omega
  have hA := At.new w 48 #[.int .i64 0, .int .i64 0, .slice none 0 0]
  have hB : At ((w.alloc (.cells #[.int .i64 0, .int .i64 0, .slice none 0 0] 48)).alloc (.cells #[.int .i64 z, .int .i64 dn, .slice A m c] 48)) (w.heap.size + 1) 48 #[.int .i64 z, .int .i64 dn, .slice A m c] := At.new' (by simp) 48 _
  have o2 := (o0.alloc (.cells #[.int .i64 z, .int .i64 dn, .slice A m c] 48)).alloc (.cells #[] 5)
  have hB2 := hB.alloc (.cells #[] 5)
  have y2 := hB2.cell 2
  simp only [List.getElem?_toArray, List.getElem?_cons_zero, List.getElem?_cons_succ] at y2
  have HOWN := Lib.hid (ownsRow_fresh ((w.alloc (.cells #[.int .i64 0, .int .i64 0, .slice none 0 0] 48)).alloc (.cells #[.int .i64 z, .int .i64 dn, .slice A m c] 48)) 5 1)
  have hOWN : ((((w.alloc (.cells #[.int .i64 0, .int .i64 0, .slice none 0 0] 48)).alloc (.cells #[.int .i64 z, .int .i64 dn, .slice A m c] 48)).alloc (.cells #[] 5))).ownsRow (w.heap.size + 1 + 1) 5 1 (.slice (some ⟨w.heap.size + 1 + 1, 0, none⟩) 0 0) 0 [] := by simpa using HOWN.out
  have HOWN2 := Lib.hid hOWN
  clear hOWN
  have HR : Hid (Rd (((w.alloc (.cells #[.int .i64 0, .int .i64 0, .slice none 0 0] 48)).alloc (.cells #[.int .i64 z, .int .i64 dn, .slice A m c] 48)).alloc (.cells #[] 5)) g A xs) := Lib.hid (((hr.only o0 id).only ((Only.refl (fun _ => False) _).alloc _) id).only ((Only.refl (fun _ => False) _).alloc _) id)
  have HA := Lib.hid ((hA.alloc (.cells #[.int .i64 z, .int .i64 dn, .slice A m c] 48)).alloc (.cells #[] 5))
  have HB := Lib.hid hB2
  have HO := Lib.hid o2
  clear o0 h0 hA hB o2 hB2 hi0 hr h t9 t10 t11 t12
  go_enter Tryz.func14, Tryz.ntmps14
  go_wp2_with (at_builtin; go_loud (refine wpList_append_src _ rfl (.tmp 31) (.tmp 33) 27 rfl (w.heap.size + 1 + 1) 5 i0 (.int .u8 0) 1 1 Tryz.underlying27 HI.out.1 HI.out.2.1 HI.out.2.2.1 HI.out.2.2.2 rfl (by decide) (.slice (some ⟨w.heap.size + 1 + 1, 0, none⟩) 0 0) 0 [] rfl HOWN2.out g A m c xs rfl (by rw [hx, Nat.mul_one]) HR.out h1 (by unfold maxLen; omega) (by omega) (by simp) ?_); intro A1 c1 w2 hc1 hown1 hg1 hat; rw [Nat.zero_add] at hown1; have HG := Lib.hid (Only.of_grown hg1); have HOW := Lib.hid hown1; have hB := HB.out.only HG.out (fun e => by simp [Value.ownBlock] at e <;> omega); have hA := HA.out.only HG.out (fun e => by simp [Value.ownBlock] at e <;> omega); have x2 := hB.cell 2; have f2 := hB.frozen 2; have hB9 := hB.set 2 (.slice A1 m c1); have hA9 := hA.far (p := ⟨w.heap.size + 1, 2, none⟩) (fun e => absurd (show w.heap.size = w.heap.size + 1 from e) (by omega)) (.slice A1 m c1); have z0 := hB9.cell 0; have z1 := hB9.cell 1; have z2 := hB9.cell 2; have y0 := hA9.cell 0; have g0 := hA9.frozen 0; have y1 := hA9.cell 1; have g1 := hA9.frozen 1; have y2 := hA9.cell 2; have g2 := hA9.frozen 2; simp only [List.getElem?_toArray, List.getElem?_cons_zero, List.getElem?_cons_succ, List.setIfInBounds_toArray, List.set_cons_zero, List.set_cons_succ] at x2 z0 z1 z2 y0 y1 y2 hA9; have HA9 := Lib.hid hA9; have HO9 := Lib.hid ((HO.out.trans' HG.out (S := fun _ => False) (fun i hi h => by simp [Value.ownBlock] at h; omega)).setCell (p := ⟨w.heap.size + 1, 2, none⟩) (fun e => absurd (show w.heap.size + 1 < w.heap.size from e) (by omega)) (.slice A1 m c1)); clear hown1 hg1 hat hc1 hB hA hB9 hA9)
  have hA10 := ((HA9.out.set 0 (.int .i64 z)).set 1 (.int .i64 dn)).set 2 (.slice A1 m c1)
  simp only [List.setIfInBounds_toArray, List.set_cons_zero, List.set_cons_succ] at hA10
  have hO10 := ((HO9.out.setCell (p := ⟨w.heap.size, 0, none⟩) (fun e => absurd e (Nat.lt_irrefl _)) (.int .i64 z)).setCell (p := ⟨w.heap.size, 1, none⟩) (fun e => absurd e (Nat.lt_irrefl _)) (.int .i64 dn)).setCell (p := ⟨w.heap.size, 2, none⟩) (fun e => absurd e (Nat.lt_irrefl _)) (.slice A1 m c1)
  refine bodyPost_ret (v := .tuple #[.agg #[.int .i64 z, .int .i64 dn, .slice A1 m c1], .bool true]) (results_row_tmp (p := 4) (u := 5) (ty := 48) rfl _ _ w.heap.size 48 #[.int .i64 z, .int .i64 dn, .slice A1 m c1] (0, 0) _ rfl hA10 Tryz.underlying48 rfl rfl) rfl ?_
  by_cases hxe : xs = []
  · exact ⟨A1, c1, 0, rfl, fun h => absurd hxe h, hO10⟩
  · obtain ⟨g1, hg1, hgl1, hrd1⟩ := Rd.of_row' HOW.out (by simpa using hxe)
    have hrd2 := hrd1.only (((((Only.refl (fun i => i < w.heap.size + 1 + 1) w2).setCell (p := ⟨w.heap.size + 1, 2, none⟩) (fun _ => by show w.heap.size + 1 < _; omega) (.slice A1 m c1)).setCell (p := ⟨w.heap.size, 0, none⟩) (fun _ => by show w.heap.size < _; omega) (.int .i64 z)).setCell (p := ⟨w.heap.size, 1, none⟩) (fun _ => by show w.heap.size < _; omega) (.int .i64 dn)).setCell (p := ⟨w.heap.size, 2, none⟩) (fun _ => by show w.heap.size < _; omega) (.slice A1 m c1)) (by omega)
    exact ⟨A1, c1, g1, rfl, fun _ => ⟨by omega, by simpa using hrd2⟩, hO10⟩

set_option maxRecDepth 100000 in
set_option maxHeartbeats 16000000 in
theorem reply3 (db : Nat) (cs : Array Value) (z dn : Int) (A : Option Addr) (m c g : Nat) (xs : List Value) (hx : xs.length = m) (h1 : ∀ u ∈ xs, u.oneCell' = true) (hm : m ≤ 1000) (w : World) (hr : Rd w g A xs) (h : At w db 81 cs)
    (t9 : cs[60]? = some (.bool true)) (t10 : cs[61]? = some (.int .i64 z)) (t11 : cs[62]? = some (.int .i64 dn)) (t12 : cs[63]? = some (.slice A m c)) :
    Calls Tryz.prog 14 #[.pointer (some ⟨db, 0, none⟩), .int .i64 3] w fun e w' => ∃ A1 c1 g1, e = .returned (.tuple #[.agg #[.int .i64 z, .int .i64 dn, .slice A1 m c1], .bool true]) ∧ (xs ≠ [] → w.heap.size ≤ g1 ∧ Rd w' g1 A1 xs) ∧ Only (fun _ => False) w w' := by
  obtain ⟨i0, hi0⟩ : ∃ i, Tryz.prog.info? 5 = some i := ⟨_, rfl⟩
  have HI := Lib.hid (And.intro hi0 (And.intro (show i0.zero = some (.int .u8 0) by cases hi0; rfl) (And.intro (show i0.size = 1 by cases hi0; rfl) (show i0.bytes = 1 by cases hi0; rfl))))
  have o0 := (Only.refl (fun _ => False) w).alloc (.cells #[.int .i64 0, .int .i64 0, .slice none 0 0] 48)
  have h0 := h.alloc (.cells #[.int .i64 0, .int .i64 0, .slice none 0 0] 48)
  have c9 := (h0.cell 60).trans t9
  have c10 := (h0.cell 61).trans t10
  have c11 := (h0.cell 62).trans t11
  have c12 := (h0.cell 63).trans t12
  have hML : 0 + m ≤ maxLen := by unfold maxLen; omega
  have hA := At.new w 48 #[.int .i64 0, .int .i64 0, .slice none 0 0]
  have hB : At ((w.alloc (.cells #[.int .i64 0, .int .i64 0, .slice none 0 0] 48)).alloc (.cells #[.int .i64 z, .int .i64 dn, .slice A m c] 48)) (w.heap.size + 1) 48 #[.int .i64 z, .int .i64 dn, .slice A m c] := At.new' (by simp) 48 _
  have o2 := (o0.alloc (.cells #[.int .i64 z, .int .i64 dn, .slice A m c] 48)).alloc (.cells #[] 5)
  have hB2 := hB.alloc (.cells #[] 5)
  have y2 := hB2.cell 2
  simp only [List.getElem?_toArray, List.getElem?_cons_zero, List.getElem?_cons_succ] at y2
  have HOWN := Lib.hid (ownsRow_fresh ((w.alloc (.cells #[.int .i64 0, .int .i64 0, .slice none 0 0] 48)).alloc (.cells #[.int .i64 z, .int .i64 dn, .slice A m c] 48)) 5 1)
  have hOWN : ((((w.alloc (.cells #[.int .i64 0, .int .i64 0, .slice none 0 0] 48)).alloc (.cells #[.int .i64 z, .int .i64 dn, .slice A m c] 48)).alloc (.cells #[] 5))).ownsRow (w.heap.size + 1 + 1) 5 1 (.slice (some ⟨w.heap.size + 1 + 1, 0, none⟩) 0 0) 0 [] := by simpa using HOWN.out
  have HOWN2 := Lib.hid hOWN
  clear hOWN
  have HR : Hid (Rd (((w.alloc (.cells #[.int .i64 0, .int .i64 0, .slice none 0 0] 48)).alloc (.cells #[.int .i64 z, .int .i64 dn, .slice A m c] 48)).alloc (.cells #[] 5)) g A xs) := Lib.hid (((hr.only o0 id).only ((Only.refl (fun _ => False) _).alloc _) id).only ((Only.refl (fun _ => False) _).alloc _) id)
  have HA := Lib.hid ((hA.alloc (.cells #[.int .i64 z, .int .i64 dn, .slice A m c] 48)).alloc (.cells #[] 5))
  have HB := Lib.hid hB2
  have HO := Lib.hid o2
  clear o0 h0 hA hB o2 hB2 hi0 hr h t9 t10 t11 t12
  go_enter Tryz.func14, Tryz.ntmps14
  go_wp2_with (at_builtin; go_loud (refine wpList_append_src _ rfl (.tmp 31) (.tmp 33) 27 rfl (w.heap.size + 1 + 1) 5 i0 (.int .u8 0) 1 1 Tryz.underlying27 HI.out.1 HI.out.2.1 HI.out.2.2.1 HI.out.2.2.2 rfl (by decide) (.slice (some ⟨w.heap.size + 1 + 1, 0, none⟩) 0 0) 0 [] rfl HOWN2.out g A m c xs rfl (by rw [hx, Nat.mul_one]) HR.out h1 (by unfold maxLen; omega) (by omega) (by simp) ?_); intro A1 c1 w2 hc1 hown1 hg1 hat; rw [Nat.zero_add] at hown1; have HG := Lib.hid (Only.of_grown hg1); have HOW := Lib.hid hown1; have hB := HB.out.only HG.out (fun e => by simp [Value.ownBlock] at e <;> omega); have hA := HA.out.only HG.out (fun e => by simp [Value.ownBlock] at e <;> omega); have x2 := hB.cell 2; have f2 := hB.frozen 2; have hB9 := hB.set 2 (.slice A1 m c1); have hA9 := hA.far (p := ⟨w.heap.size + 1, 2, none⟩) (fun e => absurd (show w.heap.size = w.heap.size + 1 from e) (by omega)) (.slice A1 m c1); have z0 := hB9.cell 0; have z1 := hB9.cell 1; have z2 := hB9.cell 2; have y0 := hA9.cell 0; have g0 := hA9.frozen 0; have y1 := hA9.cell 1; have g1 := hA9.frozen 1; have y2 := hA9.cell 2; have g2 := hA9.frozen 2; simp only [List.getElem?_toArray, List.getElem?_cons_zero, List.getElem?_cons_succ, List.setIfInBounds_toArray, List.set_cons_zero, List.set_cons_succ] at x2 z0 z1 z2 y0 y1 y2 hA9; have HA9 := Lib.hid hA9; have HO9 := Lib.hid ((HO.out.trans' HG.out (S := fun _ => False) (fun i hi h => by simp [Value.ownBlock] at h; omega)).setCell (p := ⟨w.heap.size + 1, 2, none⟩) (fun e => absurd (show w.heap.size + 1 < w.heap.size from e) (by omega)) (.slice A1 m c1)); clear hown1 hg1 hat hc1 hB hA hB9 hA9)
  have hA10 := ((HA9.out.set 0 (.int .i64 z)).set 1 (.int .i64 dn)).set 2 (.slice A1 m c1)
  simp only [List.setIfInBounds_toArray, List.set_cons_zero, List.set_cons_succ] at hA10
  have hO10 := ((HO9.out.setCell (p := ⟨w.heap.size, 0, none⟩) (fun e => absurd e (Nat.lt_irrefl _)) (.int .i64 z)).setCell (p := ⟨w.heap.size, 1, none⟩) (fun e => absurd e (Nat.lt_irrefl _)) (.int .i64 dn)).setCell (p := ⟨w.heap.size, 2, none⟩) (fun e => absurd e (Nat.lt_irrefl _)) (.slice A1 m c1)
  refine bodyPost_ret (v := .tuple #[.agg #[.int .i64 z, .int .i64 dn, .slice A1 m c1], .bool true]) (results_row_tmp (p := 4) (u := 5) (ty := 48) rfl _ _ w.heap.size 48 #[.int .i64 z, .int .i64 dn, .slice A1 m c1] (0, 0) _ rfl hA10 Tryz.underlying48 rfl rfl) rfl ?_
  by_cases hxe : xs = []
  · exact ⟨A1, c1, 0, rfl, fun h => absurd hxe h, hO10⟩
  · obtain ⟨g1, hg1, hgl1, hrd1⟩ := Rd.of_row' HOW.out (by simpa using hxe)
    have hrd2 := hrd1.only (((((Only.refl (fun i => i < w.heap.size + 1 + 1) w2).setCell (p := ⟨w.heap.size + 1, 2, none⟩) (fun _ => by show w.heap.size + 1 < _; omega) (.slice A1 m c1)).setCell (p := ⟨w.heap.size, 0, none⟩) (fun _ => by show w.heap.size < _; omega) (.int .i64 z)).setCell (p := ⟨w.heap.size, 1, none⟩) (fun _ => by show w.heap.size < _; omega) (.int .i64 dn)).setCell (p := ⟨w.heap.size, 2, none⟩) (fun _ => by show w.heap.size < _; omega) (.slice A1 m c1)) (by omega)
    exact ⟨A1, c1, g1, rfl, fun _ => ⟨by omega, by simpa using hrd2⟩, hO10⟩

set_option maxRecDepth 100000 in
set_option maxHeartbeats 16000000 in
theorem reply4 (db : Nat) (cs : Array Value) (z dn : Int) (A : Option Addr) (m c g : Nat) (xs : List Value) (hx : xs.length = m) (h1 : ∀ u ∈ xs, u.oneCell' = true) (hm : m ≤ 1000) (w : World) (hr : Rd w g A xs) (h : At w db 81 cs)
    (t9 : cs[73]? = some (.bool true)) (t10 : cs[74]? = some (.int .i64 z)) (t11 : cs[75]? = some (.int .i64 dn)) (t12 : cs[76]? = some (.slice A m c)) :
    Calls Tryz.prog 14 #[.pointer (some ⟨db, 0, none⟩), .int .i64 4] w fun e w' => ∃ A1 c1 g1, e = .returned (.tuple #[.agg #[.int .i64 z, .int .i64 dn, .slice A1 m c1], .bool true]) ∧ (xs ≠ [] → w.heap.size ≤ g1 ∧ Rd w' g1 A1 xs) ∧ Only (fun _ => False) w w' := by
  obtain ⟨i0, hi0⟩ : ∃ i, Tryz.prog.info? 5 = some i := ⟨_, rfl⟩
  have HI := Lib.hid (And.intro hi0 (And.intro (show i0.zero = some (.int .u8 0) by cases hi0; rfl) (And.intro (show i0.size = 1 by cases hi0; rfl) (show i0.bytes = 1 by cases hi0; rfl))))
  have o0 := (Only.refl (fun _ => False) w).alloc (.cells #[.int .i64 0, .int .i64 0, .slice none 0 0] 48)
  have h0 := h.alloc (.cells #[.int .i64 0, .int .i64 0, .slice none 0 0] 48)
  have c9 := (h0.cell 73).trans t9
  have c10 := (h0.cell 74).trans t10
  have c11 := (h0.cell 75).trans t11
  have c12 := (h0.cell 76).trans t12
  have hML : 0 + m ≤ maxLen := by unfold maxLen; omega
  have hA := At.new w 48 #[.int .i64 0, .int .i64 0, .slice none 0 0]
  have hB : At ((w.alloc (.cells #[.int .i64 0, .int .i64 0, .slice none 0 0] 48)).alloc (.cells #[.int .i64 z, .int .i64 dn, .slice A m c] 48)) (w.heap.size + 1) 48 #[.int .i64 z, .int .i64 dn, .slice A m c] := At.new' (by simp) 48 _
  have o2 := (o0.alloc (.cells #[.int .i64 z, .int .i64 dn, .slice A m c] 48)).alloc (.cells #[] 5)
  have hB2 := hB.alloc (.cells #[] 5)
  have y2 := hB2.cell 2
  simp only [List.getElem?_toArray, List.getElem?_cons_zero, List.getElem?_cons_succ] at y2
  have HOWN := Lib.hid (ownsRow_fresh ((w.alloc (.cells #[.int .i64 0, .int .i64 0, .slice none 0 0] 48)).alloc (.cells #[.int .i64 z, .int .i64 dn, .slice A m c] 48)) 5 1)
  have hOWN : ((((w.alloc (.cells #[.int .i64 0, .int .i64 0, .slice none 0 0] 48)).alloc (.cells #[.int .i64 z, .int .i64 dn, .slice A m c] 48)).alloc (.cells #[] 5))).ownsRow (w.heap.size + 1 + 1) 5 1 (.slice (some ⟨w.heap.size + 1 + 1, 0, none⟩) 0 0) 0 [] := by simpa using HOWN.out
  have HOWN2 := Lib.hid hOWN
  clear hOWN
  have HR : Hid (Rd (((w.alloc (.cells #[.int .i64 0, .int .i64 0, .slice none 0 0] 48)).alloc (.cells #[.int .i64 z, .int .i64 dn, .slice A m c] 48)).alloc (.cells #[] 5)) g A xs) := Lib.hid (((hr.only o0 id).only ((Only.refl (fun _ => False) _).alloc _) id).only ((Only.refl (fun _ => False) _).alloc _) id)
  have HA := Lib.hid ((hA.alloc (.cells #[.int .i64 z, .int .i64 dn, .slice A m c] 48)).alloc (.cells #[] 5))
  have HB := Lib.hid hB2
  have HO := Lib.hid o2
  clear o0 h0 hA hB o2 hB2 hi0 hr h t9 t10 t11 t12
  go_enter Tryz.func14, Tryz.ntmps14
  go_wp2_with (at_builtin; go_loud (refine wpList_append_src _ rfl (.tmp 31) (.tmp 33) 27 rfl (w.heap.size + 1 + 1) 5 i0 (.int .u8 0) 1 1 Tryz.underlying27 HI.out.1 HI.out.2.1 HI.out.2.2.1 HI.out.2.2.2 rfl (by decide) (.slice (some ⟨w.heap.size + 1 + 1, 0, none⟩) 0 0) 0 [] rfl HOWN2.out g A m c xs rfl (by rw [hx, Nat.mul_one]) HR.out h1 (by unfold maxLen; omega) (by omega) (by simp) ?_); intro A1 c1 w2 hc1 hown1 hg1 hat; rw [Nat.zero_add] at hown1; have HG := Lib.hid (Only.of_grown hg1); have HOW := Lib.hid hown1; have hB := HB.out.only HG.out (fun e => by simp [Value.ownBlock] at e <;> omega); have hA := HA.out.only HG.out (fun e => by simp [Value.ownBlock] at e <;> omega); have x2 := hB.cell 2; have f2 := hB.frozen 2; have hB9 := hB.set 2 (.slice A1 m c1); have hA9 := hA.far (p := ⟨w.heap.size + 1, 2, none⟩) (fun e => absurd (show w.heap.size = w.heap.size + 1 from e) (by omega)) (.slice A1 m c1); have z0 := hB9.cell 0; have z1 := hB9.cell 1; have z2 := hB9.cell 2; have y0 := hA9.cell 0; have g0 := hA9.frozen 0; have y1 := hA9.cell 1; have g1 := hA9.frozen 1; have y2 := hA9.cell 2; have g2 := hA9.frozen 2; simp only [List.getElem?_toArray, List.getElem?_cons_zero, List.getElem?_cons_succ, List.setIfInBounds_toArray, List.set_cons_zero, List.set_cons_succ] at x2 z0 z1 z2 y0 y1 y2 hA9; have HA9 := Lib.hid hA9; have HO9 := Lib.hid ((HO.out.trans' HG.out (S := fun _ => False) (fun i hi h => by simp [Value.ownBlock] at h; omega)).setCell (p := ⟨w.heap.size + 1, 2, none⟩) (fun e => absurd (show w.heap.size + 1 < w.heap.size from e) (by omega)) (.slice A1 m c1)); clear hown1 hg1 hat hc1 hB hA hB9 hA9)
  have hA10 := ((HA9.out.set 0 (.int .i64 z)).set 1 (.int .i64 dn)).set 2 (.slice A1 m c1)
  simp only [List.setIfInBounds_toArray, List.set_cons_zero, List.set_cons_succ] at hA10
  have hO10 := ((HO9.out.setCell (p := ⟨w.heap.size, 0, none⟩) (fun e => absurd e (Nat.lt_irrefl _)) (.int .i64 z)).setCell (p := ⟨w.heap.size, 1, none⟩) (fun e => absurd e (Nat.lt_irrefl _)) (.int .i64 dn)).setCell (p := ⟨w.heap.size, 2, none⟩) (fun e => absurd e (Nat.lt_irrefl _)) (.slice A1 m c1)
  refine bodyPost_ret (v := .tuple #[.agg #[.int .i64 z, .int .i64 dn, .slice A1 m c1], .bool true]) (results_row_tmp (p := 4) (u := 5) (ty := 48) rfl _ _ w.heap.size 48 #[.int .i64 z, .int .i64 dn, .slice A1 m c1] (0, 0) _ rfl hA10 Tryz.underlying48 rfl rfl) rfl ?_
  by_cases hxe : xs = []
  · exact ⟨A1, c1, 0, rfl, fun h => absurd hxe h, hO10⟩
  · obtain ⟨g1, hg1, hgl1, hrd1⟩ := Rd.of_row' HOW.out (by simpa using hxe)
    have hrd2 := hrd1.only (((((Only.refl (fun i => i < w.heap.size + 1 + 1) w2).setCell (p := ⟨w.heap.size + 1, 2, none⟩) (fun _ => by show w.heap.size + 1 < _; omega) (.slice A1 m c1)).setCell (p := ⟨w.heap.size, 0, none⟩) (fun _ => by show w.heap.size < _; omega) (.int .i64 z)).setCell (p := ⟨w.heap.size, 1, none⟩) (fun _ => by show w.heap.size < _; omega) (.int .i64 dn)).setCell (p := ⟨w.heap.size, 2, none⟩) (fun _ => by show w.heap.size < _; omega) (.slice A1 m c1)) (by omega)
    exact ⟨A1, c1, g1, rfl, fun _ => ⟨by omega, by simpa using hrd2⟩, hO10⟩


end Go.Proofs.YtjobaplioidogaaGreat
