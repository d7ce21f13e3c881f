/- Top: Scan of a device that holds nothing; which blocks are good. -/
import Derived.Test.YtjobaplioidogaaGreatP
import Derived.Test.YtjobaplioidogaaGreatK
namespace Go.Proofs.YtjobaplioidogaaGreat
open Go.RowKit

set_option maxRecDepth 100000 in
theorem cut_goods (p q : Addr) (w : World) :
    CallsD Tryz.prog 107 #[.pointer (some p), .pointer (some q)] .returning w fun e u' w' => e = .returned (.tuple #[]) ∧ u' = .returning ∧ w' = w := by
  have ta := ta_nil
  refine callsD_of_wpS Tryz.func107 rfl fun c₀ cs hu => ?_
  apply wpS_seq
  apply wpS_region
  simp [wpOpsS, go_sem, recoverD, hu, Tryz.ntmps107, Exit.thenS, ta]
  apply wpS_seq
  apply wpS_region
  simp [wpOpsS, go_sem, recoverD, Exit.thenS, Act.eval, Array.replicate]
  refine wpS_cond (t := false) (by simp [Act.eval, Array.replicate]) ?_
  simp only [Bool.false_eq_true, if_false]
  refine wpS_of_wp (wp_skip ?_)
  cases c₀
  simp_all [bodyPostS, results, Tryz.results107]
set_option maxRecDepth 100000 in
theorem cut_wears (p q : Addr) (w : World) :
    CallsD Tryz.prog 110 #[.pointer (some p), .pointer (some q)] .returning w fun e u' w' => e = .returned (.tuple #[]) ∧ u' = .returning ∧ w' = w := by
  have ta := ta_nil
  refine callsD_of_wpS Tryz.func110 rfl fun c₀ cs hu => ?_
  apply wpS_seq
  apply wpS_region
  simp [wpOpsS, go_sem, recoverD, hu, Tryz.ntmps110, Exit.thenS, ta]
  apply wpS_seq
  apply wpS_region
  simp [wpOpsS, go_sem, recoverD, Exit.thenS, Act.eval, Array.replicate]
  refine wpS_cond (t := false) (by simp [Act.eval, Array.replicate]) ?_
  simp only [Bool.false_eq_true, if_false]
  refine wpS_of_wp (wp_skip ?_)
  cases c₀
  simp_all [bodyPostS, results, Tryz.results110]

set_option maxRecDepth 100000 in
set_option maxHeartbeats 4000000 in
theorem scan_none (d gb mp pp : Nat) (G : Ge) (l : List Bk) (ck : Nat) (w : World) (k : NAt w d gb mp pp G l #[] ck) :
    Calls Tryz.prog 52 #[.pointer (some ⟨d, 0, none⟩)] w fun e w' => e = .returned (.tuple #[.slice none 0 0, .int .i64 0]) ∧ Only (fun _ => False) w w' := by
  have HAL := Lib.hid (fun W (o : Only (fun _ => False) w W) => all_none d gb mp pp G l ck W (k.quiet o))
  have hmf : ∀ (fn : Fn) (first cap : Array Value) (w : World), (Instr.makeFunc fn first cap).run Tryz.prog w = .ok (.func fn first cap) w := fun _ _ _ _ => rfl
  clear k
  go_enter_defers Tryz.func52, Tryz.ntmps52
  have HB := Lib.hid (((Only.refl (fun _ => False) w).alloc (.cells #[.slice none 0 0] 127)).alloc (.cells #[.int .i64 0] 41))
  have HA1 := Lib.hid ((At.new w 127 #[.slice none 0 0]).alloc (.cells #[.int .i64 0] 41))
  have HA2 := Lib.hid (At.new (w.alloc (.cells #[.slice none 0 0] 127)) 41 #[.int .i64 0])
  go_wp2_with (fail)
  refine (HAL.out _ HB.out).mono ?_
  rintro e w2 ⟨rfl, hO⟩
  have hs : (w.alloc (.cells #[.slice none 0 0] 127)).heap.size = w.heap.size + 1 := by simp
  have a1 := (HA1.out.only hO id).set 0 (.slice none 0 0)
  have a2 := (HA2.out.only hO id)
  rw [hs] at a2
  have f1 := (HA1.out.only hO id).frozen 0
  have f2 := a2.frozen 0
  have b1 := (a1.far (p := ⟨w.heap.size + 1, 0, none⟩) (by simp) (.int .i64 0)).cell 0
  have b2 := ((a2.far (p := ⟨w.heap.size, 0, none⟩) (by simp) (.slice none 0 0)).set 0 (.int .i64 0)).cell 0
  have c1 := (HA1.out.only hO id).cell 0
  have c2 := a2.cell 0
  simp only [List.setIfInBounds_toArray, List.set_cons_zero, List.getElem?_toArray, List.getElem?_cons_zero] at b1 b2 c1 c2
  have HO2 := Lib.hid (((HB.out.trans hO).setCell (p := ⟨w.heap.size, 0, none⟩) (fun h => by simp at h) (.slice none 0 0)).setCell (p := ⟨w.heap.size + 1, 0, none⟩) (fun h => by simp at h; omega) (.int .i64 0))
  clear hO a1 a2 hs
  go_wp2
  refine leaves_cons (f := 104) (args := #[.pointer (some ⟨w.heap.size, 0, none⟩), .pointer (some ⟨w.heap.size + 1, 0, none⟩)]) (by simp) (by simp [go_sem]) ?_
  refine (cut_scan _ _ _).mono ?_
  rintro e u' w'' ⟨rfl, rfl, rfl⟩
  simp [Leaves, settle, results, Tryz.results52, go_sem, b1, b2]
  exact HO2.out

/-- Is a block retired? -/
def rOf (l : List Bk) (q : Nat) : Bool := (l.getD q ⟨0, 0, false⟩).r
/-- How many of a line's blocks, of the first k units, are good. -/
def goodTo (bn : Nat) (l : List Bk) (b : Nat) : Nat → Int
  | 0 => 0
  | k + 1 => goodTo bn l b k + if rOf l (k * bn + b) then 0 else 1
theorem goodTo_bd (bn : Nat) (l : List Bk) (b : Nat) : ∀ k : Nat, 0 ≤ goodTo bn l b k ∧ goodTo bn l b k ≤ k
  | 0 => by simp [goodTo]
  | k + 1 => by
    have := goodTo_bd bn l b k
    simp only [goodTo]
    split <;> omega
/-- Of each line. -/
def goodsL (bn : Nat) (l : List Bk) (un : Nat) : Nat → List Int
  | 0 => []
  | k + 1 => goodsL bn l un k ++ [goodTo bn l k un]
theorem goodsL_len (bn : Nat) (l : List Bk) (un : Nat) : ∀ k, (goodsL bn l un k).length = k
  | 0 => rfl
  | k + 1 => by simp [goodsL, goodsL_len bn l un k]
theorem iv_app (xs : List Int) (z : Int) : iv (xs ++ [z]) = iv xs ++ [.int .i64 z] := by simp [iv]
def GoodsP (G : Ge) (l : List Bk) (w : World) (e : Ending) (w' : World) : Prop :=
  ∃ A c g, e = .returned (.tuple #[.slice A G.b.toNat c, .int .i64 0]) ∧ RowAt w' A G.b.toNat c g 3 1 (iv (goodsL G.b.toNat l G.u.toNat G.b.toNat)) ∧ (A ≠ none → w.heap.size ≤ g) ∧ Only (fun _ => False) w w'

theorem retired_r (d gb mp pp : Nat) (G : Ge) (l : List Bk) (es : Array MapEntry) (ck : Nat) (u n : Nat) (hu : (u : Int) < G.u) (hn : (n : Int) < G.b) (w : World) (k : NAt w d gb mp pp G l es ck) :
    Calls Tryz.prog 109 #[.pointer (some ⟨d, 0, none⟩), .int .i64 u, .int .i64 n] w fun e w' => e = .returned (.bool (rOf l (u * G.b.toNat + n))) ∧ Only (fun _ => False) w w' := by
  obtain ⟨s1, s2, s3, s4⟩ := spot_lt k.is hu hn
  have hq : u * G.b.toNat + n < l.length := by have := k.len; omega
  have := retired_any d gb mp pp G l es ck u n hu hn hq w k
  have e : (l[u * G.b.toNat + n]'hq).r = rOf l (u * G.b.toNat + n) := by simp [rOf, List.getD, hq]
  rw [e] at this
  exact this

set_option maxRecDepth 100000 in
set_option maxHeartbeats 8000000 in
theorem goods_any (d gb mp pp : Nat) (G : Ge) (l : List Bk) (es : Array MapEntry) (ck : Nat) (w : World) (k : NAt w d gb mp pp G l es ck) :
    Calls Tryz.prog 55 #[.pointer (some ⟨d, 0, none⟩)] w (GoodsP G l w) := by
  have HRD := Lib.hid (fun W (o : Only (fun _ => False) w W) => ready_any d gb mp pp G l es ck W (k.quiet o))
  have HGE := Lib.hid (fun W (o : Only (fun _ => False) w W) => geometry_any d gb mp pp G l es ck W (k.quiet o))
  have HU := Lib.hid (fun W => units_any G k.is W)
  have HRT := Lib.hid (fun W (o : Only (fun _ => False) w W) (u n : Nat) (hu : (u : Int) < G.u) (hn : (n : Int) < G.b) => retired_r d gb mp pp G l es ck u n hu hn W (k.quiet o))
  have hub : 1 ≤ G.u ∧ G.u ≤ 8 := k.is.u
  have hbb := k.is.b
  have hmf : ∀ (fn : Fn) (first cap : Array Value) (w : World), (Instr.makeFunc fn first cap).run Tryz.prog w = .ok (.func fn first cap) w := fun _ _ _ _ => rfl
  obtain ⟨i0, hi⟩ : ∃ i, Tryz.prog.info? 3 = some i := ⟨_, rfl⟩
  have HIT := Lib.hid (And.intro hi (And.intro (show i0.zero = some (.int .i64 0) by cases hi; rfl) (And.intro (show i0.size = 1 by cases hi; rfl) (show i0.bytes = 8 by cases hi; rfl))))
  clear k hi
  unfold GoodsP
  obtain ⟨n, hn⟩ : ∃ n : Nat, G.b = n := ⟨G.b.toNat, by omega⟩
  obtain ⟨un, hun⟩ : ∃ n : Nat, G.u = n := ⟨G.u.toNat, by omega⟩
  unfold Ge.val at *
  rw [hun] at HU HRT hub ⊢
  rw [hn] at HGE HU HRT hbb ⊢
  simp only [Int.toNat_natCast] at HRT ⊢
  obtain ⟨gc, gl, gbb, gp, gs⟩ := G
  simp only at *
  clear hn hun
  go_enter_defers Tryz.func55, Tryz.ntmps55
  have HB := Lib.hid (((Only.refl (fun _ => False) w).alloc (.cells #[.slice none 0 0] 26)).alloc (.cells #[.int .i64 0] 41))
  have HA1 := Lib.hid ((At.new w 26 #[.slice none 0 0]).alloc (.cells #[.int .i64 0] 41))
  have HA2 : Hid (At ((w.alloc (.cells #[.slice none 0 0] 26)).alloc (.cells #[.int .i64 0] 41)) (w.heap.size + 1) 41 #[.int .i64 0]) := Lib.hid (At.new' (w := w.alloc (.cells #[.slice none 0 0] 26)) (by simp) 41 #[.int .i64 0])
  go_wp2_with (fail)
  refine (HRD.out _ HB.out).mono ?_
  rintro e w2 ⟨rfl, rfl⟩
  go_wp2_with (fail)
  refine (HGE.out _ HB.out).mono ?_
  rintro e w3 ⟨rfl, hO⟩
  have oa := hO.alloc (.cells #[.int .i64 gc, .int .i64 gl, .int .i64 n, .int .i64 gp, .int .i64 gs] 23)
  have HO3 := Lib.hid (HB.out.trans oa)
  have HQ1 := Lib.hid (HA1.out.only oa id)
  have HQ2 := Lib.hid (HA2.out.only oa id)
  have HQ3 := Lib.hid (At.new w3 23 #[.int .i64 gc, .int .i64 gl, .int .i64 n, .int .i64 gp, .int .i64 gs])
  have HSZ : Hid (w.heap.size + 1 < w3.heap.size) := Lib.hid (by have := hO.size; simp at this; omega)
  clear oa hO HB HA1 HA2
  go_wp2_with (fail)
  go_loopw [5, 6, 7, 15] (fun v5 v6 v7 v15 wr => ∃ (i : Nat) (A : Option Addr) (c g : Nat), i ≤ n ∧ v15 = .int .i64 i ∧ At wr w.heap.size 26 #[.slice A i c] ∧ At wr (w.heap.size + 1) 41 #[.int .i64 0] ∧ At wr w3.heap.size 23 #[.int .i64 gc, .int .i64 gl, .int .i64 n, .int .i64 gp, .int .i64 gs] ∧ RowAt wr A i c g 3 1 (iv (goodsL n l un i)) ∧ (A ≠ none → w.heap.size ≤ g) ∧ Only (fun _ => False) w wr) (fun _ _ _ v15 _ => (n - intOf v15).toNat)
  case atStart => exact ⟨0, none, 0, 0, by omega, rfl, HQ1.out, HQ2.out, HQ3.out, .inl ⟨rfl, rfl, rfl, rfl⟩, by simp, HO3.out⟩
  case round =>
    obtain ⟨i, A, c, g, hi, rfl, hx1, hx2, hx3, hrow, hge, hO⟩ := hrel
    have HX1 := Lib.hid hx1
    have HX2 := Lib.hid hx2
    have HX3 := Lib.hid hx3
    have HROW := Lib.hid hrow
    have HGR := Lib.hid hge
    have HO := Lib.hid hO
    clear hx1 hx2 hx3 hrow hge hO HO3 HQ1 HQ2 HQ3
    have c0 := HX3.out.cell 0
    have c1 := HX3.out.cell 1
    have c2 := HX3.out.cell 2
    have c3 := HX3.out.cell 3
    have c4 := HX3.out.cell 4
    simp only [List.getElem?_toArray, List.getElem?_cons_zero, List.getElem?_cons_succ] at c0 c1 c2 c3 c4
    by_cases hin : i < n
    · have i1 : (i : Int) < n := by omega
      go_wp2_with (fail)
      refine (HU.out _).mono ?_
      rintro e w4 ⟨rfl, hO⟩
      have HX1a := Lib.hid (HX1.out.only hO id)
      have HX2a := Lib.hid (HX2.out.only hO id)
      have HX3a := Lib.hid (HX3.out.only hO id)
      have HROWa := Lib.hid (HROW.out.only hO (fun _ => id))
      have HOa := Lib.hid (HO.out.trans hO)
      clear hO c0 c1 c2 c3 c4 HX1 HX2 HX3 HROW HO
      go_wp2_with (fail)
      go_loopw [6, 7, 20] (fun v6 v7 v20 wr => ∃ (u : Nat), u ≤ un ∧ v6 = .int .i64 (goodTo n l i u) ∧ v20 = .int .i64 u ∧ Only (fun _ => False) w4 wr) (fun _ _ v20 _ => (un - intOf v20).toNat)
      case atStart => exact ⟨0, by omega, rfl, rfl, Only.refl _ _⟩
      case round =>
        obtain ⟨u, hu, rfl, rfl, hO⟩ := hrel
        have HOb := Lib.hid hO
        clear hO
        by_cases hul : u < un
        · have i2 : (u : Int) < un := by omega
          go_wp2_with (fail)
          refine (HRT.out _ (HOa.out.trans HOb.out) u i i2 i1).mono ?_
          rintro e w5 ⟨rfl, hO⟩
          have HOc := Lib.hid (HOb.out.trans hO)
          clear hO
          obtain ⟨b1, b2⟩ := goodTo_bd n l i u
          have hg1 : goodTo n l i (u + 1) = goodTo n l i u + if rOf l (u * n + i) then 0 else 1 := rfl
          have HG1 := Lib.hid hg1
          clear hg1
          generalize goodTo n l i u = z at *
          cases hrr : rOf l (u * n + i) with
          | true =>
            rw [hrr] at HG1
            have HR := Lib.hid hrr
            clear hrr
            go_wp2
            go_roundw
            case rel => exact ⟨u + 1, by omega, by rw [HG1.out]; simp, by simp, HOc.out⟩
            case measure => simp [intOf]; omega
          | false =>
            rw [hrr] at HG1
            have HR := Lib.hid hrr
            clear hrr
            have e1 : IntKind.i64.wrap (z + 1) = z + 1 := IntWalk.i64_in _ (by omega)
            have e1' : wrap64 (z + 1) = z + 1 := by rw [← IntWalk.i64_left]; exact e1
            go_wp2
            go_roundw
            case rel => exact ⟨u + 1, by omega, by rw [HG1.out]; simp, by simp, HOc.out⟩
            case measure => simp [intOf]; omega
        · obtain rfl : u = un := by omega
          have i2 : decide ((u : Int) < u) = false := by simp
          have hgl : goodsL n l u (i + 1) = goodsL n l u i ++ [goodTo n l i u] := rfl
          have HGL := Lib.hid hgl
          clear hgl
          generalize goodTo n l i u = z at *
          have hsz := HX3a.out.lt
          have hx1 := HX1a.out.only HOb.out id
          have hx2 := HX2a.out.only HOb.out id
          have hx3 := HX3a.out.only HOb.out id
          have hrw := HROWa.out.only HOb.out (fun _ => id)
          have hoo := HOa.out.trans HOb.out
          obtain ⟨wx, hwx⟩ : ∃ wx, wx = wr := ⟨_, rfl⟩
          subst hwx
          have oa := (Only.refl (fun _ => False) wx).alloc (.cells #[.int .i64 z] 3)
          have HX1b := Lib.hid (hx1.only oa id)
          have HX2b := Lib.hid (hx2.only oa id)
          have HX3b := Lib.hid (hx3.only oa id)
          have HROWb := Lib.hid (hrw.only oa (fun _ => id))
          have HOo := Lib.hid (hoo.trans oa)
          have HN := Lib.hid (At.new wx 3 #[.int .i64 z])
          have c0 := hx1.cell 0
          simp only [List.getElem?_toArray, List.getElem?_cons_zero, List.getElem?_cons_succ] at c0
          have hkm : i + 1 ≤ maxLen := by unfold maxLen; omega
          clear hx1 hx2 hx3 hrw hoo oa HX1a HX2a HX3a HROWa HOa HOb hsz
          go_wp2_with (at_builtin; go_loud (refine wpList_append_row _ rfl (.tmp 31) (.tmp 33) 26 rfl 3 i0 (.int .i64 0) 1 8 Tryz.underlying26 HIT.out.1 HIT.out.2.1 HIT.out.2.2.1 HIT.out.2.2.2 rfl (by decide) A i c g (iv (goodsL n l u i)) rfl HROWb.out ⟨wx.heap.size, 0, none⟩ [.int .i64 z] 1 rfl rfl (fun j u hj => At.reads HN.out j u hj) (by simp [Value.oneCell']) hkm (by omega) ?_); intro A3 c9 g3 w8 hrow3 hO3 hA3; have HR3 := Lib.hid hrow3; have HO3 := Lib.hid hO3; have HA3 := Lib.hid hA3; have hx8 := HX1b.out.only hO3 (fun h => HROWb.out.neAt HX1b.out h.1 (by decide) h.2.symm); have HX8 := Lib.hid hx8; have f8 := hx8.frozen 0; have c8 := hx8.cell 0; simp only [List.getElem?_toArray, List.getElem?_cons_zero] at c8; clear hrow3 hO3 hA3 hx8)
          have o9 := (Only.refl (fun i => i = w.heap.size) w8).setCell (p := ⟨w.heap.size, 0, none⟩) (fun _ => rfl) (.slice A3 (i + 1) c9)
          have y1 : At (w8.setCell ⟨w.heap.size, 0, none⟩ (.slice A3 (i + 1) c9)) w.heap.size 26 #[.slice A3 (i + 1) c9] := HX8.out.set 0 _
          have y2 := (HX2b.out.only HO3.out (fun h => HROWb.out.neAt HX2b.out h.1 (by decide) h.2.symm)).only o9 (by omega)
          have y3 := (HX3b.out.only HO3.out (fun h => HROWb.out.neAt HX3b.out h.1 (by decide) h.2.symm)).only o9 (by have := HSZ.out; omega)
          have y4 := HR3.out.only o9 (fun hA => HR3.out.neAt HX8.out hA (by decide))
          rw [← iv_app, ← HGL.out] at y4
          have hwz := HOo.out.size
          have y5 : A3 ≠ none → w.heap.size ≤ g3 := fun _ => by
            rcases HA3.out.2 with ⟨h1, h2⟩ | h2
            · rw [h2]; exact HGR.out h1
            · omega
          have y6 := (HOo.out.trans' HO3.out (fun i hi e => by have := HGR.out e.1; omega)).setCell (p := ⟨w.heap.size, 0, none⟩) (fun h => by simp at h) (.slice A3 (i + 1) c9)
          have HFIN := Lib.hid (And.intro y1 (And.intro y2 (And.intro y3 (And.intro y4 (And.intro y5 y6)))))
          clear y1 y2 y3 y4 y5 y6 o9 hwz c8 f8
          go_roundw
          case rel => exact ⟨i + 1, A3, c9, g3, by omega, by simp, HFIN.out.1, HFIN.out.2.1, HFIN.out.2.2.1, HFIN.out.2.2.2.1, HFIN.out.2.2.2.2.1, HFIN.out.2.2.2.2.2⟩
          case measure => simp [intOf]; omega
    · obtain rfl : i = n := by omega
      have i1 : decide ((i : Int) < i) = false := by simp
      have d0 := HX1.out.cell 0
      have d1 := HX2.out.cell 0
      simp only [List.getElem?_toArray, List.getElem?_cons_zero, List.getElem?_cons_succ] at d0 d1
      have f1 := HX1.out.frozen 0
      have f2 := HX2.out.frozen 0
      have b1 := ((HX1.out.set 0 (.slice A i c)).far (p := ⟨w.heap.size + 1, 0, none⟩) (by simp) (.int .i64 0)).cell 0
      have b2 := ((HX2.out.far (p := ⟨w.heap.size, 0, none⟩) (by simp) (.slice A i c)).set 0 (.int .i64 0)).cell 0
      simp only [List.setIfInBounds_toArray, List.set_cons_zero, List.getElem?_toArray, List.getElem?_cons_zero] at b1 b2
      have o1 := (Only.refl (fun i => i = w.heap.size ∨ i = w.heap.size + 1) wr).setCell (p := ⟨w.heap.size, 0, none⟩) (fun _ => .inl rfl) (.slice A i c)
      have o2 := o1.setCell (p := ⟨w.heap.size + 1, 0, none⟩) (fun _ => .inr rfl) (.int .i64 0)
      have HY := Lib.hid (HROW.out.only o2 (fun hA h => by
        rcases h with h | h
        · exact HROW.out.neAt HX1.out hA (by decide) h
        · exact HROW.out.neAt HX2.out hA (by decide) h))
      have HO2 := Lib.hid ((HO.out.setCell (p := ⟨w.heap.size, 0, none⟩) (fun h => by simp at h) (.slice A i c)).setCell (p := ⟨w.heap.size + 1, 0, none⟩) (fun h => by simp at h; omega) (.int .i64 0))
      clear o1 o2 c0 c1 c2 c3 c4
      go_wp2
      refine leaves_cons (f := 107) (args := #[.pointer (some ⟨w.heap.size, 0, none⟩), .pointer (some ⟨w.heap.size + 1, 0, none⟩)]) (by simp) (by simp [go_sem]) ?_
      refine (cut_goods _ _ _).mono ?_
      rintro e u' w'' ⟨rfl, rfl, rfl⟩
      simp [Leaves, settle, results, Tryz.results55, go_sem, b1, b2]
      exact ⟨A, c, ⟨rfl, rfl⟩, g, HY.out, HGR.out, HO2.out⟩
end Go.Proofs.YtjobaplioidogaaGreat
