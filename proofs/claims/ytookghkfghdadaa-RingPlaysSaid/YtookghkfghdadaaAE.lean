/- Ring: the document's ring: turn, Done, Back, Get, Find. -/
import Derived.Test.YtookghkfghdadaaAD
namespace Go.Proofs.Ytookghkfghdadaa
open Go.RowKit

theorem ivrow_set {w : World} {A : Option Addr} {n c g off : Nat} {l : List Int} {m : Nat} {z : Int} (h : RowAt w A n c g 3 1 (iv l)) (hA : A = some ⟨g, off, none⟩) (hm : m < l.length) :
    RowAt (w.setCell ⟨g, off + m, none⟩ (.int .i64 z)) A n c g 3 1 (iv (l.set m z)) := by
  rcases h with ⟨h, _⟩ | ⟨off', cells, h1, h2, h3, h4, h5, h6, h7⟩
  · rw [h] at hA; cases hA
  · rw [hA] at h1
    injection h1 with h1
    injection h1 with _ h1 _
    subst h1
    have hml : (iv l).length = l.length := iv_len l
    refine .inr ⟨off, cells.setIfInBounds (off + m) (.int .i64 z), hA, h2.set _ _, h3, h4, by simpa using h5, by rw [iv_len, List.length_set, ← hml, h6], fun j u hu => ?_⟩
    have hj : j < l.length := by have := (List.getElem?_eq_some_iff.1 hu).1; rw [iv_len, List.length_set] at this; exact this
    rw [iv_get _ _ (by rw [List.length_set]; exact hj)] at hu
    by_cases hjm : j = m
    · subst hjm
      rw [Array.getElem?_setIfInBounds_self_of_lt (by have : j < n * 1 := by omega
                                                      have h8 : n * 1 ≤ c * 1 := Nat.mul_le_mul_right _ h3
                                                      omega)]
      simpa using hu
    · rw [Array.getElem?_setIfInBounds_ne (by omega)]
      rw [List.getElem_set_ne (fun e => hjm e.symm)] at hu
      exact h7 j u (by rw [iv_get l j hj]; exact hu)
theorem ivrow_frozen {w : World} {A : Option Addr} {n c g off : Nat} {l : List Int} (h : RowAt w A n c g 3 1 (iv l)) (hA : A = some ⟨g, off, none⟩) (i : Nat) : w.frozen? ⟨g, i, none⟩ = false := by
  rcases h with ⟨h, _⟩ | ⟨off', cells, h1, h2, _⟩
  · rw [h] at hA; cases hA
  · exact h2.frozen _
/-- A state is set. -/
theorem XM.setS {B : Nat} {w : World} {d : Nat} {size : Int} {ps : List PS} {ss : List Int} {L : XL} {off m : Nat} {z : Int} (k : XM B w d size ps ss L) (hA : L.A9 = some ⟨L.g9, off, none⟩) (hm : m < ss.length) :
    XM B (w.setCell ⟨L.g9, off + m, none⟩ (.int .i64 z)) d size ps (ss.set m z) L ∧ Only (fun i => L.A9 ≠ none ∧ i = L.g9) w (w.setCell ⟨L.g9, off + m, none⟩ (.int .i64 z)) := by
  have hn : L.A9 ≠ none := by rw [hA]; simp
  have hO : Only (fun i => L.A9 ≠ none ∧ i = L.g9) w (w.setCell ⟨L.g9, off + m, none⟩ (.int .i64 z)) := (Only.refl _ w).setCell (p := ⟨L.g9, off + m, none⟩) (fun _ => ⟨hn, rfl⟩) _
  refine ⟨⟨?_, k.sl.only hO (fun hA8 e => k.sl.ne k.sr hA8 hn (by decide) e.2), fun r hr => ⟨(k.ok r hr).row.only hO (fun hq e => (k.ok r hr).row.ne k.sr hq hn (by decide) e.2), (k.ok r hr).len⟩,
    by rw [List.length_set]; exact ivrow_set k.sr hA hm, by rw [List.length_set]; exact k.eq, k.len, k.hd, k.h8, k.h9⟩, hO⟩
  rw [List.length_set]
  exact k.st.only hO (fun e => k.sr.neAt k.st hn (by decide) e.2.symm)

/-- What a turn answers. -/
def xturnE (ss : List Int) (t : Nat) (p : Int) : Int := if p < t ∨ (ss.length : Int) ≤ p then 12 else if ss.getD p.toNat 0 = 1 then 0 else 13

set_option maxRecDepth 100000 in
set_option maxHeartbeats 2000000 in
theorem xturn_no (B d : Nat) (size : Int) (ps : List PS) (ss : List Int) (L : XL) (t : Nat) (ht : TL ss t) (p z : Int) (hE : xturnE ss t p ≠ 0) (w : World) (k : XM B w d size ps ss L) :
    Calls Try.prog 47 #[.pointer (some ⟨d, 0, none⟩), .int .i64 p, .int .i64 z] w fun e w' => e = .returned (.int .i64 (xturnE ss t p)) ∧ w' = w := by
  have c2 := k.st.cell 2
  simp at c2
  have H27 := Lib.hid (xhead_any B d size ps ss L w k)
  have H28 := Lib.hid (xtail_any B d size ps ss L t ht w k)
  have hlen := k.len
  have heq := k.eq
  rw [← heq] at H27
  by_cases h12 : p < t ∨ (ss.length : Int) ≤ p
  · have hv : xturnE ss t p = 12 := by unfold xturnE; rw [if_pos h12]
    rw [hv]
    have h12 : p < t ∨ ((t : Int) ≤ p ∧ (ss.length : Int) ≤ p) := by omega
    clear k ht hv hE
    rcases h12 with hp | ⟨hp, hp'⟩
    · go_enter Try.func47, Try.ntmps47
      go_wp2_with (fail)
      refine H28.out.mono ?_
      rintro e w1 ⟨rfl, rfl⟩
      go_wp2
      go_ret
      exact ⟨rfl, rfl⟩
    · go_enter Try.func47, Try.ntmps47
      go_wp2_with (fail)
      refine H28.out.mono ?_
      rintro e w1 ⟨rfl, rfl⟩
      go_wp2_with (fail)
      refine H27.out.mono ?_
      rintro e w2 ⟨rfl, rfl⟩
      go_wp2
      go_ret
      exact ⟨rfl, rfl⟩
  · obtain ⟨q, rfl⟩ : ∃ q : Nat, p = q := ⟨p.toNat, by omega⟩
    have hv : xturnE ss t q = if ss.getD q 0 = 1 then 0 else 13 := by unfold xturnE; rw [if_neg h12]; simp
    rw [hv] at hE ⊢
    have hqs : q < ss.length := by omega
    obtain ⟨off, hA, hc⟩ := row_cell k.sr hqs
    simp only [List.getD, List.getElem?_eq_getElem hqs, Option.getD_some] at hE ⊢
    generalize ss[q] = y at *
    rw [hA] at c2
    have hy : y ≠ 1 := fun e => hE (by rw [if_pos e])
    rw [if_neg hy]
    have t1 : (y != 1) = true := by simpa using hy
    have hp1 : (t : Int) ≤ q := by omega
    have hp2 : (q : Int) < ss.length := by omega
    clear k ht hv hE hA h12
    go_enter Try.func47, Try.ntmps47
    go_wp2_with (fail)
    refine H28.out.mono ?_
    rintro e w1 ⟨rfl, rfl⟩
    go_wp2_with (fail)
    refine H27.out.mono ?_
    rintro e w2 ⟨rfl, rfl⟩
    go_wp2
    go_ret
    exact ⟨rfl, rfl⟩

set_option maxRecDepth 100000 in
set_option maxHeartbeats 2000000 in
theorem xturn_ok (B d : Nat) (size : Int) (ps : List PS) (ss : List Int) (L : XL) (t : Nat) (ht : TL ss t) (q : Nat) (z : Int) (hq : t ≤ q ∧ q < ss.length) (h1 : ss.getD q 0 = 1) (w : World) (k : XM B w d size ps ss L) :
    Calls Try.prog 47 #[.pointer (some ⟨d, 0, none⟩), .int .i64 q, .int .i64 z] w fun e w' => e = .returned (.int .i64 0) ∧ XM B w' d size ps (ss.set q z) L ∧ Only (fun i => L.A9 ≠ none ∧ i = L.g9) w w' := by
  have c2 := k.st.cell 2
  simp at c2
  have H27 := Lib.hid (xhead_any B d size ps ss L w k)
  have H28 := Lib.hid (xtail_any B d size ps ss L t ht w k)
  have hlen := k.len
  have heq := k.eq
  rw [← heq] at H27
  obtain ⟨off, hA, hc⟩ := row_cell k.sr hq.2
  have HS := Lib.hid (k.setS (z := z) hA hq.2)
  have hfr := ivrow_frozen k.sr hA (off + q)
  simp only [List.getD, List.getElem?_eq_getElem hq.2, Option.getD_some] at h1
  rw [h1] at hc
  rw [hA] at c2
  have hp1 : (t : Int) ≤ q := by omega
  have hp2 : (q : Int) < ss.length := by omega
  have t1 : ((1 : Int) != 1) = false := by simp
  clear k ht h1 hA hq
  go_enter Try.func47, Try.ntmps47
  go_wp2_with (fail)
  refine H28.out.mono ?_
  rintro e w1 ⟨rfl, rfl⟩
  go_wp2_with (fail)
  refine H27.out.mono ?_
  rintro e w2 ⟨rfl, rfl⟩
  go_wp2
  go_ret
  exact ⟨rfl, HS.out⟩

set_option maxHeartbeats 2000000 in
theorem xdone_no (B d : Nat) (size : Int) (ps : List PS) (ss : List Int) (L : XL) (t : Nat) (ht : TL ss t) (p : Int) (hE : xturnE ss t p ≠ 0) (w : World) (k : XM B w d size ps ss L) :
    Calls Try.prog 43 #[.pointer (some ⟨d, 0, none⟩), .int .i64 p] w fun e w' => e = .returned (.int .i64 (xturnE ss t p)) ∧ w' = w := by
  have H := Lib.hid (xturn_no B d size ps ss L t ht p 2 hE w k)
  clear hE k ht
  go_enter Try.func43, Try.ntmps43
  go_wp2_with (fail)
  refine H.out.mono ?_
  rintro e w1 ⟨rfl, rfl⟩
  go_wp2
  go_ret
  exact ⟨rfl, rfl⟩
set_option maxHeartbeats 2000000 in
theorem xdone_ok (B d : Nat) (size : Int) (ps : List PS) (ss : List Int) (L : XL) (t : Nat) (ht : TL ss t) (q : Nat) (hq : t ≤ q ∧ q < ss.length) (h1 : ss.getD q 0 = 1) (w : World) (k : XM B w d size ps ss L) :
    Calls Try.prog 43 #[.pointer (some ⟨d, 0, none⟩), .int .i64 q] w fun e w' => e = .returned (.int .i64 0) ∧ XM B w' d size ps (ss.set q 2) L ∧ Only (fun i => L.A9 ≠ none ∧ i = L.g9) w w' := by
  have H := Lib.hid (xturn_ok B d size ps ss L t ht q 2 hq h1 w k)
  clear k ht h1 hq
  go_enter Try.func43, Try.ntmps43
  go_wp2_with (fail)
  refine H.out.mono ?_
  rintro e w1 ⟨rfl, h2⟩
  have H2 := Lib.hid h2
  clear h2
  go_wp2
  go_ret
  exact ⟨rfl, H2.out⟩
set_option maxHeartbeats 2000000 in
theorem xback_no (B d : Nat) (size : Int) (ps : List PS) (ss : List Int) (L : XL) (t : Nat) (ht : TL ss t) (p : Int) (hE : xturnE ss t p ≠ 0) (w : World) (k : XM B w d size ps ss L) :
    Calls Try.prog 44 #[.pointer (some ⟨d, 0, none⟩), .int .i64 p] w fun e w' => e = .returned (.int .i64 (xturnE ss t p)) ∧ w' = w := by
  have H := Lib.hid (xturn_no B d size ps ss L t ht p 0 hE w k)
  clear hE k ht
  go_enter Try.func44, Try.ntmps44
  go_wp2_with (fail)
  refine H.out.mono ?_
  rintro e w1 ⟨rfl, rfl⟩
  go_wp2
  go_ret
  exact ⟨rfl, rfl⟩
set_option maxHeartbeats 2000000 in
theorem xback_ok (B d : Nat) (size : Int) (ps : List PS) (ss : List Int) (L : XL) (t : Nat) (ht : TL ss t) (q : Nat) (hq : t ≤ q ∧ q < ss.length) (h1 : ss.getD q 0 = 1) (w : World) (k : XM B w d size ps ss L) :
    Calls Try.prog 44 #[.pointer (some ⟨d, 0, none⟩), .int .i64 q] w fun e w' => e = .returned (.int .i64 0) ∧ XM B w' d size ps (ss.set q 0) L ∧ Only (fun i => L.A9 ≠ none ∧ i = L.g9) w w' := by
  have H := Lib.hid (xturn_ok B d size ps ss L t ht q 0 hq h1 w k)
  clear k ht h1 hq
  go_enter Try.func44, Try.ntmps44
  go_wp2_with (fail)
  refine H.out.mono ?_
  rintro e w1 ⟨rfl, h2⟩
  have H2 := Lib.hid h2
  clear h2
  go_wp2
  go_ret
  exact ⟨rfl, H2.out⟩

def slotX (ps : List PS) (p : Nat) : Sl := (ps.map PS.x).getD p zeroSl
theorem slotX_lt (ps : List PS) (p : Nat) (h : p < ps.length) : slotX ps p = ps[p].x := by simp [slotX, List.getD, h]

set_option maxHeartbeats 2000000 in
theorem xget_no (B d : Nat) (size : Int) (ps : List PS) (ss : List Int) (L : XL) (t : Nat) (ht : TL ss t) (p : Int) (hp : p < t ∨ (ps.length : Int) ≤ p) (w : World) (k : XM B w d size ps ss L) :
    Calls Try.prog 45 #[.pointer (some ⟨d, 0, none⟩), .int .i64 p] w fun e w' => e = .returned (.tuple #[zeroSlot, .int .i64 12]) ∧ Only (fun _ => False) w w' := by
  have k1 := k.quiet ((Only.refl (fun _ => False) w).alloc (.cells #[.int .i64 0, .int .i64 0, .int .i64 0, .slice none 0 0, .int .i64 0] 37))
  have HZ := Lib.hid (At.new w 37 #[.int .i64 0, .int .i64 0, .int .i64 0, .slice none 0 0, .int .i64 0])
  have HO := Lib.hid ((Only.refl (fun _ => False) w).alloc (.cells #[.int .i64 0, .int .i64 0, .int .i64 0, .slice none 0 0, .int .i64 0] 37))
  have H27 := Lib.hid (xhead_any B d size ps ss L _ k1)
  have H28 := Lib.hid (xtail_any B d size ps ss L t ht _ k1)
  have hp : p < t ∨ ((t : Int) ≤ p ∧ (ps.length : Int) ≤ p) := by omega
  have hk := fun v => only_slot (w.alloc (.cells #[.int .i64 0, .int .i64 0, .int .i64 0, .slice none 0 0, .int .i64 0] 37)) w.heap.size 0 0 0 0 v
  have HK := Lib.hid hk
  clear k k1 ht hk
  rcases hp with hp | ⟨hp, hp'⟩
  · go_enter Try.func45, Try.ntmps45
    go_wp2_with (fail)
    generalize hwx : w.alloc (.cells #[.int .i64 0, .int .i64 0, .int .i64 0, .slice none 0 0, .int .i64 0] 37) = wx at *
    refine H28.out.mono ?_
    rintro e w1 ⟨rfl, rfl⟩
    clear hwx
    have z0 := HZ.out.frozen 0
    have y0 := HZ.out.cell 0
    have z1 := HZ.out.frozen 1
    have y1 := HZ.out.cell 1
    have z2 := HZ.out.frozen 2
    have y2 := HZ.out.cell 2
    have z3 := HZ.out.frozen 3
    have y3 := HZ.out.cell 3
    have z4 := HZ.out.frozen 4
    have y4 := HZ.out.cell 4
    simp at y0 y1 y2 y3 y4
    go_wp2
    refine bodyPost_ret (v := .tuple #[zeroSlot, .int .i64 12]) (results_row_tmp (p := 4) (u := 5) (ty := 37) rfl _ _ w.heap.size 37 #[.int .i64 0, .int .i64 0, .int .i64 0, .slice none 0 0, .int .i64 0] (0, 0) _ rfl (((((HZ.out.set 0 _).set 1 _).set 2 _).set 3 _).set 4 _) Try.underlying37 rfl (by kernel_rfl)) rfl ?_
    exact ⟨rfl, HO.out.trans' (HK.out _) (fun i hi h => by omega)⟩
  · go_enter Try.func45, Try.ntmps45
    go_wp2_with (fail)
    generalize hwx : w.alloc (.cells #[.int .i64 0, .int .i64 0, .int .i64 0, .slice none 0 0, .int .i64 0] 37) = wx at *
    refine H28.out.mono ?_
    rintro e w1 ⟨rfl, rfl⟩
    clear hwx
    have z0 := HZ.out.frozen 0
    have y0 := HZ.out.cell 0
    have z1 := HZ.out.frozen 1
    have y1 := HZ.out.cell 1
    have z2 := HZ.out.frozen 2
    have y2 := HZ.out.cell 2
    have z3 := HZ.out.frozen 3
    have y3 := HZ.out.cell 3
    have z4 := HZ.out.frozen 4
    have y4 := HZ.out.cell 4
    simp at y0 y1 y2 y3 y4
    go_wp2_with (fail)
    refine H27.out.mono ?_
    rintro e w2 ⟨rfl, rfl⟩
    go_wp2
    refine bodyPost_ret (v := .tuple #[zeroSlot, .int .i64 12]) (results_row_tmp (p := 4) (u := 5) (ty := 37) rfl _ _ w.heap.size 37 #[.int .i64 0, .int .i64 0, .int .i64 0, .slice none 0 0, .int .i64 0] (0, 0) _ rfl (((((HZ.out.set 0 _).set 1 _).set 2 _).set 3 _).set 4 _) Try.underlying37 rfl (by kernel_rfl)) rfl ?_
    exact ⟨rfl, HO.out.trans' (HK.out _) (fun i hi h => by omega)⟩

set_option maxRecDepth 100000 in
set_option maxHeartbeats 4000000 in
theorem xget_in (B d : Nat) (size : Int) (ps : List PS) (ss : List Int) (L : XL) (t : Nat) (ht : TL ss t) (q : Nat) (hq : t ≤ q ∧ q < ps.length) (w : World) (k : XM B w d size ps ss L) :
    Calls Try.prog 45 #[.pointer (some ⟨d, 0, none⟩), .int .i64 q] w (GetPost (slotX ps q) w) := by
  have hOB := (Only.refl (fun _ => False) w).alloc (.cells #[.int .i64 0, .int .i64 0, .int .i64 0, .slice none 0 0, .int .i64 0] 37)
  have k1 := k.quiet hOB
  have HZ := Lib.hid (At.new w 37 #[.int .i64 0, .int .i64 0, .int .i64 0, .slice none 0 0, .int .i64 0])
  have HO := Lib.hid hOB
  have H27 := Lib.hid (xhead_any B d size ps ss L _ k1)
  have H28 := Lib.hid (xtail_any B d size ps ss L t ht _ k1)
  have hsz : (w.alloc (.cells #[.int .i64 0, .int .i64 0, .int .i64 0, .slice none 0 0, .int .i64 0] 37)).heap.size = w.heap.size + 1 := by simp
  have c1 := k1.st.cell 1
  simp at c1
  obtain ⟨off, hA, d0, d1, d2, d3, d4⟩ := ps_cells k1.sl hq.2
  have hokq := k1.ok _ (List.getElem_mem hq.2)
  rw [slotX_lt ps q hq.2]
  generalize ps[q] = r at *
  obtain ⟨x, A, c, gp0⟩ := r
  have HOw := Lib.hid (copy_any x A c gp0 _ hokq.row.rd hokq.len)
  simp only at d0 d1 d2 d3 d4
  rw [hA] at c1
  have hlen := k.len
  have j1 : (t : Int) ≤ q := by omega
  have j2 : (q : Int) < ps.length := by omega
  clear k k1 ht hOB hA hokq
  go_enter Try.func45, Try.ntmps45
  go_wp2_with (fail)
  generalize hwx : w.alloc (.cells #[.int .i64 0, .int .i64 0, .int .i64 0, .slice none 0 0, .int .i64 0] 37) = wx at *
  refine H28.out.mono ?_
  rintro e w1 ⟨rfl, rfl⟩
  clear hwx
  go_wp2_with (fail)
  refine H27.out.mono ?_
  rintro e w2 ⟨rfl, rfl⟩
  go_wp2_with (fail)
  refine HOw.out.mono ?_
  rintro e w2 ⟨A', c', gp, rfl, hr2, hA2, hg2, hO2⟩
  have HR2 := Lib.hid hr2
  have HO2 := Lib.hid hO2
  have HZ2 := Lib.hid (HZ.out.only hO2 id)
  have z0 := HZ2.out.frozen 0
  have y0 := HZ2.out.cell 0
  have z1 := HZ2.out.frozen 1
  have y1 := HZ2.out.cell 1
  have z2 := HZ2.out.frozen 2
  have y2 := HZ2.out.cell 2
  have z3 := HZ2.out.frozen 3
  have y3 := HZ2.out.cell 3
  have z4 := HZ2.out.frozen 4
  have y4 := HZ2.out.cell 4
  simp at y0 y1 y2 y3 y4
  clear hr2 hO2
  simp only [Sl.val]
  go_wp2
  have hk := fun v => only_slot w2 w.heap.size x.k x.l x.s x.f v
  unfold GetPost
  refine bodyPost_ret (v := .tuple #[x.val A' c', .int .i64 0])
    (results_row_tmp (p := 4) (u := 5) (ty := 37) rfl _ _ w.heap.size 37 #[.int .i64 x.k, .int .i64 x.l, .int .i64 x.s, .slice A' x.data.length c', .int .i64 x.f] (0, 0) _ rfl (((((HZ2.out.set 0 _).set 1 _).set 2 _).set 3 _).set 4 _) Try.underlying37 rfl (by kernel_rfl)) rfl ?_
  exact ⟨A', c', gp, rfl, HR2.out.only (hk _) (fun _ => by omega), hA2, by omega, (HO.out.trans HO2.out).trans' (hk _) (fun i hi h => by omega)⟩

def okX (ps : List PS) (lba : Int) (p : Nat) : Bool := (slotX ps p).l == lba && decide ((slotX ps p).f < 0)

set_option maxRecDepth 100000 in
set_option maxHeartbeats 4000000 in
theorem xfind_any (B d : Nat) (size : Int) (ps : List PS) (ss : List Int) (L : XL) (t : Nat) (ht : TL ss t) (lba : Int) (w : World) (k : XM B w d size ps ss L) :
    Calls Try.prog 46 #[.pointer (some ⟨d, 0, none⟩), .int .i64 lba] w fun e w' => e = .returned (foundV (fd (okX ps lba) t ps.length)) ∧ w' = w := by
  have c1 := k.st.cell 1
  simp at c1
  have hlen := k.len
  have htl : t ≤ ps.length := by rw [← k.eq]; exact ht.le
  have H27 := Lib.hid (xhead_any B d size ps ss L w k)
  have H28 := Lib.hid (xtail_any B d size ps ss L t ht w k)
  have HSL := Lib.hid k.sl
  obtain ⟨h, hh⟩ : ∃ h, ps.length = h := ⟨_, rfl⟩
  have HN := Lib.hid hh
  rw [hh] at H27 c1 hlen htl ⊢
  clear k ht hh
  go_enter Try.func46, Try.ntmps46
  go_wp2_with (fail)
  refine H27.out.mono ?_
  rintro e w1 ⟨rfl, rfl⟩
  go_wp2_with (fail)
  go_loopw [6] (fun v wr => ∃ p : Nat, t ≤ p ∧ p ≤ h ∧ v = .int .i64 ((p : Int) - 1) ∧ fd (okX ps lba) t h = fd (okX ps lba) t p ∧ wr = w1) (fun v wr => (intOf v + 1).toNat)
  case atStart => exact ⟨h, by omega, by omega, rfl, rfl, rfl⟩
  case round =>
    obtain ⟨p, hp1, hp2, rfl, hf, rfl⟩ := hrel
    have HF := Lib.hid hf
    clear hf
    by_cases hpt : t < p
    · obtain ⟨m, rfl⟩ : ∃ m, p = m + 1 := ⟨p - 1, by omega⟩
      have e1 : ((m + 1 : Nat) : Int) - 1 = m := by omega
      rw [e1]
      have i1 : (t : Int) ≤ m := by omega
      have i2 : (m : Int) < h := by omega
      have i3 : (0 : Int) ≤ m := by omega
      have hfs : fd (okX ps lba) t (m + 1) = if okX ps lba m = true then some m else fd (okX ps lba) t m := by simp only [fd]; rw [if_pos (by omega)]
      have hms : m < ps.length := by rw [HN.out]; omega
      obtain ⟨off, hA, d0, d1, d2, d3, d4⟩ := ps_cells HSL.out hms
      have hok : okX ps lba m = (ps[m].x.l == lba && decide (ps[m].x.f < 0)) := by unfold okX; rw [slotX_lt ps m hms]
      rw [hok] at hfs
      have HFS := Lib.hid (HF.out.trans hfs)
      generalize ps[m] = r at *
      obtain ⟨⟨xk, xl, xs, xf, xd⟩, A, c, gp0⟩ := r
      simp only at d0 d1 d2 d3 d4 HFS
      rw [hA] at c1
      clear hfs hok hA HF
      go_wp2_with (fail)
      refine H28.out.mono ?_
      rintro e w2 ⟨rfl, rfl⟩
      by_cases hl : xl = lba
      · subst hl
        by_cases hfz : xf < 0
        · have hr : fd (okX ps xl) t h = some m := by have := HFS.out; simpa [hfz] using this
          have HR := Lib.hid hr
          clear hr HFS
          go_wp2
          go_ret2
          rw [HR.out]
          exact ⟨rfl, rfl⟩
        · have hr : fd (okX ps xl) t h = fd (okX ps xl) t m := by have := HFS.out; simpa [hfz] using this
          have HR := Lib.hid hr
          have hfz' : decide (xf < 0) = false := by simp; omega
          clear hr HFS
          go_wp2
          go_roundw
          case rel => exact ⟨m, by omega, by omega, rfl, HR.out, by trivial⟩
          case measure => simp [intOf]; try omega
      · have hr : fd (okX ps lba) t h = fd (okX ps lba) t m := by have := HFS.out; simpa [hl] using this
        have HR := Lib.hid hr
        have hl' : (xl == lba) = false := beq_false_of_ne hl
        clear hr HFS
        go_wp2
        go_roundw
        case rel => exact ⟨m, by omega, by omega, rfl, HR.out, by trivial⟩
        case measure => simp [intOf]; try omega
    · have hpe : p = t := by omega
      have hn : fd (okX ps lba) t p = none := by
        rw [hpe]
        cases t with
        | zero => rfl
        | succ t => simp only [fd]; rw [if_neg (by omega)]
      have HR := Lib.hid (HF.out.trans hn)
      have i1 : ¬ (t : Int) ≤ (p : Int) - 1 := by omega
      have i2 : decide ((t : Int) ≤ (p : Int) - 1) = false := by simp; omega
      clear hn hpe
      go_wp2_with (fail)
      refine H28.out.mono ?_
      rintro e w2 ⟨rfl, rfl⟩
      go_wp2
      go_ret2
      rw [HR.out]
      exact ⟨rfl, rfl⟩
end Go.Proofs.Ytookghkfghdadaa
