/- Plan: the walk of PlanOwn. -/
import Derived.Test.YtanoicdjbbmimaaH
namespace Go.Proofs.Ytanoicdjbbmimaa
open Go.RowKit

/-- Block g holds n bytes or more, whatever they are. -/
def Scr (w : World) (g n : Nat) : Prop := ∃ cur, At w g 5 cur ∧ ∀ j, j < n → ∃ z, cur[j]? = some (.int .u8 z)

theorem Scr.only {S : Nat → Prop} {w w' : World} {g n : Nat} (h : Scr w g n) (k : Only S w w') (hg : ¬ S g) : Scr w' g n := by
  obtain ⟨cur, h1, h2⟩ := h
  exact ⟨cur, h1.only k hg, h2⟩
theorem Scr.set {w : World} {g n j : Nat} (h : Scr w g n) (hj : j < n) (z : Int) : Scr (w.setCell ⟨g, j, none⟩ (.int .u8 z)) g n := by
  obtain ⟨cur, h1, h2⟩ := h
  refine ⟨_, h1.set j _, fun i hi => ?_⟩
  by_cases e : j = i
  · subst e
    obtain ⟨z', hz⟩ := h2 j hj
    have := (Array.getElem?_eq_some_iff.1 hz).1
    exact ⟨z, by simp [Array.getElem?_setIfInBounds, this]⟩
  · obtain ⟨z', hz⟩ := h2 i hi
    exact ⟨z', by simp [Array.getElem?_setIfInBounds, e, hz]⟩
theorem Scr.of_row {w : World} {base c : Nat} {A : Option Addr} {l : List Int} (h : w.ownsRow base 5 1 (.slice A l.length c) l.length (bv l)) :
    l.length = 0 ∨ ∃ g, A = some ⟨g, 0, none⟩ ∧ base ≤ g ∧ g < w.heap.size ∧ Scr w g l.length := by
  rcases h.2 with ⟨_, h0⟩ | ⟨g, cap, cur, he, hb, hg, _, _, hs, hx⟩
  · exact .inl h0
  · injection he with hA _ _
    refine .inr ⟨g, hA, hb, (Array.getElem?_eq_some_iff.1 hg).1, cur, hg, fun j hj => ?_⟩
    have : (bv l)[j]? = some (.int .u8 l[j]) := by simp [hj]
    rw [← hx, List.getElem?_take] at this
    split at this
    · exact ⟨l[j], by simpa using this⟩
    · cases this

/-- The scratch row that the law turns upside down: none, or one of its own, apart from what the plans hold. -/
def ScrAt (B b1 g1 b2 g2 n : Nat) (A : Option Addr) (w : World) : Prop :=
  n = 0 ∨ ∃ g, A = some ⟨g, 0, none⟩ ∧ B ≤ g ∧ g ≠ b1 ∧ g ≠ g1 ∧ g ≠ b2 ∧ g ≠ g2 ∧ Scr w g n

set_option maxRecDepth 100000 in
set_option maxHeartbeats 4000000 in
theorem planOwn_walk (ga c1 : Nat) (A1 : Option Addr) (l : List Int) (many : Int) (w : World) (hl : Rd w ga A1 (bv l)) (hl5 : ∀ x ∈ l, 0 ≤ x ∧ x ≤ 255) :
    Calls Try.prog 6 #[.slice A1 l.length c1, .int .i64 many] w fun e w' => e = .returned (.bool true) ∧ Below w.heap.size w w' := by
  have H5 := Lib.hid hl5
  clear hl5
  have HL := Lib.hid hl
  clear hl
  by_cases hbig : 2000 < l.length
  · go_enter Try.func6, Try.ntmps6
    go_wp2_with (go_at_call 7; refine (awake_any _).mono ?_; rintro e w0 ⟨rfl, hB0⟩)
    all_goals (go_ret; exact ⟨rfl, hB0⟩)
  · have hsm : l.length ≤ 2000 := by omega
    clear hbig
    by_cases hm0 : many < 0
    · go_enter Try.func6, Try.ntmps6
      go_wp2_with (go_at_call 7; refine (awake_any _).mono ?_; rintro e w0 ⟨rfl, hB0⟩)
      all_goals (go_ret; exact ⟨rfl, hB0⟩)
    · by_cases hm2 : 2000 < many
      · go_enter Try.func6, Try.ntmps6
        go_wp2_with (go_at_call 7; refine (awake_any _).mono ?_; rintro e w0 ⟨rfl, hB0⟩)
        all_goals (go_ret; exact ⟨rfl, hB0⟩)
      · obtain ⟨mn, rfl⟩ := Int.eq_ofNat_of_zero_le (show 0 ≤ many by omega)
        have hmn : mn ≤ 2000 := by omega
        clear hm0 hm2
        obtain ⟨i0, hi, hz0, hz1, hz2⟩ := info_parts Try.info5
        go_enter Try.func6, Try.ntmps6
        go_wp2_with (fail)
        refine (awake_any _).mono ?_
        rintro e w0 ⟨rfl, hB0⟩
        have hO0 : Only (fun i => w.heap.size ≤ i) w w0 := Only.of_below hB0
        have hown0 := ownsRow_fresh w0 5 1
        have hr0 : Rd (w0.alloc (.cells #[] 5)) ga A1 (bv l) := HL.out.old (hO0.alloc _) (Nat.le_refl _)
        have HO0 := Lib.hid hO0
        clear hO0 hB0
        go_wp2_with (at_builtin; refine wpList_append_src _ rfl (.tmp 30) (.tmp 31) 22 rfl w0.heap.size 5 i0 (.int .u8 0) 1 1 Try.underlying22 hi hz0 hz1 hz2 rfl (by decide) (.slice (some ⟨w0.heap.size, 0, none⟩) 0 0) 0 [] rfl hown0 ga A1 l.length c1 (bv l) rfl (by simp) hr0 (bv_one l) (by unfold maxLen; omega) (by omega) (by simp) ?_; intro Ax cx w1 hcx hownx hgrowx hatx; clear hown0 hr0)
        simp only [Nat.zero_add, List.nil_append] at hownx hcx hatx
        obtain ⟨gx, _, _, hrdx⟩ := Rd.of_row hownx (Nat.lt_of_lt_of_le (by simp) hgrowx.size)
        have hO1 : Only (fun i => w.heap.size ≤ i) w w1 := HO0.out.trans ((((Only.refl (fun _ => False) w0).alloc _).grown hgrowx (by intro i hi e; simp [Value.ownBlock] at e; omega)).toOld _)
        have hn1 := Lib.hid (new_any gx Ax cx l w1 hrdx (by omega))
        have HO1 := Lib.hid hO1
        clear hO1 HO0 hrdx hgrowx hownx hatx
        refine hn1.out.mono ?_
        rintro e w2 ⟨b1, g1, rfl, hb1, hg1, hlt1, hgl1, hP1, hO2⟩
        have hs1 := HO1.out.size
        have hO12 := HO1.out.trans (hO2.toOld _)
        have HO2 := Lib.hid hO12
        have HP1 := Lib.hid hP1
        have HQ : Hid (w.heap.size ≤ b1 ∧ w.heap.size ≤ g1 ∧ b1 < w2.heap.size ∧ g1 < w2.heap.size) := ⟨by omega, by omega, hlt1, hgl1⟩
        have hown2 := ownsRow_fresh w2 5 1
        have hr2 : Rd (w2.alloc (.cells #[] 5)) ga A1 (bv l) := HL.out.old (hO12.alloc _) (Nat.le_refl _)
        clear hO12 hO2 hP1 hb1 hg1 hlt1 hgl1 hs1 hn1 HO1
        go_wp2_with (at_builtin; refine wpList_append_src _ rfl (.tmp 34) (.tmp 35) 22 rfl w2.heap.size 5 i0 (.int .u8 0) 1 1 Try.underlying22 hi hz0 hz1 hz2 rfl (by decide) (.slice (some ⟨w2.heap.size, 0, none⟩) 0 0) 0 [] rfl hown2 ga A1 l.length c1 (bv l) rfl (by simp) hr2 (bv_one l) (by unfold maxLen; omega) (by omega) (by simp) ?_; intro Ay cy w3 hcy howny hgrowy haty; clear hown2 hr2)
        simp only [Nat.zero_add, List.nil_append] at howny hcy haty
        have hlt3 : w2.heap.size < w3.heap.size := Nat.lt_of_lt_of_le (by simp) hgrowy.size
        obtain ⟨gy, _, hlty, hrdy⟩ := Rd.of_row howny hlt3
        have hscr := Scr.of_row howny
        have hO23 : Only (fun _ => False) w2 w3 := ((Only.refl (fun _ => False) w2).alloc _).grown hgrowy (by intro i hi e; simp [Value.ownBlock] at e; omega)
        have HO3 := Lib.hid (HO2.out.trans (hO23.toOld _))
        have HP1' := Lib.hid (HP1.out.only hO23 id id)
        have hn2 := Lib.hid (new_any gy Ay cy l w3 hrdy (by omega))
        have hs2 := HO2.out.size
        clear hO23 hrdy hgrowy howny haty HP1 HO2
        refine hn2.out.mono ?_
        rintro e w4 ⟨b2, g2, rfl, hb2, hg2, hlt2, hgl2, hP2, hO4⟩
        obtain ⟨p1, p2, p3, p4⟩ := HQ.out
        have HQ2 : Hid (w.heap.size ≤ b1 ∧ w.heap.size ≤ g1 ∧ w.heap.size ≤ b2 ∧ w.heap.size ≤ g2 ∧ b1 ≠ b2 ∧ b1 ≠ g2 ∧ g1 ≠ b2 ∧ g1 ≠ g2) := ⟨p1, p2, by omega, by omega, by omega, by omega, by omega, by omega⟩
        have HB : Hid (b1 < w4.heap.size ∧ g1 < w4.heap.size ∧ b2 < w4.heap.size ∧ g2 < w4.heap.size) := by
          have := hO4.size
          exact ⟨by omega, by omega, hlt2, hgl2⟩
        have HI : Hid (RestsInv w b1 g1 b2 g2 l 0 0 w4) := ⟨HP1'.out.only hO4 id id, hP2, HO3.out.trans (hO4.toOld _)⟩
        have HScr : Hid (ScrAt w.heap.size b1 g1 b2 g2 l.length Ay w4) := by
          rcases hscr with h | ⟨g, e1, e2, e3, e4⟩
          · exact .inl h
          · have := hO4.size
            exact .inr ⟨g, e1, by omega, by omega, by omega, by omega, by omega, e4.only hO4 id⟩
        clear hscr hO4 hP2 hb2 hg2 hlt2 hgl2 p1 p2 p3 p4 HQ HP1' HO3 hn2 hs2 hlt3 hlty
        go_wp2
        obtain ⟨wo, rfl⟩ : ∃ wo : World, wo = w4 := ⟨_, rfl⟩
        go_loopw [9] (fun v wr => ∃ k : Nat, k ≤ l.length ∧ v = .int .i64 k ∧ RestsInv w b1 g1 b2 g2 l 0 0 wr ∧ ScrAt w.heap.size b1 g1 b2 g2 l.length Ay wr ∧ wo.heap.size ≤ wr.heap.size) (fun v _ => l.length - (intOf v).toNat)
        case atStart => exact ⟨0, by omega, rfl, HI.out, HScr.out, Nat.le_refl _⟩
        case round =>
          clear HI HScr
          obtain ⟨k, hk, rfl, hI, hscr, hsz⟩ := hrel
          obtain ⟨p1, p2, p3, p4, p5, p6, p7, p8⟩ := HQ2.out
          by_cases h1 : k < l.length
          · rcases hscr with h | ⟨g, hAy, q1, q2, q3, q4, q5, hscr⟩
            · omega
            · subst hAy
              obtain ⟨cur, hat, hcur⟩ := id hscr
              obtain ⟨z, hz⟩ := hcur k h1
              have hc1 : wr.cell? ⟨g, k, none⟩ = some (.int .u8 z) := (hat.cell k).trans hz
              have hf1 := hat.frozen k
              have HI := Lib.hid hI
              have HS := Lib.hid hscr
              clear hI hat hcur hz hscr
              go_wp2
              go_roundw
              case rel =>
                have hO : ∀ u, Only (fun i => i = g) wr (wr.setCell ⟨g, k, none⟩ u) := fun u => (Only.refl (fun i => i = g) wr).setCell (fun _ => rfl) u
                exact ⟨k + 1, by omega, by go_num, ⟨HI.out.1.only (hO _) (by omega) (by omega), HI.out.2.1.only (hO _) (by omega) (by omega), HI.out.2.2.trans ((hO _).mono (fun i _ h => by subst h; exact q1))⟩,
                  .inr ⟨g, rfl, q1, q2, q3, q4, q5, HS.out.set h1 _⟩, by simpa [World.setCell] using hsz⟩
              case measure => simp [intOf]; omega
          · have HI := Lib.hid hI
            have HB2 : Hid (b1 < wr.heap.size ∧ g1 < wr.heap.size ∧ b2 < wr.heap.size ∧ g2 < wr.heap.size) := by
              obtain ⟨r1, r2, r3, r4⟩ := HB.out
              exact ⟨by omega, by omega, by omega, by omega⟩
            clear hI hscr hsz HB
            go_wp2
            obtain ⟨wo2, rfl⟩ : ∃ wo : World, wo = wr := ⟨_, rfl⟩
            go_loopw [10] (fun v wr => ∃ k : Nat, k ≤ mn ∧ k ≤ l.length + 1 ∧ v = .int .i64 k ∧ RestsInv w b1 g1 b2 g2 (l.drop k) k k wr ∧ wo2.heap.size ≤ wr.heap.size) (fun v _ => mn - (intOf v).toNat)
            case atStart => exact ⟨0, by omega, by omega, rfl, by simpa using HI.out, Nat.le_refl _⟩
            case round =>
              clear HI
              obtain ⟨k, hk, hk2, rfl, hI, hsz⟩ := hrel
              by_cases h1 : k < mn
              · by_cases h2 : k ≤ l.length
                · obtain ⟨l', hl'⟩ : ∃ l', l.drop k = l' := ⟨_, rfl⟩
                  have Hl' := Lib.hid hl'
                  rw [hl'] at hI
                  have hl'len : l'.length ≤ 2000 := by rw [← hl', List.length_drop]; omega
                  have H5' : Hid (∀ x ∈ l', 0 ≤ x ∧ x ≤ 255) := by
                    rw [← hl']; exact fun x hx => H5.out x (List.mem_of_mem_drop hx)
                  have Hr := Lib.hid (rest_any b2 g2 l' _ wr hI.2.1 (by omega))
                  have HI := Lib.hid hI
                  have HS := Lib.hid hsz
                  clear hI hl' hsz
                  go_wp2_with (fail)
                  refine Hr.out.mono ?_
                  rintro e w5 ⟨A5, c5, rfl, hc5, hown5, hlt5, hO5⟩
                  have hscr5 : Hid (ScrAt w.heap.size b1 g1 b2 g2 l'.length A5 w5) := by
                    rcases Scr.of_row hown5 with h | ⟨g, e1, e2, e3, e4⟩
                    · exact .inl h
                    · obtain ⟨r1, r2, r3, r4⟩ := HB2.out
                      have hs := HS.out
                      exact .inr ⟨g, e1, by omega, by omega, by omega, by omega, by omega, e4⟩
                  have HI5 : Hid (RestsInv w b1 g1 b2 g2 l' k k w5) := ⟨HI.out.1.only hO5 id id, HI.out.2.1.only hO5 id id, HI.out.2.2.trans (hO5.toOld _)⟩
                  have HS5 : Hid (wo2.heap.size ≤ w5.heap.size) := Nat.le_trans HS.out hO5.size
                  clear hO5 hown5 hlt5 HI HS Hr
                  go_wp2
                  obtain ⟨wo3, rfl⟩ : ∃ wo : World, wo = w5 := ⟨_, rfl⟩
                  go_loopw [12] (fun v wr => ∃ j : Nat, j ≤ l'.length ∧ v = .int .i64 j ∧ RestsInv w b1 g1 b2 g2 l' k k wr ∧ ScrAt w.heap.size b1 g1 b2 g2 l'.length A5 wr ∧ wo2.heap.size ≤ wr.heap.size) (fun v _ => l'.length - (intOf v).toNat)
                  case atStart => exact ⟨0, by omega, rfl, HI5.out, hscr5.out, HS5.out⟩
                  case round =>
                    clear HI5 hscr5 HS5
                    obtain ⟨j, hj, rfl, hI, hscr, hsz⟩ := hrel
                    by_cases h3 : j < l'.length
                    · rcases hscr with h | ⟨g, hA5, q1, q2, q3, q4, q5, hscr⟩
                      · omega
                      · subst hA5
                        obtain ⟨cur, hat, hcur⟩ := id hscr
                        obtain ⟨z, hz⟩ := hcur j h3
                        have hc1 : wr.cell? ⟨g, j, none⟩ = some (.int .u8 z) := (hat.cell j).trans hz
                        have hf1 := hat.frozen j
                        have HI := Lib.hid hI
                        have HS := Lib.hid hscr
                        clear hI hat hcur hz hscr
                        go_wp2
                        go_roundw
                        case rel =>
                          have hO : ∀ u, Only (fun i => i = g) wr (wr.setCell ⟨g, j, none⟩ u) := fun u => (Only.refl (fun i => i = g) wr).setCell (fun _ => rfl) u
                          exact ⟨j + 1, by omega, by go_num, ⟨HI.out.1.only (hO _) (by omega) (by omega), HI.out.2.1.only (hO _) (by omega) (by omega), HI.out.2.2.trans ((hO _).mono (fun i _ h => by subst h; exact q1))⟩,
                            .inr ⟨g, rfl, q1, q2, q3, q4, q5, HS.out.set h3 _⟩, by simpa [World.setCell] using hsz⟩
                        case measure => simp [intOf]; omega
                    · have hn1 := next_any b1 g1 l' k 3 wr hI.1 (by omega) (by omega) H5'.out
                      have Hn1 := Lib.hid hn1
                      have HI := Lib.hid hI
                      have HS := Lib.hid hsz
                      clear hn1 hI hscr hsz
                      go_wp2_with (fail)
                      refine Hn1.out.mono ?_
                      rintro e w6 ⟨rfl, hP6, hO6⟩
                      have hn2 := next_any b2 g2 l' k 3 w6 (HI.out.2.1.only hO6 (by omega) (by omega)) (by omega) (by omega) H5'.out
                      have Hn2 := Lib.hid hn2
                      have HP6 := Lib.hid hP6
                      have HO6 := Lib.hid hO6
                      clear hn2 hP6 hO6 Hn1
                      go_wp2_with (fail)
                      refine Hn2.out.mono ?_
                      rintro e w7 ⟨rfl, hP7, hO7⟩
                      have HP7 := Lib.hid hP7
                      have HO7 := Lib.hid hO7
                      clear hP7 hO7 Hn2
                      generalize nextA l' = na
                      generalize nextB l' 3 = nb
                      go_wp2
                      go_roundw
                      case rel =>
                        have ht : l'.tail = l.drop (k + 1) := by rw [← Hl'.out]; simp
                        refine ⟨k + 1, by omega, by omega, by go_num, ⟨?_, ?_, ?_⟩, ?_⟩
                        · have := HP6.out.only HO7.out (by omega) (by omega)
                          rw [ht] at this; simpa using this
                        · have := HP7.out
                          rw [ht] at this; simpa using this
                        · exact HI.out.2.2.trans ((HO6.out.mono (fun i _ h => by subst h; exact p1)).trans (HO7.out.mono (fun i _ h => by subst h; exact p3)))
                        · exact Nat.le_trans HS.out (Nat.le_trans HO6.out.size HO7.out.size)
                      case measure => simp [intOf]; omega
                · go_wp2
                  go_ret
                  exact ⟨rfl, hI.2.2.below (Nat.le_refl _) (fun i hi h => by omega)⟩
              · go_wp2
                go_ret
                exact ⟨rfl, hI.2.2.below (Nat.le_refl _) (fun i hi h => by omega)⟩

end Go.Proofs.Ytanoicdjbbmimaa
