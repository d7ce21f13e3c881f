/- Sched: Pick's contract, where somebody is ready. -/
import Derived.Test.YtcbgobgicknhiaaC
namespace Go.Proofs.Ytcbgobgicknhiaa
open Go.RowKit

/-- Who goes on. -/
structure IsWho (ws : List Int) (rd : List Bool) (pat want : Int) (who : Nat) : Prop where
  lt : who < rd.length
  ready : rd.getD who false = true
  pl : 0 ≤ plTo ws rd pat rd.length → (who : Int) = plTo ws rd pat rd.length
  other : plTo ws rd pat rd.length < 0 → (cnt rd who : Int) = max want 0 % (cnt rd rd.length : Int)

theorem cnt_inj {rd : List Bool} {p q : Nat} (hp : rd.getD p false = true) (hq : rd.getD q false = true) (h : cnt rd p = cnt rd q) : p = q := by
  rcases Nat.lt_trichotomy p q with hlt | rfl | hlt
  · have := cnt_mono rd (show p + 1 ≤ q by omega); rw [cnt_yes hp] at this; omega
  · rfl
  · have := cnt_mono rd (show q + 1 ≤ p by omega); rw [cnt_yes hq] at this; omega

theorem IsWho.unique {ws : List Int} {rd : List Bool} {pat want : Int} {p q : Nat} (hp : IsWho ws rd pat want p) (hq : IsWho ws rd pat want q) : p = q := by
  by_cases h : 0 ≤ plTo ws rd pat rd.length
  · have := hp.pl h; have := hq.pl h; omega
  · have h1 := hp.other (by omega); have h2 := hq.other (by omega)
    exact cnt_inj hp.ready hq.ready (by omega)

theorem plTo_ready (ws : List Int) (rd : List Bool) (pat : Int) (k : Nat) (h : 0 ≤ plTo ws rd pat k) : rd.getD (plTo ws rd pat k).toNat false = true := by
  induction k with
  | zero => simp [plTo] at h
  | succ k ih =>
    simp only [plTo] at h ⊢
    split
    · rename_i hc; simpa using hc.1
    · rename_i hc; rw [if_neg hc] at h; exact ih h

/-- The waits when the first k are told. -/
def stepTo (ws : List Int) (rd : List Bool) (who k : Nat) : List Int := ws.mapIdx fun i x => if i < k then (if i = who ∨ rd.getD i false = false then 0 else x + 1) else x
def stepWN (ws : List Int) (rd : List Bool) (who : Nat) : List Int := stepTo ws rd who ws.length

theorem stepTo_len (ws : List Int) (rd : List Bool) (who k : Nat) : (stepTo ws rd who k).length = ws.length := by simp [stepTo]
theorem stepTo_zero (ws : List Int) (rd : List Bool) (who : Nat) : stepTo ws rd who 0 = ws := by
  apply List.ext_getElem
  · simp [stepTo]
  · intro i h1 h2; simp [stepTo]
theorem stepTo_at {ws : List Int} {rd : List Bool} {who k : Nat} (h : k < ws.length) : (stepTo ws rd who k)[k]'(by simpa [stepTo] using h) = ws[k] := by simp [stepTo]
theorem stepTo_succ (ws : List Int) (rd : List Bool) (who k : Nat) (h : k < ws.length) : stepTo ws rd who (k + 1) = (stepTo ws rd who k).set k (if k = who ∨ rd.getD k false = false then 0 else ws[k] + 1) := by
  apply List.ext_getElem
  · simp [stepTo]
  · intro i h1 h2
    rw [List.getElem_set]
    simp only [stepTo, List.getElem_mapIdx]
    by_cases hik : k = i
    · subst hik; simp
    · rw [if_neg hik]
      by_cases h3 : i < k
      · rw [if_pos (show i < k + 1 by omega), if_pos h3]
      · rw [if_neg (show ¬ i < k + 1 by omega), if_neg h3]
theorem step_zero {ws : List Int} {rd : List Bool} {who k : Nat} (h : k < ws.length) (hz : k = who ∨ rd.getD k false = false) : stepTo ws rd who (k + 1) = (stepTo ws rd who k).set k 0 := by
  rw [stepTo_succ ws rd who k h, if_pos hz]
theorem step_more {ws : List Int} {rd : List Bool} {who k : Nat} (h : k < ws.length) (hz : ¬ (k = who ∨ rd.getD k false = false)) : stepTo ws rd who (k + 1) = (stepTo ws rd who k).set k (ws[k] + 1) := by
  rw [stepTo_succ ws rd who k h, if_neg hz]

theorem SAt.set {w : World} {b g : Nat} {T : TypeId} {ws : List Int} {pat : Int} (h : SAt w b g T ws pat) (hbg : b ≠ g) (k : Nat) (z : Int) : SAt (w.setCell ⟨g, k, none⟩ (.int .i64 z)) b g T (ws.set k z) pat := by
  have q := h.row.set k (.int .i64 z)
  rw [oc_set] at q
  refine ⟨?_, q⟩
  have q' := h.st.far (p := ⟨g, k, none⟩) hbg (.int .i64 z)
  simpa using q'

structure UpInv (w : World) (b g : Nat) (T : TypeId) (ws : List Int) (rd : List Bool) (pat : Int) (who k : Nat) (wr : World) : Prop where
  at_ : SAt wr b g T (stepTo ws rd who k) pat
  only : Only (fun i => i = g) w wr

theorem UpInv.zero {w : World} {b g : Nat} {T : TypeId} {ws : List Int} {rd : List Bool} {pat : Int} {who k : Nat} {wr : World} (h : UpInv w b g T ws rd pat who k wr) (hbg : b ≠ g) (hk : k < ws.length) (hz : k = who ∨ rd.getD k false = false) (z : Int) :
    UpInv w b g T ws rd pat who (k + 1) ((wr.setCell ⟨g, k, none⟩ (.int .i64 z)).setCell ⟨g, k, none⟩ (.int .i64 0)) := by
  refine ⟨?_, (h.only.setCell (fun _ => rfl) _).setCell (fun _ => rfl) _⟩
  rw [step_zero hk hz]
  have q := (h.at_.set hbg k z).set hbg k 0
  rwa [List.set_set] at q
theorem UpInv.more {w : World} {b g : Nat} {T : TypeId} {ws : List Int} {rd : List Bool} {pat : Int} {who k : Nat} {wr : World} (h : UpInv w b g T ws rd pat who k wr) (hbg : b ≠ g) (hk : k < ws.length) (hz : ¬ (k = who ∨ rd.getD k false = false)) :
    UpInv w b g T ws rd pat who (k + 1) (wr.setCell ⟨g, k, none⟩ (.int .i64 (ws[k] + 1))) := by
  refine ⟨?_, h.only.setCell (fun _ => rfl) _⟩
  rw [step_more hk hz]
  exact h.at_.set hbg k _

def PickPost (b g : Nat) (T : TypeId) (ws : List Int) (rd : List Bool) (pat want : Int) (w : World) (e : Ending) (w' : World) : Prop :=
  ∃ who : Nat, e = .returned (.tuple #[.int .i64 who, .bool true]) ∧ IsWho ws rd pat want who ∧ SAt w' b g T (stepWN ws rd who) pat ∧ Only (fun i => i = g) w w'


structure FrameJ (b gr off n c p l : Nat) (a : Act) : Prop where
  size : a.tmps.size = 88
  defers : a.defers = []
  s0 : a.tmps[0]? = some (.pointer (some ⟨b, 0, none⟩))
  s1 : a.tmps[1]? = some (.slice (some ⟨gr, off, none⟩) n c)
  s11 : a.tmps[11]? = some (.int .i64 ((p : Int) - 1))
  s12 : a.tmps[12]? = some (.int .i64 (l : Int))

theorem list_of_size (t : Array Value) (n : Nat) (h : t.size = n) : t = ((List.range n).map fun i => t.getD i undef).toArray := by
  apply Array.ext
  · simp [h]
  · intro i h1 h2
    simp [Array.getD, h1]

theorem FrameJ.frame {b gr off n c p l : Nat} {a : Act} (h : FrameJ b gr off n c p l a) : ∃ u : Nat → Value, a = { tmps := #[.pointer (some ⟨b, 0, none⟩), .slice (some ⟨gr, off, none⟩) n c, u 2, u 3, u 4, u 5, u 6, u 7, u 8, u 9, u 10, .int .i64 ((p : Int) - 1), .int .i64 l, u 13, u 14, u 15, u 16, u 17, u 18, u 19, u 20, u 21, u 22, u 23, u 24, u 25, u 26, u 27, u 28, u 29, u 30, u 31, u 32, u 33, u 34, u 35, u 36, u 37, u 38, u 39, u 40, u 41, u 42, u 43, u 44, u 45, u 46, u 47, u 48, u 49, u 50, u 51, u 52, u 53, u 54, u 55, u 56, u 57, u 58, u 59, u 60, u 61, u 62, u 63, u 64, u 65, u 66, u 67, u 68, u 69, u 70, u 71, u 72, u 73, u 74, u 75, u 76, u 77, u 78, u 79, u 80, u 81, u 82, u 83, u 84, u 85, u 86, u 87], defers := [] } := by
  refine ⟨fun i => a.tmps.getD i undef, ?_⟩
  have e := list_of_size a.tmps 88 h.size
  have e0 : a.tmps.getD 0 undef = .pointer (some ⟨b, 0, none⟩) := by rw [Array.getD_eq_getD_getElem?, h.s0]; rfl
  have e1 : a.tmps.getD 1 undef = .slice (some ⟨gr, off, none⟩) n c := by rw [Array.getD_eq_getD_getElem?, h.s1]; rfl
  have e11 : a.tmps.getD 11 undef = .int .i64 ((p : Int) - 1) := by rw [Array.getD_eq_getD_getElem?, h.s11]; rfl
  have e12 : a.tmps.getD 12 undef = .int .i64 (l : Int) := by rw [Array.getD_eq_getD_getElem?, h.s12]; rfl
  obtain ⟨t, d⟩ := a
  have hd := h.defers
  simp only at hd e e0 e1 e11 e12
  subst hd
  rw [← e0, ← e1, ← e11, ← e12]
  exact congrArg (fun t => Act.mk t []) e

theorem FrameJ.mk' {b gr off n c p l : Nat} {t : Array Value} {x : Int} (hx : x = (p : Int) - 1) (h1 : t.size = 88 := by rfl) (h2 : t[0]? = some (.pointer (some ⟨b, 0, none⟩)) := by rfl) (h3 : t[1]? = some (.slice (some ⟨gr, off, none⟩) n c) := by rfl)
    (h4 : t[11]? = some (.int .i64 x) := by rfl) (h5 : t[12]? = some (.int .i64 (l : Int)) := by rfl) : FrameJ b gr off n c p l { tmps := t, defers := [] } :=
  ⟨h1, rfl, h2, h3, by rw [← hx]; exact h4, h5⟩

set_option maxRecDepth 100000 in
set_option maxHeartbeats 2000000 in
theorem pick_some (b g gr off c : Nat) (ws : List Int) (rd : List Bool) (pat want m : Int) (w : World) (h : SAt w b g 47 ws pat) (hbg : b ≠ g) (hlen : ws.length ≤ 1000)
    (hgr : gr < w.heap.size) (hgg : gr ≠ g) (hrd : ∀ (j : Nat) (u : Value), (bl rd)[j]? = some u → w.cell? ⟨gr, off + j, none⟩ = some u) (hn : noneP ws rd = false) (hm : bound ws m) (hm' : m ≤ 1000000000) :
    Calls Try.prog 13 #[.pointer (some ⟨b, 0, none⟩), .slice (some ⟨gr, off, none⟩) rd.length c, .int .i64 want] w (PickPost b g 47 ws rd pat want w) := by
  have HRd := Lib.hid hrd
  have HS := Lib.hid h
  have hn' : rd.length = ws.length ∧ cnt rd rd.length ≠ 0 := by simpa [noneP, not_or] using hn
  have HN := Lib.hid hn'
  have HB := Lib.hid hm
  have hlen' : rd.length ≤ 1000 := by omega
  clear hrd h hn hn' hm
  go_enter Try.func13, Try.ntmps13
  go_wp2
  go_loopw [8, 17] (fun m v wr => ∃ k : Nat, k ≤ rd.length ∧ v = .int .i64 k ∧ m = .int .i64 (cnt rd k) ∧ wr = w) (fun _ v _ => rd.length - (intOf v).toNat)
  case atStart => exact ⟨0, by omega, rfl, rfl, rfl⟩
  case round =>
    obtain ⟨k, hk, rfl, rfl, rfl⟩ := hrel
    have hcl := cnt_le rd k
    by_cases h1 : k < rd.length
    · have c0 := HRd.out k (.bool rd[k]) (by simp [h1])
      by_cases hr : rd[k] = true
      · have Hs : Hid (cnt rd (k + 1) = cnt rd k + 1) := cnt_yes (by simp [List.getD, h1, hr])
        rw [hr] at c0
        clear hr
        go_wp2
        go_roundw
        case rel => exact ⟨k + 1, by omega, by simp, by rw [Hs.out]; simp, trivial⟩
        case measure => simp [intOf]; omega
      · have Hs : Hid (cnt rd (k + 1) = cnt rd k) := cnt_no (by simpa [List.getD, h1] using hr)
        have hr' : rd[k] = false := by simpa using hr
        rw [hr'] at c0
        clear hr hr'
        go_wp2
        go_roundw
        case rel => exact ⟨k + 1, by omega, by simp, by rw [Hs.out], trivial⟩
        case measure => simp [intOf]; omega
    · obtain rfl : k = rd.length := by omega
      have c0 := HS.out.st.cell 0
      simp at c0
      have hl' : ((rd.length : Int) != (ws.length : Int)) = false := by simp [HN.out.1]
      have hz : ((cnt rd rd.length : Int) == 0) = false := by simpa using HN.out.2
      have hpl := Lib.hid (pl_walk b g gr off c ws rd pat wr HS.out HN.out.1 hlen hgr HRd.out)
      have Hbd := Lib.hid (plTo_bd ws rd pat rd.length)
      obtain ⟨q, hq⟩ : ∃ q, q = cnt rd rd.length := ⟨_, rfl⟩
      have HQ := Lib.hid hq
      have HC : Hid (q ≤ rd.length ∧ 0 < q) := by have := HN.out.2; exact ⟨by omega, by omega⟩
      rw [← hq] at hz ⊢
      clear hq h1 hk hcl
      go_wp2_with (fail)
      refine hpl.out.mono ?_
      rintro e w1 ⟨rfl, hO⟩
      clear hpl
      have HS1 : Hid (SAt w1 b g 47 ws pat) := HS.out.only hO id id
      have HRd1 : Hid (∀ (j : Nat) (u : Value), (bl rd)[j]? = some u → w1.cell? ⟨gr, off + j, none⟩ = some u) := fun j u hu => (hO.cell (p := ⟨gr, off + j, none⟩) hgr id).trans (HRd.out j u hu)
      have HO := Lib.hid hO
      clear hO HRd HS c0
      obtain ⟨P, hP⟩ : ∃ P, P = plTo ws rd pat rd.length := ⟨_, rfl⟩
      have HP := Lib.hid hP
      rw [← hP] at Hbd ⊢
      clear hP
      by_cases hneg : P < 0
      · have hd : decide (P < 0) = true := by simpa using hneg
        clear hneg
        go_wp2
        obtain ⟨p, rfl, hp0⟩ : ∃ p : Nat, P = (p : Int) - 1 ∧ p = 0 := ⟨0, by (have := Hbd.out); (have : P < 0 := by simpa using hd); omega, rfl⟩
        have hP0 : plTo ws rd pat rd.length < 0 := by have := HP.out; omega
        have HP0 := Lib.hid hP0
        have hq0 : ¬ q = 0 := by have := HC.out; omega
        have hqp : (0 : Int) < q := by omega
        clear hP0
        have HZ := Lib.hid hp0
        clear hp0
        refine wp_scope_jumps 0 (fun a' w' => w1 = w' ∧ ∃ (p l : Nat), (l : Int) + cnt rd p = max want 0 % (q : Int) ∧ FrameJ b gr off rd.length c p l a') (fun a' _ => ((rd.length : Int) - intOf (a'.tmps.getD 11 undef)).toNat) rfl ?_ ?_
        · by_cases hwn : want < 0
          · have hJ : ((0 : Nat) : Int) + cnt rd p = max want 0 % (q : Int) := by have hp0 := HZ.out; subst hp0; rw [Int.max_eq_right (by omega)]; simp [cnt]
            go_wp2
            go_step3
            have hpn : p < rd.length := by
              rcases Nat.lt_or_ge p rd.length with h | h
              · exact h
              · have h1 := cnt_mono rd h
                have h2 := HQ.out
                have h3 := Int.emod_lt_of_pos (max want 0) (show (0 : Int) < q by omega)
                omega
            have c0 := HRd1.out p (.bool rd[p]) (by simp [hpn])
            have HJ := Lib.hid hJ
            clear hJ
            by_cases hr : rd[p] = true
            · have hcn : Hid (cnt rd (p + 1) = cnt rd p + 1) := cnt_yes (by simp [List.getD, hpn, hr])
              have hrd' : rd.getD p false = true := by simp [List.getD, hpn, hr]
              rw [hr] at c0
              clear hr
              obtain ⟨who, hwho⟩ : ∃ who, who = p := ⟨_, rfl⟩
              have HW : Hid (IsWho ws rd pat want who) := by
                subst hwho
                have h1 := HP0.out
                have h2 := HJ.out
                have h3 := HQ.out
                exact ⟨hpn, hrd', fun h => by omega, fun _ => by rw [← h3, ← h2]; omega⟩
              clear hrd'
              subst hwho
              go_wp2
              simp only [Exit.jump]
              go_wp2
              go_loopw [59] (fun v wr => ∃ k : Nat, k ≤ rd.length ∧ v = .int .i64 k ∧ UpInv w1 b g 47 ws rd pat who k wr) (fun v _ => rd.length - (intOf v).toNat)
              case atStart => exact ⟨0, by omega, rfl, ⟨by rw [stepTo_zero]; exact HS1.out, Only.refl _ _⟩⟩
              case round =>
                obtain ⟨k, hk, rfl, hI⟩ := hrel
                by_cases h1 : k < rd.length
                · have hkw : k < ws.length := by have := HN.out.1; omega
                  have hst := stepTo_len ws rd who k
                  have c0 : wr.cell? ⟨gr, off + k, none⟩ = some (.bool rd[k]) := (hI.only.cell (p := ⟨gr, off + k, none⟩) (Nat.lt_of_lt_of_le hgr HO.out.size) hgg).trans (HRd1.out k (.bool rd[k]) (by simp [h1]))
                  have c3 := hI.at_.st.cell 0
                  have c5 := waits_at hI.at_.row (by omega : k < (stepTo ws rd who k).length)
                  rw [stepTo_at hkw] at c5
                  have f5 := hI.at_.row.frozen k
                  simp [hst] at c3
                  have hbd := HB.out _ (List.getElem_mem hkw)
                  have j1 : (0 : Int) ≤ (k : Int) := by omega
                  have j2 : (k : Int) < (ws.length : Int) := by omega
                  have HI := Lib.hid hI
                  clear hI hst
                  by_cases hw : k = who
                  · have Hs := Lib.hid (HI.out.zero hbg hkw (.inl hw))
                    have hd : decide ((k : Int) = (who : Int)) = true := by simp [hw]
                    have hd' : ((k : Int) == (who : Int)) = true := by simp [hw]
                    clear HI hw
                    generalize ws[k] = x at *
                    generalize rd[k] = is at *
                    go_wp2
                    go_roundw
                    case rel => exact ⟨k + 1, by omega, by simp, Hs.out _⟩
                    case measure => simp [intOf]; omega
                  · have hd' : ((k : Int) == (who : Int)) = false := beq_false_of_ne (by omega)
                    by_cases hr : rd[k] = true
                    · have Hs := Lib.hid (HI.out.more hbg hkw (not_or.2 ⟨hw, by simp [List.getD, h1, hr]⟩))
                      rw [hr] at c0
                      clear hr HI hw
                      generalize ws[k] = x at *
                      go_wp2
                      go_roundw
                      case rel => exact ⟨k + 1, by omega, by simp, Hs.out⟩
                      case measure => simp [intOf]; omega
                    · have Hs := Lib.hid (HI.out.zero hbg hkw (.inr (by simpa [List.getD, h1] using hr)))
                      have hr' : rd[k] = false := by simpa using hr
                      rw [hr'] at c0
                      clear hr hr' HI hw
                      generalize ws[k] = x at *
                      go_wp2
                      go_roundw
                      case rel => exact ⟨k + 1, by omega, by simp, Hs.out _⟩
                      case measure => simp [intOf]; omega
                · obtain rfl : k = rd.length := by omega
                  have HI := Lib.hid hI
                  clear hI
                  go_wp2
                  go_ret2
                  refine ⟨who, rfl, HW.out, ?_, (HO.out.mono fun i _ h => h.elim).trans HI.out.only⟩
                  have := HI.out.at_
                  rw [HN.out.1] at this
                  exact this
            · have hcn : Hid (cnt rd (p + 1) = cnt rd p) := cnt_no (by simpa [List.getD, hpn] using hr)
              have hr' : rd[p] = false := by simpa using hr
              rw [hr'] at c0
              clear hr hr'
              go_wp2
              go_step3
              refine ⟨rfl, rfl, p + 1, 0, by have := HJ.out; have := hcn.out; omega, FrameJ.mk' (x := p) (by omega)⟩
          · obtain ⟨l, hl⟩ := Int.eq_ofNat_of_zero_le (Int.emod_nonneg want (show (q : Int) ≠ 0 by omega))
            have hJ : (l : Int) + cnt rd p = max want 0 % (q : Int) := by have hp0 := HZ.out; subst hp0; rw [Int.max_eq_left (by omega), hl]; simp [cnt]
            go_wp2
            go_step3
            have hpn : p < rd.length := by
              rcases Nat.lt_or_ge p rd.length with h | h
              · exact h
              · have h1 := cnt_mono rd h
                have h2 := HQ.out
                have h3 := Int.emod_lt_of_pos (max want 0) (show (0 : Int) < q by omega)
                omega
            have c0 := HRd1.out p (.bool rd[p]) (by simp [hpn])
            have HJ := Lib.hid hJ
            clear hJ
            by_cases hr : rd[p] = true
            · have hcn : Hid (cnt rd (p + 1) = cnt rd p + 1) := cnt_yes (by simp [List.getD, hpn, hr])
              have hrd' : rd.getD p false = true := by simp [List.getD, hpn, hr]
              rw [hr] at c0
              clear hr
              by_cases hl0 : l = 0
              · subst hl0
                obtain ⟨who, hwho⟩ : ∃ who, who = p := ⟨_, rfl⟩
                have HW : Hid (IsWho ws rd pat want who) := by
                  subst hwho
                  have h1 := HP0.out
                  have h2 := HJ.out
                  have h3 := HQ.out
                  exact ⟨hpn, hrd', fun h => by omega, fun _ => by rw [← h3, ← h2]; omega⟩
                clear hrd'
                subst hwho
                go_wp2
                simp only [Exit.jump]
                go_wp2
                go_loopw [59] (fun v wr => ∃ k : Nat, k ≤ rd.length ∧ v = .int .i64 k ∧ UpInv w1 b g 47 ws rd pat who k wr) (fun v _ => rd.length - (intOf v).toNat)
                case atStart => exact ⟨0, by omega, rfl, ⟨by rw [stepTo_zero]; exact HS1.out, Only.refl _ _⟩⟩
                case round =>
                  obtain ⟨k, hk, rfl, hI⟩ := hrel
                  by_cases h1 : k < rd.length
                  · have hkw : k < ws.length := by have := HN.out.1; omega
                    have hst := stepTo_len ws rd who k
                    have c0 : wr.cell? ⟨gr, off + k, none⟩ = some (.bool rd[k]) := (hI.only.cell (p := ⟨gr, off + k, none⟩) (Nat.lt_of_lt_of_le hgr HO.out.size) hgg).trans (HRd1.out k (.bool rd[k]) (by simp [h1]))
                    have c3 := hI.at_.st.cell 0
                    have c5 := waits_at hI.at_.row (by omega : k < (stepTo ws rd who k).length)
                    rw [stepTo_at hkw] at c5
                    have f5 := hI.at_.row.frozen k
                    simp [hst] at c3
                    have hbd := HB.out _ (List.getElem_mem hkw)
                    have j1 : (0 : Int) ≤ (k : Int) := by omega
                    have j2 : (k : Int) < (ws.length : Int) := by omega
                    have HI := Lib.hid hI
                    clear hI hst
                    by_cases hw : k = who
                    · have Hs := Lib.hid (HI.out.zero hbg hkw (.inl hw))
                      have hd : decide ((k : Int) = (who : Int)) = true := by simp [hw]
                      have hd' : ((k : Int) == (who : Int)) = true := by simp [hw]
                      clear HI hw
                      generalize ws[k] = x at *
                      generalize rd[k] = is at *
                      go_wp2
                      go_roundw
                      case rel => exact ⟨k + 1, by omega, by simp, Hs.out _⟩
                      case measure => simp [intOf]; omega
                    · have hd' : ((k : Int) == (who : Int)) = false := beq_false_of_ne (by omega)
                      by_cases hr : rd[k] = true
                      · have Hs := Lib.hid (HI.out.more hbg hkw (not_or.2 ⟨hw, by simp [List.getD, h1, hr]⟩))
                        rw [hr] at c0
                        clear hr HI hw
                        generalize ws[k] = x at *
                        go_wp2
                        go_roundw
                        case rel => exact ⟨k + 1, by omega, by simp, Hs.out⟩
                        case measure => simp [intOf]; omega
                      · have Hs := Lib.hid (HI.out.zero hbg hkw (.inr (by simpa [List.getD, h1] using hr)))
                        have hr' : rd[k] = false := by simpa using hr
                        rw [hr'] at c0
                        clear hr hr' HI hw
                        generalize ws[k] = x at *
                        go_wp2
                        go_roundw
                        case rel => exact ⟨k + 1, by omega, by simp, Hs.out _⟩
                        case measure => simp [intOf]; omega
                  · obtain rfl : k = rd.length := by omega
                    have HI := Lib.hid hI
                    clear hI
                    go_wp2
                    go_ret2
                    refine ⟨who, rfl, HW.out, ?_, (HO.out.mono fun i _ h => h.elim).trans HI.out.only⟩
                    have := HI.out.at_
                    rw [HN.out.1] at this
                    exact this
              · obtain ⟨l, rfl⟩ : ∃ l', l = l' + 1 := ⟨l - 1, by omega⟩
                have hlb : l < 1000 := by
                  have h1 := HJ.out
                  have h2 := HC.out
                  have h3 := Int.emod_lt_of_pos (max want 0) hqp
                  omega
                have hd1 : decide ((0 : Int) < ((l + 1 : Nat) : Int)) = true := by simp
                go_wp2
                go_step3
                refine ⟨rfl, rfl, p + 1, l, by have := HJ.out; have := hcn.out; omega, FrameJ.mk' (x := p) (by omega)⟩
            · have hcn : Hid (cnt rd (p + 1) = cnt rd p) := cnt_no (by simpa [List.getD, hpn] using hr)
              have hr' : rd[p] = false := by simpa using hr
              rw [hr'] at c0
              clear hr hr'
              go_wp2
              go_step3
              refine ⟨rfl, rfl, p + 1, l, by have := HJ.out; have := hcn.out; omega, FrameJ.mk' (x := p) (by omega)⟩
        · clear HZ
          rintro a' w' ⟨rfl, p, l, hJ, hF⟩
          obtain ⟨u, rfl⟩ := hF.frame
          have hpn : p < rd.length := by
            rcases Nat.lt_or_ge p rd.length with h | h
            · exact h
            · have h1 := cnt_mono rd h
              have h2 := HQ.out
              have h3 := Int.emod_lt_of_pos (max want 0) (show (0 : Int) < q by omega)
              omega
          have c0 := HRd1.out p (.bool rd[p]) (by simp [hpn])
          have HJ := Lib.hid hJ
          clear hJ
          by_cases hr : rd[p] = true
          · have hcn : Hid (cnt rd (p + 1) = cnt rd p + 1) := cnt_yes (by simp [List.getD, hpn, hr])
            have hrd' : rd.getD p false = true := by simp [List.getD, hpn, hr]
            rw [hr] at c0
            clear hr
            by_cases hl0 : l = 0
            · subst hl0
              obtain ⟨who, hwho⟩ : ∃ who, who = p := ⟨_, rfl⟩
              have HW : Hid (IsWho ws rd pat want who) := by
                subst hwho
                have h1 := HP0.out
                have h2 := HJ.out
                have h3 := HQ.out
                exact ⟨hpn, hrd', fun h => by omega, fun _ => by rw [← h3, ← h2]; omega⟩
              clear hrd'
              subst hwho
              go_wp2
              simp only [Exit.jump]
              go_wp2
              go_loopw [59] (fun v wr => ∃ k : Nat, k ≤ rd.length ∧ v = .int .i64 k ∧ UpInv w1 b g 47 ws rd pat who k wr) (fun v _ => rd.length - (intOf v).toNat)
              case atStart => exact ⟨0, by omega, rfl, ⟨by rw [stepTo_zero]; exact HS1.out, Only.refl _ _⟩⟩
              case round =>
                obtain ⟨k, hk, rfl, hI⟩ := hrel
                by_cases h1 : k < rd.length
                · have hkw : k < ws.length := by have := HN.out.1; omega
                  have hst := stepTo_len ws rd who k
                  have c0 : wr.cell? ⟨gr, off + k, none⟩ = some (.bool rd[k]) := (hI.only.cell (p := ⟨gr, off + k, none⟩) (Nat.lt_of_lt_of_le hgr HO.out.size) hgg).trans (HRd1.out k (.bool rd[k]) (by simp [h1]))
                  have c3 := hI.at_.st.cell 0
                  have c5 := waits_at hI.at_.row (by omega : k < (stepTo ws rd who k).length)
                  rw [stepTo_at hkw] at c5
                  have f5 := hI.at_.row.frozen k
                  simp [hst] at c3
                  have hbd := HB.out _ (List.getElem_mem hkw)
                  have j1 : (0 : Int) ≤ (k : Int) := by omega
                  have j2 : (k : Int) < (ws.length : Int) := by omega
                  have HI := Lib.hid hI
                  clear hI hst
                  by_cases hw : k = who
                  · have Hs := Lib.hid (HI.out.zero hbg hkw (.inl hw))
                    have hd : decide ((k : Int) = (who : Int)) = true := by simp [hw]
                    have hd' : ((k : Int) == (who : Int)) = true := by simp [hw]
                    clear HI hw
                    generalize ws[k] = x at *
                    generalize rd[k] = is at *
                    go_wp2
                    go_roundw
                    case rel => exact ⟨k + 1, by omega, by simp, Hs.out _⟩
                    case measure => simp [intOf]; omega
                  · have hd' : ((k : Int) == (who : Int)) = false := beq_false_of_ne (by omega)
                    by_cases hr : rd[k] = true
                    · have Hs := Lib.hid (HI.out.more hbg hkw (not_or.2 ⟨hw, by simp [List.getD, h1, hr]⟩))
                      rw [hr] at c0
                      clear hr HI hw
                      generalize ws[k] = x at *
                      go_wp2
                      go_roundw
                      case rel => exact ⟨k + 1, by omega, by simp, Hs.out⟩
                      case measure => simp [intOf]; omega
                    · have Hs := Lib.hid (HI.out.zero hbg hkw (.inr (by simpa [List.getD, h1] using hr)))
                      have hr' : rd[k] = false := by simpa using hr
                      rw [hr'] at c0
                      clear hr hr' HI hw
                      generalize ws[k] = x at *
                      go_wp2
                      go_roundw
                      case rel => exact ⟨k + 1, by omega, by simp, Hs.out _⟩
                      case measure => simp [intOf]; omega
                · obtain rfl : k = rd.length := by omega
                  have HI := Lib.hid hI
                  clear hI
                  go_wp2
                  go_ret2
                  refine ⟨who, rfl, HW.out, ?_, (HO.out.mono fun i _ h => h.elim).trans HI.out.only⟩
                  have := HI.out.at_
                  rw [HN.out.1] at this
                  exact this
            · obtain ⟨l, rfl⟩ : ∃ l', l = l' + 1 := ⟨l - 1, by omega⟩
              have hlb : l < 1000 := by
                have h1 := HJ.out
                have h2 := HC.out
                have h3 := Int.emod_lt_of_pos (max want 0) hqp
                omega
              have hd1 : decide ((0 : Int) < ((l + 1 : Nat) : Int)) = true := by simp
              go_wp2
              go_step3
              refine ⟨rfl, ⟨rfl, p + 1, l, by have := HJ.out; have := hcn.out; omega, FrameJ.mk' (x := p) (by omega)⟩, ?_⟩
              simp [intOf]
              omega
          · have hcn : Hid (cnt rd (p + 1) = cnt rd p) := cnt_no (by simpa [List.getD, hpn] using hr)
            have hr' : rd[p] = false := by simpa using hr
            rw [hr'] at c0
            clear hr hr'
            go_wp2
            go_step3
            refine ⟨rfl, ⟨rfl, p + 1, l, by have := HJ.out; have := hcn.out; omega, FrameJ.mk' (x := p) (by omega)⟩, ?_⟩
            simp [intOf]
            omega
      · have hd : decide (P < 0) = false := by simpa using hneg
        obtain ⟨who, rfl⟩ := Int.eq_ofNat_of_zero_le (show 0 ≤ P by omega)
        have HW : Hid (IsWho ws rd pat want who) := by
          have h1 := HP.out
          have h2 := plTo_ready ws rd pat rd.length (by omega)
          rw [← h1] at h2
          have := Hbd.out
          exact ⟨by omega, by simpa using h2, fun _ => h1, fun h => by omega⟩
        clear hneg
        go_wp2
        go_loopw [59] (fun v wr => ∃ k : Nat, k ≤ rd.length ∧ v = .int .i64 k ∧ UpInv w1 b g 47 ws rd pat who k wr) (fun v _ => rd.length - (intOf v).toNat)
        case atStart => exact ⟨0, by omega, rfl, ⟨by rw [stepTo_zero]; exact HS1.out, Only.refl _ _⟩⟩
        case round =>
          obtain ⟨k, hk, rfl, hI⟩ := hrel
          by_cases h1 : k < rd.length
          · have hkw : k < ws.length := by have := HN.out.1; omega
            have hst := stepTo_len ws rd who k
            have c0 : wr.cell? ⟨gr, off + k, none⟩ = some (.bool rd[k]) := (hI.only.cell (p := ⟨gr, off + k, none⟩) (Nat.lt_of_lt_of_le hgr HO.out.size) hgg).trans (HRd1.out k (.bool rd[k]) (by simp [h1]))
            have c3 := hI.at_.st.cell 0
            have c5 := waits_at hI.at_.row (by omega : k < (stepTo ws rd who k).length)
            rw [stepTo_at hkw] at c5
            have f5 := hI.at_.row.frozen k
            simp [hst] at c3
            have hbd := HB.out _ (List.getElem_mem hkw)
            have j1 : (0 : Int) ≤ (k : Int) := by omega
            have j2 : (k : Int) < (ws.length : Int) := by omega
            have HI := Lib.hid hI
            clear hI hst
            by_cases hw : k = who
            · have Hs := Lib.hid (HI.out.zero hbg hkw (.inl hw))
              have hd : decide ((k : Int) = (who : Int)) = true := by simp [hw]
              have hd' : ((k : Int) == (who : Int)) = true := by simp [hw]
              clear HI hw
              generalize ws[k] = x at *
              generalize rd[k] = is at *
              go_wp2
              go_roundw
              case rel => exact ⟨k + 1, by omega, by simp, Hs.out _⟩
              case measure => simp [intOf]; omega
            · have hd' : ((k : Int) == (who : Int)) = false := beq_false_of_ne (by omega)
              by_cases hr : rd[k] = true
              · have Hs := Lib.hid (HI.out.more hbg hkw (not_or.2 ⟨hw, by simp [List.getD, h1, hr]⟩))
                rw [hr] at c0
                clear hr HI hw
                generalize ws[k] = x at *
                go_wp2
                go_roundw
                case rel => exact ⟨k + 1, by omega, by simp, Hs.out⟩
                case measure => simp [intOf]; omega
              · have Hs := Lib.hid (HI.out.zero hbg hkw (.inr (by simpa [List.getD, h1] using hr)))
                have hr' : rd[k] = false := by simpa using hr
                rw [hr'] at c0
                clear hr hr' HI hw
                generalize ws[k] = x at *
                go_wp2
                go_roundw
                case rel => exact ⟨k + 1, by omega, by simp, Hs.out _⟩
                case measure => simp [intOf]; omega
          · obtain rfl : k = rd.length := by omega
            have HI := Lib.hid hI
            clear hI
            go_wp2
            go_ret2
            refine ⟨who, rfl, HW.out, ?_, (HO.out.mono fun i _ h => h.elim).trans HI.out.only⟩
            have := HI.out.at_
            rw [HN.out.1] at this
            exact this
end Go.Proofs.Ytcbgobgicknhiaa
