/- Sched: the reference's Pick, where nobody is picked; what it computes else. -/
import Derived.Test.YtcbgobgicknhiaaD
namespace Go.Proofs.Ytcbgobgicknhiaa
open Go.RowKit

set_option maxRecDepth 100000 in
set_option maxHeartbeats 2000000 in
theorem refPick_none (b g gr c : Nat) (A : Option Addr) (ws : List Int) (rd : List Bool) (pat want : Int) (w : World) (h : SAt w b g 49 ws pat) (hlen : rd.length ≤ 1000)
    (hrd : Rd w gr A (bl rd)) (hn : noneP ws rd = true) :
    Calls Try.prog 14 #[.pointer (some ⟨b, 0, none⟩), .slice A rd.length c, .int .i64 want] w fun e w' => e = .returned (.tuple #[.int .i64 0, .bool false]) ∧ w' = w := by
  have HRd := Lib.hid hrd
  have HS := Lib.hid h
  have HN := Lib.hid hn
  clear hrd h hn
  go_enter Try.func14, Try.ntmps14
  go_wp2
  go_loopw [8, 9] (fun m v wr => ∃ k : Nat, k ≤ rd.length ∧ v = .int .i64 k ∧ m = .slice none 0 0 ∧ wr = w) (fun _ v _ => rd.length - (intOf v).toNat)
  case atStart => exact ⟨0, by omega, rfl, rfl, rfl⟩
  case round =>
    obtain ⟨k, hk, rfl, rfl, rfl⟩ := hrel
    have cs := HS.out.st.cell 0
    simp at cs
    by_cases h1 : k < rd.length
    · by_cases hl : rd.length = ws.length
      · have hl' : ((rd.length : Int) == (ws.length : Int)) = true := by simp [hl]
        have hl2 : (bl rd).length = rd.length := by simp
        obtain ⟨off, hA, hg, hc⟩ := HRd.out.at (by intro e; rw [e] at hl2; simp at hl2; omega)
        subst hA
        have c0 := hc k (.bool rd[k]) (by simp [h1])
        have hr : rd[k] = false := by
          have h2 := HN.out
          simp [noneP, hl] at h2
          have h3 := cnt_mono rd (show k + 1 ≤ ws.length by omega)
          rw [h2] at h3
          rcases hb : rd[k] with _ | _
          · rfl
          · rw [cnt_yes (by simp [List.getD, h1, hb])] at h3; omega
        rw [hr] at c0
        clear hr hc hl2 hl
        generalize ws.length = n' at *
        go_wp2
        go_roundw
        case rel => exact ⟨k + 1, by omega, by simp, rfl, trivial⟩
        case measure => simp [intOf]; omega
      · have hl' : ((rd.length : Int) == (ws.length : Int)) = false := beq_false_of_ne (by omega)
        generalize ws.length = n' at *
        clear hl
        go_wp2
        go_ret2
        exact ⟨rfl, rfl⟩
    · obtain rfl : k = rd.length := by omega
      go_wp2
      go_ret2
      exact ⟨rfl, rfl⟩

/-- The indexes of those who are ready, of the first k. -/
def rl (rd : List Bool) : Nat → List Int
  | 0 => []
  | k + 1 => rl rd k ++ if rd.getD k false = true then [(k : Int)] else []
theorem rl_len (rd : List Bool) (k : Nat) : (rl rd k).length = cnt rd k := by
  induction k with
  | zero => rfl
  | succ k ih => simp only [rl, cnt, List.length_append, ih]; split <;> simp
theorem rl_yes {rd : List Bool} {k : Nat} (h : rd.getD k false = true) : rl rd (k + 1) = rl rd k ++ [(k : Int)] := by simp only [rl]; rw [if_pos h]
theorem rl_no {rd : List Bool} {k : Nat} (h : rd.getD k false = false) : rl rd (k + 1) = rl rd k := by simp only [rl]; rw [if_neg (by rw [h]; simp)]; simp
theorem rl_at {rd : List Bool} {n i : Nat} (h : i < cnt rd n) : ∃ p : Nat, p < n ∧ rd.getD p false = true ∧ cnt rd p = i ∧ (rl rd n)[i]? = some (p : Int) := by
  induction n with
  | zero => simp [cnt] at h
  | succ n ih =>
    rcases hb : rd.getD n false with _ | _
    · rw [cnt_no hb] at h
      obtain ⟨p, h1, h2, h3, h4⟩ := ih h
      exact ⟨p, by omega, h2, h3, by rw [rl_no hb]; exact h4⟩
    · rw [cnt_yes hb] at h
      rcases Nat.lt_or_ge i (cnt rd n) with hi | hi
      · obtain ⟨p, h1, h2, h3, h4⟩ := ih hi
        exact ⟨p, by omega, h2, h3, by rw [rl_yes hb, List.getElem?_append_left (by rw [rl_len]; exact hi)]; exact h4⟩
      · refine ⟨n, by omega, hb, by omega, ?_⟩
        rw [rl_yes hb, List.getElem?_append_right (by rw [rl_len]; exact hi), rl_len, show i - cnt rd n = 0 by omega]
        rfl

/-- One look of the reference for who has waited too long. -/
def gstep (ws : List Int) (s : Int × Int) (k : Int) : Int × Int := if s.1 < ws.getD k.toNat 0 then (ws.getD k.toNat 0, k) else s
def gfold (ws l : List Int) (most who : Int) : Int × Int := l.foldl (gstep ws) (most, who)

theorem gfold_is (ws : List Int) (rd : List Bool) (pat who : Int) (k : Nat) :
    gfold ws (rl rd k) (pat - 1) who = (if plTo ws rd pat k < 0 then (pat - 1, who) else (ws.getD (plTo ws rd pat k).toNat 0, plTo ws rd pat k)) ∧ (0 ≤ plTo ws rd pat k → pat ≤ ws.getD (plTo ws rd pat k).toNat 0) := by
  induction k with
  | zero => simp [rl, gfold, plTo]
  | succ k ih =>
    obtain ⟨ih1, ih2⟩ := ih
    rcases hb : rd.getD k false with _ | _
    · rw [rl_no hb, pl_step_no (.inl hb)]; exact ⟨ih1, ih2⟩
    · have hs : gfold ws (rl rd (k + 1)) (pat - 1) who = gstep ws (gfold ws (rl rd k) (pat - 1) who) k := by rw [rl_yes hb]; simp [gfold]
      rw [hs, ih1]
      by_cases hp : plTo ws rd pat k < 0
      · rw [if_pos hp]
        have hlg : longer ws (plTo ws rd pat k) k = true := by simp [longer, hp]
        by_cases h2 : pat ≤ ws.getD k 0
        · rw [pl_step_yes hb h2 hlg, if_neg (by omega)]
          simp only [gstep, Int.toNat_natCast]
          rw [if_pos (by omega)]
          exact ⟨rfl, fun _ => h2⟩
        · rw [pl_step_no (.inr (.inl h2)), if_pos hp]
          simp only [gstep, Int.toNat_natCast]
          rw [if_neg (by omega)]
          exact ⟨rfl, ih2⟩
      · rw [if_neg hp]
        have hq := ih2 (by omega)
        by_cases h2 : ws.getD (plTo ws rd pat k).toNat 0 < ws.getD k 0
        · have hlg : longer ws (plTo ws rd pat k) k = true := by simp only [longer, decide_eq_true h2, Bool.or_true]
          rw [pl_step_yes hb (by omega) hlg, if_neg (by omega)]
          simp only [gstep, Int.toNat_natCast]
          rw [if_pos h2]
          exact ⟨rfl, fun _ => by omega⟩
        · have hlg : longer ws (plTo ws rd pat k) k = false := by simp only [longer, decide_eq_false h2, decide_eq_false hp, Bool.or_false]
          rw [pl_step_no (.inr (.inr hlg)), if_neg hp]
          simp only [gstep, Int.toNat_natCast]
          rw [if_neg h2]
          exact ⟨rfl, ih2⟩

/-- What the reference's looks come to is who goes on. -/
theorem isWho_of_fold {ws : List Int} {rd : List Bool} {pat want : Int} {p : Nat} (hp : p < rd.length) (hr : rd.getD p false = true) (hc : (cnt rd p : Int) = max want 0 % (cnt rd rd.length : Int)) :
    ∃ who : Nat, (gfold ws (rl rd rd.length) (pat - 1) p).2 = who ∧ IsWho ws rd pat want who := by
  rw [(gfold_is ws rd pat p rd.length).1]
  have hb := plTo_bd ws rd pat rd.length
  by_cases h : plTo ws rd pat rd.length < 0
  · rw [if_pos h]
    exact ⟨p, rfl, hp, hr, fun h' => by omega, fun _ => hc⟩
  · rw [if_neg h]
    obtain ⟨q, hq⟩ := Int.eq_ofNat_of_zero_le (show 0 ≤ plTo ws rd pat rd.length by omega)
    have hy := plTo_ready ws rd pat rd.length (by omega)
    rw [hq] at hy hb ⊢
    exact ⟨q, rfl, by omega, by simpa using hy, fun _ => hq.symm, fun h' => by omega⟩

theorem gfold_take {ws l : List Int} {most who : Int} {i : Nat} (h : i < l.length) : gfold ws (l.take (i + 1)) most who = gstep ws (gfold ws (l.take i) most who) l[i] := by
  unfold gfold
  rw [List.take_succ_eq_append_getElem h, List.foldl_append]
  rfl

theorem ownsRow_at {w : World} {base : Nat} {e : TypeId} {A : Option Addr} {n c : Nat} {xs : List Value} (h : w.ownsRow base e 1 (.slice A n c) n xs) (hn : 0 < n) :
    ∃ g, A = some ⟨g, 0, none⟩ ∧ base ≤ g ∧ g < w.heap.size ∧ ∀ (j : Nat) (u : Value), xs[j]? = some u → w.cell? ⟨g, j, none⟩ = some u := by
  rcases h.2 with ⟨he, rfl⟩ | ⟨g, cap, cur, he, hb, hg, _, _, hs, hx⟩
  · omega
  · injection he with hA _ _
    subst hA
    refine ⟨g, rfl, hb, (Array.getElem?_eq_some_iff.1 hg).1, fun j u hu => ?_⟩
    rw [cell_of_row w g j cur e (0, 0) hg]
    rw [← hx, List.getElem?_take] at hu
    split at hu
    · simpa using hu
    · cases hu
theorem ownsRow_block {w : World} {base : Nat} {e : TypeId} {size n i : Nat} {v : Value} {xs : List Value} (h : w.ownsRow base e size v n xs) (hi : v.ownBlock = some i) : base ≤ i := by
  rcases h.2 with ⟨rfl, rfl⟩ | ⟨g, cap, cur, rfl, hb, _⟩
  · simp [Value.ownBlock] at hi
  · simp [Value.ownBlock] at hi; omega
end Go.Proofs.Ytcbgobgicknhiaa
