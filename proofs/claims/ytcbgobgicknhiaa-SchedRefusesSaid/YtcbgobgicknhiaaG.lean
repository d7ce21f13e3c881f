/- Sched: Pick's contracts in one; awake. -/
import Derived.Test.YtcbgobgicknhiaaF
namespace Go.Proofs.Ytcbgobgicknhiaa
open Go.RowKit

def whoF (ws : List Int) (rd : List Bool) (pat want : Int) : Nat :=
  (gfold ws (rl rd rd.length) (pat - 1) ((rl rd rd.length).getD (max want 0 % (cnt rd rd.length : Int)).toNat 0)).2.toNat
def pk (ws : List Int) (rd : List Bool) (pat want : Int) : Int × Bool × List Int :=
  if noneP ws rd = true then (0, false, ws) else ((whoF ws rd pat want : Int), true, stepWN ws rd (whoF ws rd pat want))

theorem whoF_is {ws : List Int} {rd : List Bool} {pat want : Int} (h : noneP ws rd = false) : IsWho ws rd pat want (whoF ws rd pat want) := by
  have hn : rd.length = ws.length ∧ cnt rd rd.length ≠ 0 := by simpa [noneP, not_or] using h
  have hq : (0 : Int) < cnt rd rd.length := by omega
  have h0 := Int.emod_nonneg (max want 0) (show (cnt rd rd.length : Int) ≠ 0 by omega)
  have h1 := Int.emod_lt_of_pos (max want 0) hq
  obtain ⟨L, hL⟩ := Int.eq_ofNat_of_zero_le h0
  obtain ⟨p, hp, hr, hc, hl⟩ := rl_at (rd := rd) (n := rd.length) (i := L) (by omega)
  have hg : (rl rd rd.length).getD (max want 0 % (cnt rd rd.length : Int)).toNat 0 = (p : Int) := by rw [hL]; simp [List.getD, hl]
  obtain ⟨who, h2, h3⟩ := isWho_of_fold (ws := ws) (pat := pat) (want := want) hp hr (by rw [hc, hL])
  have : whoF ws rd pat want = who := by unfold whoF; rw [hg, h2]; simp
  rw [this]; exact h3

theorem pk_none {ws : List Int} {rd : List Bool} {pat want : Int} (h : noneP ws rd = true) : pk ws rd pat want = (0, false, ws) := by simp [pk, h]
theorem pk_who {ws : List Int} {rd : List Bool} {pat want : Int} {who : Nat} (h : noneP ws rd = false) (hw : IsWho ws rd pat want who) : pk ws rd pat want = ((who : Int), true, stepWN ws rd who) := by
  have := (whoF_is h).unique hw
  simp [pk, h, this]

theorem stepWN_len (ws : List Int) (rd : List Bool) (who : Nat) : (stepWN ws rd who).length = ws.length := stepTo_len _ _ _ _
theorem stepWN_at {ws : List Int} {rd : List Bool} {who i : Nat} (h : i < ws.length) : (stepWN ws rd who).getD i 0 = if i = who ∨ rd.getD i false = false then 0 else ws.getD i 0 + 1 := by
  have hl : i < (stepWN ws rd who).length := by rw [stepWN_len]; exact h
  have h1 : (stepWN ws rd who)[i] = if i = who ∨ rd.getD i false = false then 0 else ws[i] + 1 := by
    simp only [stepWN, stepTo, List.getElem_mapIdx]
    rw [if_pos h]
  have h2 : (stepWN ws rd who).getD i 0 = (stepWN ws rd who)[i] := by simp [List.getD, hl]
  have h3 : ws.getD i 0 = ws[i] := by simp [List.getD, h]
  rw [h2, h1, h3]
theorem bound_step {ws : List Int} {m : Int} (h : bound ws m) (h0 : 0 ≤ m) (rd : List Bool) (who : Nat) : bound (stepWN ws rd who) (m + 1) := by
  intro x hx
  obtain ⟨i, hi, rfl⟩ := List.getElem_of_mem hx
  have hi' : i < ws.length := by simpa [stepWN, stepTo] using hi
  have hb := h _ (List.getElem_mem hi')
  simp only [stepWN, stepTo, List.getElem_mapIdx]
  rw [if_pos hi']
  split <;> omega
theorem pk_len (ws : List Int) (rd : List Bool) (pat want : Int) : (pk ws rd pat want).2.2.length = ws.length := by
  unfold pk; split
  · rfl
  · exact stepWN_len _ _ _
theorem pk_bound {ws : List Int} {m : Int} (h : bound ws m) (h0 : 0 ≤ m) (rd : List Bool) (pat want : Int) : bound (pk ws rd pat want).2.2 (m + 1) := by
  unfold pk; split
  · intro x hx; have := h x hx; omega
  · exact bound_step h h0 _ _
theorem bound_zero (n : Nat) : bound (List.replicate n 0) 0 := by
  intro x hx; rw [List.mem_replicate] at hx; omega

def PkPost (b g : Nat) (T : TypeId) (ws : List Int) (rd : List Bool) (pat want : Int) (w : World) (e : Ending) (w' : World) : Prop :=
  e = .returned (.tuple #[.int .i64 (pk ws rd pat want).1, .bool (pk ws rd pat want).2.1]) ∧ SAt w' b g T (pk ws rd pat want).2.2 pat ∧ Only (fun i => i = g) w w'

theorem PkPost.of {b g : Nat} {T : TypeId} {ws : List Int} {rd : List Bool} {pat want : Int} {w w' : World} {e : Ending} (h : noneP ws rd = false) (k : PickPost b g T ws rd pat want w e w') : PkPost b g T ws rd pat want w e w' := by
  obtain ⟨who, h1, h2, h3, h4⟩ := k
  unfold PkPost
  rw [pk_who h h2]
  exact ⟨h1, h3, h4⟩

theorem pick_any (b g gr c : Nat) (A : Option Addr) (ws : List Int) (rd : List Bool) (pat want m : Int) (w : World) (h : SAt w b g 47 ws pat) (hbg : b ≠ g) (hlen : ws.length ≤ 32) (hgg : gr ≠ g) (hrd : Rd w gr A (bl rd))
    (hl : rd.length ≤ 9223372036854775807) (hm : bound ws m) (hm' : m ≤ 1000000000) :
    Calls Try.prog 13 #[.pointer (some ⟨b, 0, none⟩), .slice A rd.length c, .int .i64 want] w (PkPost b g 47 ws rd pat want w) := by
  rcases hn : noneP ws rd with _ | _
  · have hn' : rd.length = ws.length ∧ cnt rd rd.length ≠ 0 := by simpa [noneP, not_or] using hn
    obtain ⟨off, rfl, hlt, hc⟩ := hrd.at (by intro e; have hl2 : (bl rd).length = rd.length := by simp
                                             rw [e] at hl2; have := cnt_le rd rd.length; simp at hl2; omega)
    exact (pick_some b g gr off c ws rd pat want m w h hbg (by omega) hlt hgg hc hn hm hm').mono fun e w' k => PkPost.of hn k
  · refine (pick_none b g gr c A ws rd pat want w h hl hrd hn).mono fun e w' k => ?_
    obtain ⟨rfl, rfl⟩ := k
    unfold PkPost
    rw [pk_none hn]
    exact ⟨rfl, h, Only.refl _ _⟩

theorem refPick_any (b g gr c : Nat) (A : Option Addr) (ws : List Int) (rd : List Bool) (pat want m : Int) (w : World) (h : SAt w b g 49 ws pat) (hbg : b ≠ g) (hlen : ws.length ≤ 32) (hgg : gr ≠ g) (hrd : Rd w gr A (bl rd))
    (hl : rd.length ≤ 1000) (hm : bound ws m) (hm' : m ≤ 1000000000) (hp1 : 1 ≤ pat) (hp2 : pat ≤ 1000) :
    Calls Try.prog 14 #[.pointer (some ⟨b, 0, none⟩), .slice A rd.length c, .int .i64 want] w (PkPost b g 49 ws rd pat want w) := by
  rcases hn : noneP ws rd with _ | _
  · have hn' : rd.length = ws.length ∧ cnt rd rd.length ≠ 0 := by simpa [noneP, not_or] using hn
    obtain ⟨off, rfl, hlt, hc⟩ := hrd.at (by intro e; have hl2 : (bl rd).length = rd.length := by simp
                                             rw [e] at hl2; have := cnt_le rd rd.length; simp at hl2; omega)
    exact (refPick_some b g gr off c ws rd pat want m w h hbg (by omega) hlt hgg hc hn hm hm' hp1 hp2).mono fun e w' k => PkPost.of hn k
  · refine (refPick_none b g gr c A ws rd pat want w h hl hrd hn).mono fun e w' k => ?_
    obtain ⟨rfl, rfl⟩ := k
    unfold PkPost
    rw [pk_none hn]
    exact ⟨rfl, h, Only.refl _ _⟩

theorem pk_a : pk [0, 0] [true, true] 2 0 = (0, true, [0, 1]) := by decide +kernel
theorem pk_b : pk [0, 1] [true, true] 2 0 = (0, true, [0, 2]) := by decide +kernel
theorem pk_c : pk [0, 2] [true, true] 2 0 = (1, true, [1, 0]) := by decide +kernel

set_option maxHeartbeats 1000000 in
theorem awake_any (w : World) : Calls Try.prog 9 #[] w fun e w' => e = .returned (.bool true) ∧ Only (fun _ => False) w w' := by
  have hr : ∀ W : World, Rd (W.alloc (.cells #[.bool true, .bool true] 4)) W.heap.size (some ⟨W.heap.size, 0, none⟩) (bl [true, true]) := fun W =>
    .inr ⟨0, rfl, by simp, fun j u hu => by
      have q := (At.new W 4 #[.bool true, .bool true]).cell j
      rw [Nat.zero_add, q, ← hu]
      simp⟩
  have Hr := Lib.hid hr
  have Hn := Lib.hid (new_good 2 2 w (by decide))
  clear hr
  go_enter Try.func9, Try.ntmps9
  go_wp2_with (fail)
  refine Hn.out.mono ?_
  rintro e w1 ⟨b, g, rfl, hb, hg, hbg, hS, hO⟩
  have HS1 : Hid (SAt (w1.alloc (.cells #[.bool true, .bool true] 4)) b g 47 [0, 0] 2) := hS.only ((Only.refl (fun _ => False) _).alloc _) id id
  have HO1 : Hid (Only (fun i => w.heap.size ≤ i) w (w1.alloc (.cells #[.bool true, .bool true] 4))) := (hO.mono fun _ _ h => h.elim).alloc _
  have hlt := hS.row.lt
  have Hp := Lib.hid (pick_any b g w1.heap.size 2 (some ⟨w1.heap.size, 0, none⟩) [0, 0] [true, true] 2 0 0 _ HS1.out hbg (by decide) (by omega) (Hr.out w1) (by decide) (by intro x hx; simp at hx; omega) (by decide))
  clear hS hO hlt HS1
  go_wp2_with (fail)
  refine Hp.out.mono ?_
  clear Hp
  rintro e w2 hk
  unfold PkPost at hk
  rw [pk_a] at hk
  obtain ⟨rfl, hS, hO⟩ := hk
  have HS1 : Hid (SAt (w2.alloc (.cells #[.bool true, .bool true] 4)) b g 47 [0, 1] 2) := hS.only ((Only.refl (fun _ => False) _).alloc _) id id
  have HO2 : Hid (Only (fun i => w.heap.size ≤ i) w (w2.alloc (.cells #[.bool true, .bool true] 4))) := (HO1.out.trans' hO (by rintro i hi rfl; exact hg)).alloc _
  have hlt := hS.row.lt
  have Hp := Lib.hid (pick_any b g w2.heap.size 2 (some ⟨w2.heap.size, 0, none⟩) [0, 1] [true, true] 2 0 1 _ HS1.out hbg (by decide) (by omega) (Hr.out w2) (by decide) (by intro x hx; simp at hx; omega) (by decide))
  clear hS hO hlt HS1 HO1
  go_wp2_with (fail)
  refine Hp.out.mono ?_
  clear Hp
  rintro e w3 hk
  unfold PkPost at hk
  rw [pk_b] at hk
  obtain ⟨rfl, hS, hO⟩ := hk
  have HS1 : Hid (SAt (w3.alloc (.cells #[.bool true, .bool true] 4)) b g 47 [0, 2] 2) := hS.only ((Only.refl (fun _ => False) _).alloc _) id id
  have HO1 : Hid (Only (fun i => w.heap.size ≤ i) w (w3.alloc (.cells #[.bool true, .bool true] 4))) := (HO2.out.trans' hO (by rintro i hi rfl; exact hg)).alloc _
  have hlt := hS.row.lt
  have Hp := Lib.hid (pick_any b g w3.heap.size 2 (some ⟨w3.heap.size, 0, none⟩) [0, 2] [true, true] 2 0 2 _ HS1.out hbg (by decide) (by omega) (Hr.out w3) (by decide) (by intro x hx; simp at hx; omega) (by decide))
  clear hS hO hlt HS1 HO2
  go_wp2_with (fail)
  refine Hp.out.mono ?_
  clear Hp
  rintro e w4 hk
  unfold PkPost at hk
  rw [pk_c] at hk
  obtain ⟨rfl, hS, hO⟩ := hk
  have HO2 : Hid (Only (fun i => w.heap.size ≤ i) w w4) := HO1.out.trans' hO (by rintro i hi rfl; exact hg)
  have Hw := Lib.hid (waits_any b g [1, 0] 2 0 w4 hS)
  clear hS hO HO1
  go_wp2_with (fail)
  refine Hw.out.mono ?_
  rintro e w5 ⟨rfl, hO5⟩
  have HO5 := Lib.hid hO5
  clear hO5 Hw
  have e1 : waitI [1, 0] 0 = 1 := by decide
  rw [e1]
  clear e1
  go_wp2
  go_ret
  exact ⟨by simp, (HO2.out.trans (HO5.out.mono fun _ _ h => h.elim)).fresh _⟩
end Go.Proofs.Ytcbgobgicknhiaa
