/- Ring: RingPlays: the plain part: the ring and the document's. -/
import Derived.Test.YtookghkfghdadaaAG
namespace Go.Proofs.Ytookghkfghdadaa
open Go.RowKit

/-- The window's states are the document's. -/
structure Wn (l : List RC) (ss : List Int) (size t h : Nat) : Prop where
  len : l.length = size
  pos : 0 < size
  hs : ss.length = h
  win : t ≤ h ∧ h ≤ t + size
  st : ∀ p, t ≤ p → p < h → stOf l p = ss.getD p 0
theorem getD_set (ss : List Int) (q : Nat) (z : Int) (p : Nat) (hq : q < ss.length) : (ss.set q z).getD p 0 = if p = q then z else ss.getD p 0 := by
  simp only [List.getD, List.getElem?_set]
  by_cases h : q = p
  · subst h; simp [hq]
  · rw [if_neg h, if_neg (fun e => h e.symm)]
theorem Wn.set {l : List RC} {ss : List Int} {size t h : Nat} (k : Wn l ss size t h) (q : Nat) (z : Int) (hq : t ≤ q ∧ q < h) : Wn (setSt l q z) (ss.set q z) size t h := by
  have hl : 0 < l.length := by rw [k.len]; exact k.pos
  refine ⟨by rw [setSt_len]; exact k.len, k.pos, by rw [List.length_set]; exact k.hs, k.win, fun p h1 h2 => ?_⟩
  rw [stOf_setSt _ _ _ _ hl, getD_set _ _ _ _ (by rw [k.hs]; exact hq.2), k.len]
  have hw := k.win
  by_cases hp : p = q
  · subst hp; rw [if_pos rfl, if_pos rfl]
  · rw [if_neg (fun e => hp (mod_inj k.pos h1 (by omega) hq.1 (by omega) e)), if_neg hp]
    exact k.st p h1 h2
theorem Wn.tk (d : Nat) : ∀ (l : List RC) (ss : List Int) (size t h p m : Nat), h - p = d → t ≤ p → Wn l ss size t h → (tk l p h m).2 = (xtk ss p m).2 ∧ Wn (Proofs.Ytookghkfghdadaa.tk l p h m).1 (xtk ss p m).1 size t h := by
  induction d with
  | zero =>
    intro l ss size t h p m hd ht k
    rw [tk_end _ _ _ _ (by omega), xtk_end _ _ _ (by rw [k.hs]; omega)]
    exact ⟨rfl, k⟩
  | succ d ih =>
    intro l ss size t h p m hd ht k
    by_cases hm : 0 < m
    · have hst := k.st p ht (by omega)
      by_cases h0 : stOf l p = 0
      · rw [tk_take _ _ _ _ (by omega) hm h0, xtk_take _ _ _ (by rw [k.hs]; omega) hm (by rw [← hst]; exact h0)]
        obtain ⟨e1, e2⟩ := ih _ _ size t h (p + 1) (m - 1) (by omega) (by omega) (k.set p 1 ⟨ht, by omega⟩)
        exact ⟨by simp only; rw [e1], e2⟩
      · rw [tk_skip _ _ _ _ (by omega) hm h0, xtk_skip _ _ _ (by rw [k.hs]; omega) hm (by rw [← hst]; exact h0)]
        exact ih _ _ size t h (p + 1) m (by omega) (by omega) k
    · rw [tk_end _ _ _ _ (by omega), xtk_end _ _ _ (by omega)]
      exact ⟨rfl, k⟩
theorem xtk_ahead (d : Nat) : ∀ (ss : List Int) (p t m : Nat), t - p = d → p ≤ t → t ≤ ss.length → (∀ j, p ≤ j → j < t → ss.getD j 0 = 2) → xtk ss p m = xtk ss t m := by
  induction d with
  | zero => intro ss p t m hd hp ht h; rw [show p = t by omega]
  | succ d ih =>
    intro ss p t m hd hp ht h
    by_cases hm : 0 < m
    · rw [xtk_skip _ _ _ (by omega) hm (by rw [h p (by omega) (by omega)]; decide)]
      exact ih ss (p + 1) t m (by omega) (by omega) ht (fun j h1 h2 => h j (by omega) h2)
    · rw [xtk_end _ _ _ (by omega), xtk_end _ _ _ (by omega)]
theorem xtk_len (d : Nat) : ∀ (ss : List Int) (p m : Nat), ss.length - p = d → (xtk ss p m).1.length = ss.length := by
  induction d with
  | zero => intro ss p m hd; rw [xtk_end _ _ _ (by omega)]
  | succ d ih =>
    intro ss p m hd
    by_cases hm : 0 < m
    · by_cases h0 : ss.getD p 0 = 0
      · rw [xtk_take _ _ _ (by omega) hm h0]
        simp only
        rw [ih _ _ _ (by rw [List.length_set]; omega), List.length_set]
      · rw [xtk_skip _ _ _ (by omega) hm h0]
        exact ih _ _ _ (by omega)
    · rw [xtk_end _ _ _ (by omega)]
theorem xtk_two (d : Nat) : ∀ (ss : List Int) (p m j : Nat), ss.length - p = d → ((xtk ss p m).1.getD j 0 = 2 ↔ ss.getD j 0 = 2) := by
  induction d with
  | zero => intro ss p m j hd; rw [xtk_end _ _ _ (by omega)]
  | succ d ih =>
    intro ss p m j hd
    by_cases hm : 0 < m
    · by_cases h0 : ss.getD p 0 = 0
      · rw [xtk_take _ _ _ (by omega) hm h0]
        simp only
        rw [ih _ _ _ _ (by rw [List.length_set]; omega), getD_set _ _ _ _ (by omega)]
        by_cases hj : j = p
        · subst hj; rw [if_pos rfl, h0]; decide
        · rw [if_neg hj]
      · rw [xtk_skip _ _ _ (by omega) hm h0]
        exact ih _ _ _ _ (by omega)
    · rw [xtk_end _ _ _ (by omega)]

/-- The ring and the document's ring are of one mind. -/
structure Rl (l : List RC) (size t h : Nat) (ps : List PS) (ss : List Int) : Prop where
  wn : Wn l ss size t h
  hp : ps.length = h
  sl : ∀ p, t ≤ p → p < h → slotOf l p = slotX ps p
  tl : TL ss t
section
variable {l : List RC} {size t h : Nat} {ps : List PS} {ss : List Int}
theorem slotX_app (ps : List PS) (q : PS) (p : Nat) : slotX (ps ++ [q]) p = if p = ps.length then q.x else slotX ps p := by
  unfold slotX
  simp only [List.getD, List.map_append, List.map_cons, List.map_nil]
  by_cases h : p = ps.length
  · subst h; simp
  · rw [if_neg h]
    by_cases h' : p < ps.length
    · rw [List.getElem?_append_left (by simpa using h')]
    · rw [List.getElem?_eq_none (by simp; omega), List.getElem?_eq_none (by simp; omega)]
theorem getD_app (ss : List Int) (z : Int) (p : Nat) (hp : p ≤ ss.length) : (ss ++ [z]).getD p 0 = if p = ss.length then z else ss.getD p 0 := by
  simp only [List.getD]
  by_cases h : p = ss.length
  · subst h; simp
  · rw [if_neg h, List.getElem?_append_left (by omega)]
theorem Rl.put (k : Rl l size t h ps ss) (hf : h < t + size) (r : RC) (hr : r.st = 0) (q : PS) (hq : q.x = r.x) : Rl (l.set (h % l.length) r) size t (h + 1) (ps ++ [q]) (ss ++ [0]) := by
  have hl : h % l.length < l.length := Nat.mod_lt _ (by rw [k.wn.len]; exact k.wn.pos)
  have hw := k.wn.win
  have hne : ∀ p, t ≤ p → p < h → ¬ p % l.length = h % l.length := fun p h1 h2 e => by
    rw [k.wn.len] at e
    have := mod_inj k.wn.pos h1 (by omega) hw.1 (by omega) e
    omega
  refine ⟨⟨by rw [List.length_set]; exact k.wn.len, k.wn.pos, by rw [List.length_append, k.wn.hs]; rfl, by omega, fun p h1 h2 => ?_⟩, by rw [List.length_append, k.hp]; rfl, fun p h1 h2 => ?_, ⟨?_, fun j hj => ?_, fun _ => ?_⟩⟩
  · rw [stOf_set _ _ _ _ hl, getD_app _ _ _ (by rw [k.wn.hs]; omega), k.wn.hs]
    by_cases hp : p = h
    · subst hp; rw [if_pos rfl, if_pos rfl, hr]
    · rw [if_neg (hne p h1 (by omega)), if_neg hp]
      exact k.wn.st p h1 (by omega)
  · rw [slotOf_set _ _ _ _ hl, slotX_app, k.hp]
    by_cases hp : p = h
    · subst hp; rw [if_pos rfl, if_pos rfl, hq]
    · rw [if_neg (hne p h1 (by omega)), if_neg hp]
      exact k.sl p h1 (by omega)
  · rw [List.length_append, k.wn.hs]; omega
  · rw [getD_app _ _ _ (by rw [k.wn.hs]; omega), if_neg (by rw [k.wn.hs]; omega)]
    exact k.tl.two j hj
  · rw [getD_app _ _ _ (by rw [k.wn.hs]; omega), k.wn.hs]
    by_cases hp : t = h
    · rw [if_pos hp]; decide
    · rw [if_neg hp]
      exact k.tl.top (by rw [k.wn.hs]; omega)
theorem waitN_zc (d : Nat) : ∀ (l : List RC) (ss : List Int) (p h : Nat), h - p = d → p ≤ h → (∀ j, p ≤ j → j < h → stOf l j = ss.getD j 0) → waitN l p h + zc ss p = zc ss h := by
  induction d with
  | zero => intro l ss p h hd hp _; rw [waitN_end _ _ _ (by omega), show p = h by omega]; omega
  | succ d ih =>
    intro l ss p h hd hp hs
    have := ih l ss (p + 1) h (by omega) (by omega) (fun j h1 h2 => hs j (by omega) h2)
    rw [waitN_go _ _ _ (by omega), hs p (by omega) (by omega), ← this]
    simp only [zc]
    omega
theorem zc_two (ss : List Int) (t : Nat) (h : ∀ j, j < t → ss.getD j 0 = 2) : zc ss t = 0 := by
  induction t with
  | zero => rfl
  | succ t ih =>
    simp only [zc]
    rw [ih (fun j hj => h j (by omega)), h t (by omega)]
    rfl
theorem Rl.wait (k : Rl l size t h ps ss) : waitN l t h = zc ss ss.length := by
  have h1 := waitN_zc _ l ss t h rfl k.wn.win.1 k.wn.st
  rw [zc_two ss t k.tl.two] at h1
  rw [k.wn.hs]; omega
theorem Rl.take (k : Rl l size t h ps ss) (m : Nat) : (tk l t h m).2 = (xtk ss 0 m).2 ∧ Rl (tk l t h m).1 size t h ps (xtk ss 0 m).1 := by
  have hl : 0 < l.length := by rw [k.wn.len]; exact k.wn.pos
  have ha := xtk_ahead _ ss 0 t m rfl (by omega) k.tl.le (fun j _ hj => k.tl.two j hj)
  obtain ⟨e1, e2⟩ := Wn.tk _ l ss size t h t m rfl (Nat.le_refl _) k.wn
  have hlen := xtk_len _ ss t m rfl
  have htwo := fun j => xtk_two _ ss t m j rfl
  rw [ha]
  exact ⟨e1, e2, k.hp, fun p h1 h2 => by rw [slotOf_tk _ _ _ _ _ _ rfl hl]; exact k.sl p h1 h2, by rw [hlen]; exact k.tl.le, fun j hj => (htwo j).2 (k.tl.two j hj), fun hj e => k.tl.top (by rw [← hlen]; exact hj) ((htwo t).1 e)⟩
theorem Rl.turnE (k : Rl l size t h ps ss) (p : Int) : turnE l t h p = xturnE ss t p := by
  unfold Proofs.Ytookghkfghdadaa.turnE xturnE
  rw [k.wn.hs]
  split
  · rfl
  · rename_i hp
    obtain ⟨q, rfl⟩ : ∃ q : Nat, p = q := ⟨p.toNat, by omega⟩
    have e : stOf l q = ss.getD q 0 := k.wn.st q (by omega) (by omega)
    simp only [Int.toNat_natCast, e]
theorem Rl.back (k : Rl l size t h ps ss) (q : Nat) (hq : t ≤ q ∧ q < h) (h1 : ss.getD q 0 = 1) : Rl (setSt l q 0) size t h ps (ss.set q 0) := by
  have hl : 0 < l.length := by rw [k.wn.len]; exact k.wn.pos
  have hqs : q < ss.length := by rw [k.wn.hs]; exact hq.2
  refine ⟨k.wn.set q 0 hq, k.hp, fun p h1 h2 => by rw [slotOf_setSt _ _ _ _ hl]; exact k.sl p h1 h2, by rw [List.length_set]; exact k.tl.le, fun j hj => ?_, fun hj => ?_⟩
  · rw [getD_set _ _ _ _ hqs, if_neg (by omega)]; exact k.tl.two j hj
  · rw [getD_set _ _ _ _ hqs]
    split
    · decide
    · rw [List.length_set] at hj; exact k.tl.top hj
theorem setl_end (d : Nat) : ∀ (l : List RC) (t h : Nat), h - t = d → t ≤ h → setl l t h < h → stOf l (setl l t h) ≠ 2 := by
  induction d with
  | zero => intro l t h hd ht; rw [setl_stop _ _ _ (by omega)]; omega
  | succ d ih =>
    intro l t h hd ht
    by_cases hs : stOf l t = 2
    · rw [setl_go _ _ _ (by omega) hs]
      exact ih l (t + 1) h (by omega) (by omega)
    · rw [setl_stop _ _ _ (fun e => hs e.2)]
      exact fun _ => hs
theorem Rl.done (k : Rl l size t h ps ss) (q : Nat) (hq : t ≤ q ∧ q < h) : Rl (setSt l q 2) size (setl (setSt l q 2) t h) h ps (ss.set q 2) := by
  have hl : 0 < l.length := by rw [k.wn.len]; exact k.wn.pos
  have hqs : q < ss.length := by rw [k.wn.hs]; exact hq.2
  have hw := k.wn.win
  have hn := k.wn.set q 2 hq
  obtain ⟨s1, s2, s3⟩ := setl_spec _ (setSt l q 2) t h rfl hw.1
  have s4 := setl_end _ (setSt l q 2) t h rfl hw.1
  refine ⟨⟨hn.len, hn.pos, hn.hs, by omega, fun p h1 h2 => hn.st p (by omega) h2⟩, k.hp, fun p h1 h2 => by rw [slotOf_setSt _ _ _ _ hl]; exact k.sl p (by omega) h2, by rw [hn.hs]; exact s2, fun j hj => ?_, fun hj => ?_⟩
  · by_cases hjt : j < t
    · rw [getD_set _ _ _ _ hqs, if_neg (by omega)]; exact k.tl.two j hjt
    · rw [← hn.st j (by omega) (by omega)]
      exact s3 j (by omega) hj
  · rw [hn.hs] at hj
    rw [← hn.st _ s1 hj]
    exact s4 hj
theorem fd_same {ok ok' : Nat → Bool} {t : Nat} (n : Nat) (h : ∀ p, t ≤ p → p < n → ok p = ok' p) : fd ok t n = fd ok' t n := by
  induction n with
  | zero => rfl
  | succ n ih =>
    simp only [fd]
    by_cases hn : n < t
    · first
        | rw [if_neg (by omega), if_neg (by omega)]
        | rw [if_pos hn, if_pos hn]
    · have e1 := h n (by omega) (by omega)
      have e2 := ih (fun p h1 h2 => h p h1 (by omega))
      rw [e1, e2]
theorem Rl.find (k : Rl l size t h ps ss) (lba : Int) : fd (okAt l lba) t h = fd (okX ps lba) t ps.length := by
  rw [k.hp]
  refine fd_same h (fun p h1 h2 => ?_)
  unfold okAt okX
  rw [k.sl p h1 h2]
theorem Rl.zero (size : Nat) (h : 1 ≤ size) : Rl (List.replicate size RC.zero) size 0 0 [] [] :=
  ⟨⟨by simp, by omega, rfl, by omega, fun p h1 h2 => by omega⟩, rfl, fun p h1 h2 => by omega, by simp, fun j hj => by omega, fun h => by simp at h⟩
end
end Go.Proofs.Ytookghkfghdadaa
