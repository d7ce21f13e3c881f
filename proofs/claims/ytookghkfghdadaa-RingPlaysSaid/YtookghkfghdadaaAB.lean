/- Ring: RingKeeps: the plain part; has. -/
import Derived.Test.YtookghkfghdadaaAA
import Derived.Test.YtookghkfghdadaaJ
namespace Go.Proofs.Ytookghkfghdadaa
open Go.RowKit

def zeroSl : Sl := ⟨0, 0, 0, 0, []⟩
/-- What a ring of so many cells l, tail t, head h, keeps of what was put and what was done. -/
structure Kp (l : List RC) (size t h : Nat) (ps : List Sl) (dn : List Int) : Prop where
  len : l.length = size
  pos : 0 < size
  hd : ps.length = h
  win : t ≤ h ∧ h ≤ t + size
  sl : ∀ p, t ≤ p → p < h → slotOf l p = ps.getD p zeroSl
  d1 : ∀ p : Nat, p < t → (p : Int) ∈ dn
  d2 : ∀ p : Nat, t ≤ p → p < h → stOf l p = 2 → (p : Int) ∈ dn

theorem mod_inj {p q n t : Nat} (hn : 0 < n) (h1 : t ≤ p) (h2 : p < t + n) (h3 : t ≤ q) (h4 : q < t + n) (h : p % n = q % n) : p = q := by
  have e1 := Nat.div_add_mod p n
  have e2 := Nat.div_add_mod q n
  rw [h] at e1
  have hd : p / n = q / n := by
    rcases Nat.lt_trichotomy (p / n) (q / n) with hlt | heq | hgt
    · have : n * (p / n) + n ≤ n * (q / n) := by rw [← Nat.mul_succ]; exact Nat.mul_le_mul_left _ hlt
      omega
    · exact heq
    · have : n * (q / n) + n ≤ n * (p / n) := by rw [← Nat.mul_succ]; exact Nat.mul_le_mul_left _ hgt
      omega
  rw [hd] at e1
  omega

theorem Kp.put {l : List RC} {size t h : Nat} {ps : List Sl} {dn : List Int} (k : Kp l size t h ps dn) (hf : h < t + size) (r : RC) (hr : r.st = 0) : Kp (l.set (h % l.length) r) size t (h + 1) (ps ++ [r.x]) dn := by
  have hl : h % l.length < l.length := Nat.mod_lt _ (by rw [k.len]; exact k.pos)
  have hw := k.win
  refine ⟨by rw [List.length_set]; exact k.len, k.pos, by rw [List.length_append, k.hd]; rfl, by omega, fun p h1 h2 => ?_, k.d1, fun p h1 h2 h3 => ?_⟩
  · rw [slotOf_set _ _ _ _ hl]
    by_cases hp : p = h
    · subst hp
      rw [if_pos rfl]
      have := k.hd
      subst this
      simp [List.getD]
    · have : ¬ p % l.length = h % l.length := by
        rw [k.len]
        intro e
        exact hp (mod_inj k.pos h1 (by omega) hw.1 (by omega) e)
      rw [if_neg this, k.sl p h1 (by omega)]
      simp only [List.getD]
      rw [List.getElem?_append_left (by rw [k.hd]; omega)]
  · rw [stOf_set _ _ _ _ hl] at h3
    by_cases hp : p = h
    · subst hp
      rw [if_pos rfl, hr] at h3
      cases h3
    · have : ¬ p % l.length = h % l.length := by
        rw [k.len]
        intro e
        exact hp (mod_inj k.pos h1 (by omega) hw.1 (by omega) e)
      rw [if_neg this] at h3
      exact k.d2 p h1 (by omega) h3

theorem stOf_tk2 (d : Nat) : ∀ (l : List RC) (p h m : Nat) (p' : Nat), h - p = d → 0 < l.length → stOf (tk l p h m).1 p' = 2 → stOf l p' = 2 := by
  induction d with
  | zero => intro l p h m p' hd _; rw [tk_end _ _ _ _ (by omega)]; exact id
  | succ d ih =>
    intro l p h m p' hd hl
    by_cases hm : p < h ∧ 0 < m
    · by_cases hs : stOf l p = 0
      · rw [tk_take _ _ _ _ hm.1 hm.2 hs]
        intro h2
        have := ih _ _ _ _ _ (by omega) (by rw [setSt_len]; exact hl) h2
        rw [stOf_setSt _ _ _ _ hl] at this
        split at this
        · cases this
        · exact this
      · rw [tk_skip _ _ _ _ hm.1 hm.2 hs]
        exact ih _ _ _ _ _ (by omega) hl
    · rw [tk_end _ _ _ _ hm]; exact id
theorem Kp.take {l : List RC} {size t h : Nat} {ps : List Sl} {dn : List Int} (k : Kp l size t h ps dn) (n : Nat) : Kp (tk l t h n).1 size t h ps dn := by
  have hl : 0 < l.length := by rw [k.len]; exact k.pos
  exact ⟨by rw [tk_len]; exact k.len, k.pos, k.hd, k.win, fun p h1 h2 => by rw [slotOf_tk _ _ _ _ _ _ rfl hl]; exact k.sl p h1 h2, k.d1, fun p h1 h2 h3 => k.d2 p h1 h2 (stOf_tk2 _ _ _ _ _ _ rfl hl h3)⟩
theorem Kp.back {l : List RC} {size t h : Nat} {ps : List Sl} {dn : List Int} (k : Kp l size t h ps dn) (q : Nat) : Kp (setSt l q 0) size t h ps dn := by
  have hl : 0 < l.length := by rw [k.len]; exact k.pos
  refine ⟨by rw [setSt_len]; exact k.len, k.pos, k.hd, k.win, fun p h1 h2 => by rw [slotOf_setSt _ _ _ _ hl]; exact k.sl p h1 h2, k.d1, fun p h1 h2 h3 => k.d2 p h1 h2 ?_⟩
  rw [stOf_setSt _ _ _ _ hl] at h3
  split at h3
  · cases h3
  · exact h3
theorem setl_spec (d : Nat) : ∀ (l : List RC) (t h : Nat), h - t = d → t ≤ h → t ≤ setl l t h ∧ setl l t h ≤ h ∧ ∀ q, t ≤ q → q < setl l t h → stOf l q = 2 := by
  induction d with
  | zero => intro l t h hd ht; rw [setl_stop _ _ _ (by omega)]; exact ⟨by omega, ht, fun q h1 h2 => by omega⟩
  | succ d ih =>
    intro l t h hd ht
    by_cases hs : stOf l t = 2
    · rw [setl_go _ _ _ (by omega) hs]
      obtain ⟨h1, h2, h3⟩ := ih l (t + 1) h (by omega) (by omega)
      refine ⟨by omega, h2, fun q hq1 hq2 => ?_⟩
      by_cases hqt : q = t
      · rw [hqt]; exact hs
      · exact h3 q (by omega) hq2
    · rw [setl_stop _ _ _ (fun e => hs e.2)]
      exact ⟨by omega, ht, fun q h1 h2 => by omega⟩
theorem Kp.done {l : List RC} {size t h : Nat} {ps : List Sl} {dn : List Int} (k : Kp l size t h ps dn) (q : Nat) (hq : t ≤ q ∧ q < h) : Kp (setSt l q 2) size (setl (setSt l q 2) t h) h ps (dn ++ [(q : Int)]) := by
  have hl : 0 < l.length := by rw [k.len]; exact k.pos
  have hw := k.win
  obtain ⟨s1, s2, s3⟩ := setl_spec _ (setSt l q 2) t h rfl hw.1
  have hst : ∀ p : Nat, t ≤ p → p < h → stOf (setSt l q 2) p = 2 → (p : Int) ∈ dn ++ [(q : Int)] := by
    intro p h1 h2 h3
    rw [stOf_setSt _ _ _ _ hl] at h3
    by_cases hm : p % l.length = q % l.length
    · rw [k.len] at hm
      have := mod_inj k.pos h1 (by omega) hq.1 (by omega) hm
      subst this
      simp
    · rw [if_neg hm] at h3
      exact List.mem_append_left _ (k.d2 p h1 h2 h3)
  refine ⟨by rw [setSt_len]; exact k.len, k.pos, k.hd, by omega, fun p h1 h2 => by rw [slotOf_setSt _ _ _ _ hl]; exact k.sl p (by omega) h2, fun p h1 => ?_, fun p h1 h2 h3 => hst p (by omega) h2 h3⟩
  by_cases hpt : p < t
  · exact List.mem_append_left _ (k.d1 p hpt)
  · exact hst p (by omega) (by omega) (s3 p (by omega) h1)

set_option maxRecDepth 100000 in
set_option maxHeartbeats 4000000 in
theorem has_any (g c : Nat) (A : Option Addr) (l : List Int) (z : Int) (w : World) (hr : Rd w g A (iv l)) (hl : l.length ≤ 1000000) (hz : z ∈ l) :
    Calls Try.prog 23 #[.slice A l.length c, .int .i64 z] w fun e w' => e = .returned (.bool true) ∧ w' = w := by
  have HR := Lib.hid hr
  have HZ := Lib.hid hz
  clear hr hz
  obtain ⟨n, hn⟩ : ∃ n, l.length = n := ⟨_, rfl⟩
  have HN := Lib.hid hn
  rw [hn] at hl ⊢
  clear hn
  go_enter Try.func23, Try.ntmps23
  go_wp2_with (fail)
  go_loop [5] (fun v5 => ∃ i : Nat, i ≤ n ∧ v5 = .int .i64 i ∧ ∀ j, j < i → l.getD j 0 ≠ z) (fun v5 => (n - intOf v5).toNat)
  case atStart => exact ⟨0, by omega, rfl, fun j hj => by omega⟩
  case round =>
    obtain ⟨i, hi, rfl, hJ⟩ := hrel
    have HJ := Lib.hid hJ
    clear hJ
    by_cases hin : i < n
    · have i0 : (0 : Int) ≤ i := by omega
      have i1 : (i : Int) < n := by omega
      have hil : i < l.length := by rw [HN.out]; exact hin
      obtain ⟨off, rfl, _, hc⟩ := HR.out.at (by intro e; have := iv_len l; rw [e] at this; simp at this; omega)
      have d0 := hc i _ (iv_get l i hil)
      have hg : l.getD i 0 = l[i] := by simp [List.getD, hil]
      rw [← hg] at d0
      have HNX : Hid (l.getD i 0 ≠ z → ∀ j, j < i + 1 → l.getD j 0 ≠ z) := Lib.hid (fun h0 j hj => by
        rcases Nat.lt_succ_iff_lt_or_eq.1 hj with h | rfl
        · exact HJ.out j h
        · exact h0)
      clear hc hg
      generalize l.getD i 0 = y at *
      by_cases hy : y = z
      · subst hy
        have t1 : (y == y) = true := by simp
        go_wp2
        go_ret
        exact ⟨rfl, rfl⟩
      · have t1 : (y == z) = false := beq_false_of_ne hy
        have HNX' := Lib.hid (HNX.out hy)
        clear hy
        go_wp2
        go_round
        case rel => exact ⟨i + 1, by omega, by simp, HNX'.out⟩
        case measure => simp [intOf]; omega
    · exfalso
      obtain ⟨j, hj, h⟩ := List.getElem_of_mem HZ.out
      refine HJ.out j (by rw [HN.out] at hj; omega) ?_
      simp [List.getD, hj, h]

/-- A slot in a row: where its bytes lie. -/
structure PS where
  x : Sl
  A : Option Addr
  c : Nat
  gp : Nat
def PS.cells (r : PS) : List Value := [.int .i64 r.x.k, .int .i64 r.x.l, .int .i64 r.x.s, .slice r.A r.x.data.length r.c, .int .i64 r.x.f]
def psc (l : List PS) : List Value := l.flatMap PS.cells
structure PS.Ok (w : World) (r : PS) : Prop where
  row : RowAt w r.A r.x.data.length r.c r.gp 5 1 (bv r.x.data)
  len : r.x.data.length ≤ 1000000
theorem psc_len (l : List PS) : (psc l).length = l.length * 5 := by
  induction l with
  | nil => rfl
  | cons x t ih => simp only [psc, List.flatMap_cons, List.length_append, List.length_cons] at *; rw [ih]; simp [PS.cells]; omega
theorem psc_get (l : List PS) (i j : Nat) (hi : i < l.length) (hj : j < 5) : (psc l)[i * 5 + j]? = (l[i]).cells[j]? := by
  induction l generalizing i with
  | nil => simp at hi
  | cons x t ih =>
    have hc : x.cells.length = 5 := rfl
    cases i with
    | zero =>
      simp only [psc, List.flatMap_cons, Nat.zero_mul, Nat.zero_add, List.getElem_cons_zero]
      rw [List.getElem?_append_left (by omega)]
    | succ i =>
      simp only [psc, List.flatMap_cons, List.getElem_cons_succ]
      rw [List.getElem?_append_right (by omega)]
      have := ih i (by simpa using hi)
      rw [← this]
      congr 1
      omega
theorem psc_snoc (l : List PS) (r : PS) : psc (l ++ [r]) = psc l ++ r.cells := by simp [psc]

/-- All that the law's loop has in memory. -/
structure KM (B : Nat) (w : World) (b g t h : Nat) (l : List RC) (ps : List PS) (dn : List Int) (A8 : Option Addr) (c8 g8 : Nat) (A9 : Option Addr) (c9 g9 : Nat) : Prop where
  rg : RgAt w b g t h l
  r8 : RowAt w A8 ps.length c8 g8 37 5 (psc ps)
  ok : ∀ r ∈ ps, r.Ok w
  r9 : RowAt w A9 dn.length c9 g9 3 1 (iv dn)
  hb : B ≤ b
  hg : B ≤ g
  h8 : A8 ≠ none → B ≤ g8
  h9 : A9 ≠ none → B ≤ g9
section
variable {B : Nat} {w w' : World} {b g t h t' h' : Nat} {l l' : List RC} {ps : List PS} {dn : List Int} {A8 A9 : Option Addr} {c8 g8 c9 g9 : Nat}
theorem KM.quiet (k : KM B w b g t h l ps dn A8 c8 g8 A9 c9 g9) (o : Only (fun _ => False) w w') : KM B w' b g t h l ps dn A8 c8 g8 A9 c9 g9 :=
  ⟨k.rg.quiet o, k.r8.only o (fun _ => id), fun r hr => ⟨(k.ok r hr).row.only o (fun _ => id), (k.ok r hr).len⟩, k.r9.only o (fun _ => id), k.hb, k.hg, k.h8, k.h9⟩
/-- The ring alone has turned. -/
theorem KM.turn (k : KM B w b g t h l ps dn A8 c8 g8 A9 c9 g9) (o : Only (fun i => i = b ∨ i = g) w w') (hrg : RgAt w' b g t' h' l') : KM B w' b g t' h' l' ps dn A8 c8 g8 A9 c9 g9 := by
  have n8 : A8 ≠ none → ¬ (g8 = b ∨ g8 = g) := fun hA h => by
    rcases h with h | h
    · exact (k.r8.neAt k.rg.st hA (by decide)) h
    · exact (k.r8.neAt k.rg.row hA (by decide)) h
  have n9 : A9 ≠ none → ¬ (g9 = b ∨ g9 = g) := fun hA h => by
    rcases h with h | h
    · exact (k.r9.neAt k.rg.st hA (by decide)) h
    · exact (k.r9.neAt k.rg.row hA (by decide)) h
  refine ⟨hrg, k.r8.only o n8, fun r hr => ⟨(k.ok r hr).row.only o (fun hA h => ?_), (k.ok r hr).len⟩, k.r9.only o n9, k.hb, k.hg, k.h8, k.h9⟩
  rcases h with h | h
  · exact ((k.ok r hr).row.neAt k.rg.st hA (by decide)) h
  · exact ((k.ok r hr).row.neAt k.rg.row hA (by decide)) h
/-- One slot more in the row. -/
theorem KM.app8 (k : KM B w b g t h l ps dn A8 c8 g8 A9 c9 g9) (hB : B ≤ w.heap.size) {A8' : Option Addr} {c8' g8' : Nat} {r : PS} (hr : r.Ok w) (o : Only (fun i => A8 ≠ none ∧ i = g8) w w')
    (row : RowAt w' A8' (ps.length + 1) c8' g8' 37 5 (psc ps ++ r.cells)) (hA : A8' ≠ none ∧ (A8 ≠ none ∧ g8' = g8 ∨ w.heap.size ≤ g8')) : KM B w' b g t h l (ps ++ [r]) dn A8' c8' g8' A9 c9 g9 := by
  have okk : ∀ q ∈ ps ++ [r], q.Ok w := fun q hq => by
    rcases List.mem_append.1 hq with hq | hq
    · exact k.ok q hq
    · simp at hq; subst hq; exact hr
  refine ⟨k.rg.only o ?_ ?_ ?_, by rw [List.length_append, psc_snoc]; exact row, fun q hq => ⟨(okk q hq).row.only o ?_, (okk q hq).len⟩, k.r9.only o ?_, k.hb, k.hg, fun _ => ?_, k.h9⟩
  · rintro ⟨h1, h2⟩; exact (k.r8.neAt k.rg.st h1 (by decide)) h2.symm
  · rintro ⟨h1, h2⟩; exact (k.r8.neAt k.rg.row h1 (by decide)) h2.symm
  · rintro i hi ⟨h1, h2⟩
    obtain ⟨cs, hc⟩ := k.rg.tyP hi
    exact (k.r8.neAt hc h1 (by decide)) h2.symm
  · rintro hq ⟨h1, h2⟩
    exact (okk q (by assumption)).row.ne k.r8 hq h1 (by decide) h2
  · rintro hq ⟨h1, h2⟩
    exact k.r9.ne k.r8 hq h1 (by decide) h2
  · rcases hA.2 with ⟨h1, h2⟩ | h2
    · rw [h2]; exact k.h8 h1
    · omega
/-- One number more in the list of what was done. -/
theorem KM.app9 (k : KM B w b g t h l ps dn A8 c8 g8 A9 c9 g9) (hB : B ≤ w.heap.size) {A9' : Option Addr} {c9' g9' : Nat} {z : Int} (o : Only (fun i => A9 ≠ none ∧ i = g9) w w')
    (row : RowAt w' A9' (dn.length + 1) c9' g9' 3 1 (iv dn ++ [.int .i64 z])) (hA : A9' ≠ none ∧ (A9 ≠ none ∧ g9' = g9 ∨ w.heap.size ≤ g9')) : KM B w' b g t h l ps (dn ++ [z]) A8 c8 g8 A9' c9' g9' := by
  refine ⟨k.rg.only o ?_ ?_ ?_, k.r8.only o ?_, fun q hq => ⟨(k.ok q hq).row.only o ?_, (k.ok q hq).len⟩, ?_, k.hb, k.hg, k.h8, fun _ => ?_⟩
  · rintro ⟨h1, h2⟩; exact (k.r9.neAt k.rg.st h1 (by decide)) h2.symm
  · rintro ⟨h1, h2⟩; exact (k.r9.neAt k.rg.row h1 (by decide)) h2.symm
  · rintro i hi ⟨h1, h2⟩
    obtain ⟨cs, hc⟩ := k.rg.tyP hi
    exact (k.r9.neAt hc h1 (by decide)) h2.symm
  · rintro hq ⟨h1, h2⟩
    exact k.r8.ne k.r9 hq h1 (by decide) h2
  · rintro hq' ⟨h1, h2⟩
    exact (k.ok q hq).row.ne k.r9 hq' h1 (by decide) h2
  · rw [List.length_append]
    have : iv (dn ++ [z]) = iv dn ++ [.int .i64 z] := by simp [iv]
    rw [this]; exact row
  · rcases hA.2 with ⟨h1, h2⟩ | h2
    · rw [h2]; exact k.h9 h1
    · omega
end
/-- The five cells of the slot at place k of the row. -/
theorem ps_cells {w : World} {A : Option Addr} {n c g : Nat} {l : List PS} {k : Nat} (h : RowAt w A n c g 37 5 (psc l)) (hk : k < l.length) :
    ∃ off, A = some ⟨g, off, none⟩ ∧ w.cell? ⟨g, off + k * 5, none⟩ = some (.int .i64 l[k].x.k) ∧ w.cell? ⟨g, off + k * 5 + 1, none⟩ = some (.int .i64 l[k].x.l) ∧ w.cell? ⟨g, off + k * 5 + 2, none⟩ = some (.int .i64 l[k].x.s) ∧
      w.cell? ⟨g, off + k * 5 + 3, none⟩ = some (.slice l[k].A l[k].x.data.length l[k].c) ∧ w.cell? ⟨g, off + k * 5 + 4, none⟩ = some (.int .i64 l[k].x.f) := by
  obtain ⟨off, hA, _, hc⟩ := h.rd.at (by intro e; have := psc_len l; rw [e] at this; simp at this; omega)
  have hh : ∀ j, j < 5 → ∀ u, (l[k]).cells[j]? = some u → w.cell? ⟨g, off + k * 5 + j, none⟩ = some u := by
    intro j hj u hu
    have := hc (k * 5 + j) u (by rw [psc_get l k j hk hj]; exact hu)
    rwa [← Nat.add_assoc] at this
  exact ⟨off, hA, hh 0 (by omega) _ rfl, hh 1 (by omega) _ rfl, hh 2 (by omega) _ rfl, hh 3 (by omega) _ rfl, hh 4 (by omega) _ rfl⟩
theorem turn_zero {l : List RC} {t h : Nat} {p : Int} (hE : turnE l t h p = 0) : ∃ q : Nat, p = q ∧ t ≤ q ∧ q < h ∧ stOf l q = 1 := by
  unfold turnE at hE
  split at hE
  · cases hE
  · split at hE
    · rename_i h1 h2
      have h0 : 0 ≤ p := by omega
      exact ⟨p.toNat, by omega, by omega, by omega, h2⟩
    · cases hE
end Go.Proofs.Ytookghkfghdadaa
