/- Lines: what holds of lines after any calls. -/
import Derived.Test.YtlenjgofiocaaaaX
namespace Go.Proofs.Ytlenjgofiocaaaa
open Go.RowKit

structure Fine (x : Ln) : Prop where
  g : 0 ≤ x.g ∧ x.g ≤ 8
  w : 0 ≤ x.w ∧ x.w ≤ 2147483647
  s : x.s = 0 ∨ x.s = 1 ∨ x.s = 2 ∨ x.s = 3
  z : x.g = 0 → x.s ≠ 0
structure Inv (l : List Ln) (op : Int) : Prop where
  f : ∀ x ∈ l, Fine x
  o : ∀ (i : Nat) (h : i < l.length), (l[i]).s = 1 ↔ op = i
  b : op = -1 ∨ ∃ i : Nat, i < l.length ∧ op = i
theorem Inv.g {l : List Ln} {op : Int} (h : Inv l op) : gOk l := fun x hx => (h.f x hx).g
theorem Inv.w {l : List Ln} {op : Int} (h : Inv l op) : ∀ x ∈ l, 0 ≤ x.w ∧ x.w ≤ 2147483647 := fun x hx => (h.f x hx).w

theorem un_s (g : Int) : un g = 0 ∨ un g = 1 ∨ un g = 2 ∨ un g = 3 := by unfold un; split <;> simp
theorem un_z {g : Int} (h : g = 0) : un g ≠ 0 := by unfold un; rw [if_pos h]; decide
theorem un_one (g : Int) : un g ≠ 1 := by unfold un; split <;> decide
theorem Inv.new {G : Ge} {good wear : List Int} (h : newOk G good wear) : Inv (newL good wear good.length) (-1) := by
  obtain ⟨_, h1, h2, h3⟩ := newOk_g h
  refine ⟨fun x hx => ⟨h1 x hx, h2 x hx, ?_, fun e => ?_⟩, fun i hi => ?_, .inl rfl⟩
  · rw [h3 x hx]; exact un_s _
  · rw [h3 x hx]; exact un_z e
  · have := h3 _ (List.getElem_mem hi)
    constructor
    · intro e; rw [this] at e; exact absurd e (un_one _)
    · intro e; omega
theorem Inv.set {l : List Ln} {op : Int} (h : Inv l op) {i : Nat} (hi : i < l.length) {y : Ln} {op' : Int} (hy : Fine y) (h1 : y.s = 1 ↔ op' = i) (h2 : ∀ j : Nat, j ≠ i → (op' = j ↔ op = j)) (h3 : op' = -1 ∨ ∃ j : Nat, j < l.length ∧ op' = j) : Inv (l.set i y) op' := by
  refine ⟨fun x hx => ?_, fun j hj => ?_, ?_⟩
  · rcases List.mem_or_eq_of_mem_set hx with hx | rfl
    · exact h.f x hx
    · exact hy
  · by_cases e : i = j
    · subst e; simpa using h1
    · rw [List.getElem_set_ne e]
      exact (h.o j (by simpa using hj)).trans (h2 j (fun e' => e e'.symm)).symm
  · simpa using h3

theorem capTo_set (G : Ge) (l : List Ln) (i : Nat) (y : Ln) (hi : i < l.length) (h : rm G y.g ≤ rm G (l[i]).g) : ∀ k, capTo G (l.set i y) k ≤ capTo G l k
  | 0 => Int.le_refl _
  | k + 1 => by
    have ih := capTo_set G l i y hi h k
    have hk : rm G ((l.set i y).getD k ⟨0, 0, 0⟩).g ≤ rm G (l.getD k ⟨0, 0, 0⟩).g := by
      by_cases e : i = k
      · subst e
        simp only [List.getD, List.getElem?_set_self hi, List.getElem?_eq_getElem hi, Option.getD_some]
        exact h
      · simp only [List.getD, List.getElem?_set_ne e]
        exact Int.le_refl _
    simp only [capTo]
    omega
theorem rm_down {G : Ge} (hG : G.Is) {g : Int} (h1 : 0 < g) : rm G (g - 1) ≤ rm G g := by
  have hp := hG.p
  have hs := hG.s
  have h0 : g ≠ 0 := by omega
  unfold rm
  rw [if_neg h0]
  split
  · apply Int.mul_nonneg
    · have : 1 * 1 ≤ g * G.p := Int.mul_le_mul (by omega) hp.1 (by omega) (by omega)
      omega
    · omega
  · apply Int.mul_le_mul_of_nonneg_right _ (by omega)
    have : (g - 1) * G.p ≤ g * G.p := Int.mul_le_mul_of_nonneg_right (by omega) (by omega)
    omega

/-- What any call leaves. -/
structure Done (b off c gb : Nat) (G : Ge) (l : List Ln) (w w' : World) : Prop where
  h : ∃ (l' : List Ln) (op' : Int), LAt w' b G l' off c gb op' ∧ Inv l' op' ∧ l'.length = l.length ∧ capTo G l' l'.length ≤ capTo G l l.length ∧ Only (fun i => i = b ∨ i = gb) w w'
theorem Done.same {b off c gb : Nat} {G : Ge} {l : List Ln} {op : Int} {w w' : World} {S : Nat → Prop} (hI : Inv l op) (k : LAt w' b G l off c gb op) (o : Only S w w') (hS : ∀ i, S i → i = b ∨ i = gb) : Done b off c gb G l w w' :=
  ⟨l, op, k, hI, rfl, Int.le_refl _, o.mono fun i _ h => hS i h⟩
theorem Done.set {b off c gb : Nat} {G : Ge} {l : List Ln} {op op' : Int} {w w' : World} {S : Nat → Prop} (hI : Inv l op) {i : Nat} (hi : i < l.length) {y : Ln} (k : LAt w' b G (l.set i y) off c gb op') (hI' : Inv (l.set i y) op') (hr : rm G y.g ≤ rm G (l[i]).g)
    (o : Only S w w') (hS : ∀ i, S i → i = b ∨ i = gb) : Done b off c gb G l w w' :=
  ⟨_, op', k, hI', by simp, by rw [List.length_set]; exact capTo_set G l i y hi hr _, o.mono fun i _ h => hS i h⟩

section
variable {b off c gb : Nat} {G : Ge} {l : List Ln} {op : Int}
theorem bst_in {st : Int} {k : Nat} : ∀ y ∈ flt l st k, y.1.2.s = st := by
  induction k with
  | zero => intro y hy; simp [flt] at hy
  | succ k ih =>
    intro y hy
    cases h : l[k]? with
    | none => simp only [flt] at hy; split at hy <;> (first | exact ih y hy | (rename_i hz; rw [h] at hz; cases hz))
    | some x =>
      by_cases hs : x.s = st
      · rw [flt_yes h hs] at hy
        rcases List.mem_append.1 hy with hy | hy
        · exact ih y hy
        · simp at hy; subst hy; exact hs
      · rw [flt_no h hs] at hy; exact ih y hy
theorem bst_mem_aux : ∀ (es : List (Ent l)) (o : Option (Ent l)) (y : Ent l), es.foldl bstep o = some y → y ∈ es ∨ o = some y
  | [], o, y, h => .inr h
  | x :: es, o, y, h => by
    rcases bst_mem_aux es (bstep o x) y h with h1 | h1
    · exact .inl (List.mem_cons_of_mem _ h1)
    · cases o with
      | none => simp [bstep] at h1; subst h1; exact .inl (List.mem_cons_self ..)
      | some z =>
        simp only [bstep] at h1
        split at h1
        · simp at h1; subst h1; exact .inl (List.mem_cons_self ..)
        · exact .inr h1
theorem bst_mem {es : List (Ent l)} {y : Ent l} (h : bst es = some y) : y ∈ es := by
  rcases bst_mem_aux es none y h with h | h
  · exact h
  · cases h

theorem open_done (hI : Inv l op) (w : World) (k : LAt w b G l off c gb op) :
    Calls Try.prog 15 #[.pointer (some ⟨b, 0, none⟩)] w fun e w' => (∃ v, e = .returned v) ∧ Done b off c gb G l w w' := by
  by_cases hop : 0 ≤ op
  · exact (open_busy b off c gb G l op w k hop).mono fun e w' h => ⟨⟨_, h.1⟩, Done.same hI (k.quiet h.2) h.2 (fun _ h => h.elim)⟩
  · refine (open_any b off c gb G l op w k (by omega)).mono fun e w' h => ?_
    cases hb : bst (flt l 0 l.length) with
    | none => rw [hb] at h; exact ⟨⟨_, h.1⟩, Done.same hI (k.quiet h.2) h.2 (fun _ h => h.elim)⟩
    | some y =>
      rw [hb] at h
      obtain ⟨he, hk, ho⟩ := h
      obtain ⟨hi, hx⟩ := List.getElem?_eq_some_iff.1 y.2
      have hs : y.1.2.s = 0 := bst_in y (bst_mem hb)
      have hf := hI.f _ (List.getElem_mem hi)
      rw [hx] at hf
      have hop' : op = -1 := by
        rcases hI.b with h | ⟨j, _, h⟩ <;> omega
      refine ⟨⟨_, he⟩, Done.set hI hi hk (hI.set hi ⟨hf.g, hf.w, .inr (.inl rfl), fun _ => (show (1 : Int) ≠ 0 by decide)⟩ (by simp) (fun j hj => by constructor <;> intro h <;> omega) (.inr ⟨y.1.1, hi, rfl⟩)) (by rw [hx]; exact Int.le_refl _) ho (fun _ h => h)⟩
theorem close_done (hI : Inv l op) (w : World) (k : LAt w b G l off c gb op) :
    Calls Try.prog 16 #[.pointer (some ⟨b, 0, none⟩)] w fun e w' => (∃ v, e = .returned v) ∧ Done b off c gb G l w w' := by
  rcases hI.b with h | ⟨i, hi, rfl⟩
  · exact (close_no b off c gb G l op (by omega) w k).mono fun e w' ⟨h1, h2⟩ => ⟨⟨_, h1⟩, Done.same (S := fun _ => False) hI (by rw [h2]; exact k) (by rw [h2]; exact Only.refl (fun _ => False) w) (fun _ h => h.elim)⟩
  · have hf := hI.f _ (List.getElem_mem hi)
    exact (close_ok b off c gb G l i hi w k).mono fun e w' ⟨h1, h2, h3⟩ => ⟨⟨_, h1⟩, Done.set hI hi h2 (hI.set hi ⟨hf.g, hf.w, .inr (.inr (.inl rfl)), fun _ => (show (2 : Int) ≠ 0 by decide)⟩ (by constructor <;> intro h <;> simp at h <;> omega) (fun j hj => by constructor <;> intro h <;> omega) (.inl rfl)) (Int.le_refl _) h3 (fun _ h => h)⟩
theorem use_done (hI : Inv l op) (n : Int) (w : World) (k : LAt w b G l off c gb op) :
    Calls Try.prog 19 #[.pointer (some ⟨b, 0, none⟩), .int .i64 n] w fun e w' => (∃ v, e = .returned v) ∧ Done b off c gb G l w w' := by
  refine (use_any b off c gb G l op n w k).mono fun e w' ⟨h1, h2, h3⟩ => ⟨⟨_, h1⟩, ?_⟩
  unfold useM at h2
  split at h2
  · rename_i hE
    obtain ⟨i, hi, rfl, hs⟩ := findE_zero hE
    rw [upd_nat hi] at h2
    have hf := hI.f _ (List.getElem_mem hi)
    have ho := hI.o i hi
    rw [hs] at ho
    exact Done.set hI hi h2 (hI.set hi ⟨hf.g, hf.w, .inr (.inr (.inl rfl)), fun _ => (show (2 : Int) ≠ 0 by decide)⟩ ⟨fun h => absurd h (show (2 : Int) ≠ 1 by decide), fun h => absurd (ho.2 h) (by decide)⟩ (fun j hj => Iff.rfl) hI.b) (Int.le_refl _) h3 (fun _ h => .inr h)
  · exact Done.same hI h2 h3 (fun _ h => .inr h)
theorem release_done (hI : Inv l op) (n : Int) (w : World) (k : LAt w b G l off c gb op) :
    Calls Try.prog 17 #[.pointer (some ⟨b, 0, none⟩), .int .i64 n] w fun e w' => (∃ v, e = .returned v) ∧ Done b off c gb G l w w' := by
  refine (release_any b off c gb G l op n w k).mono fun e w' ⟨h1, h2, h3⟩ => ⟨⟨_, h1⟩, ?_⟩
  unfold relM at h2
  split at h2
  · rename_i hE
    obtain ⟨i, hi, rfl, hs⟩ := findE_zero hE
    rw [upd_nat hi] at h2
    have hf := hI.f _ (List.getElem_mem hi)
    have ho := hI.o i hi
    rw [hs] at ho
    exact Done.set hI hi h2 (hI.set hi ⟨hf.g, hf.w, un_s _, un_z⟩ ⟨fun h => absurd h (un_one _), fun h => absurd (ho.2 h) (by decide)⟩ (fun j hj => Iff.rfl) hI.b) (Int.le_refl _) h3 (fun _ h => .inr h)
  · exact Done.same hI h2 h3 (fun _ h => .inr h)
theorem erased_done (hI : Inv l op) (n : Int) (w : World) (k : LAt w b G l off c gb op) :
    Calls Try.prog 18 #[.pointer (some ⟨b, 0, none⟩), .int .i64 n] w fun e w' => (∃ v, e = .returned v) ∧ Done b off c gb G l w w' := by
  refine (erased_any b off c gb G l hI.w op n w k).mono fun e w' ⟨h1, h2, h3⟩ => ⟨⟨_, h1⟩, ?_⟩
  unfold erM at h2
  split at h2
  · rename_i hE
    obtain ⟨i, hi, rfl, hs⟩ := findE_zero hE
    rw [upd_nat hi] at h2
    have hf := hI.f _ (List.getElem_mem hi)
    have hw := hf.w
    exact Done.set hI hi h2 (hI.set hi ⟨hf.g, (by show 0 ≤ min ((l[i]).w + 1) 2147483647 ∧ min ((l[i]).w + 1) 2147483647 ≤ 2147483647; omega), hf.s, hf.z⟩ (hI.o i hi) (fun j hj => Iff.rfl) hI.b) (Int.le_refl _) h3 (fun _ h => .inr h)
  · exact Done.same hI h2 h3 (fun _ h => .inr h)
theorem lose_done (hG : G.Is) (hI : Inv l op) (n : Int) (w : World) (k : LAt w b G l off c gb op) :
    Calls Try.prog 20 #[.pointer (some ⟨b, 0, none⟩), .int .i64 n] w fun e w' => (∃ v, e = .returned v) ∧ Done b off c gb G l w w' := by
  refine (lose_any b off c gb G l hI.g op n w k).mono fun e w' ⟨h1, h2, h3⟩ => ⟨⟨_, h1⟩, ?_⟩
  unfold loseM at h2
  split at h2
  · rename_i hE
    have hn : ¬ (n < 0 ∨ (l.length : Int) ≤ n) := fun h => by unfold loseE at hE; rw [if_pos h] at hE; cases hE
    obtain ⟨i, rfl⟩ : ∃ i : Nat, n = i := ⟨n.toNat, by omega⟩
    have hi : i < l.length := by omega
    have hg : (l[i]).g ≠ 0 := fun h => by unfold loseE at hE; rw [if_neg hn, at'_nat hi, if_pos h] at hE; cases hE
    rw [upd_nat hi] at h2
    have hf := hI.f _ (List.getElem_mem hi)
    have ho := hI.o i hi
    have hgg := hf.g
    have hs' : (lost l[i]).s = 1 ↔ (l[i]).s = 1 := by
      show (if (l[i]).s = 0 then un ((l[i]).g - 1) else (l[i]).s) = 1 ↔ _
      split
      · rename_i h
        constructor
        · intro e; exact absurd e (un_one _)
        · intro e; omega
      · exact Iff.rfl
    refine Done.set hI hi h2 (hI.set hi ⟨?_, hf.w, ?_, ?_⟩ (hs'.trans ho) (fun j hj => Iff.rfl) hI.b) (rm_down hG (by omega)) h3 (fun _ h => .inr h)
    · show 0 ≤ (l[i]).g - 1 ∧ (l[i]).g - 1 ≤ 8
      omega
    · show (if (l[i]).s = 0 then un ((l[i]).g - 1) else (l[i]).s) = 0 ∨ (if (l[i]).s = 0 then un ((l[i]).g - 1) else (l[i]).s) = 1 ∨ (if (l[i]).s = 0 then un ((l[i]).g - 1) else (l[i]).s) = 2 ∨ (if (l[i]).s = 0 then un ((l[i]).g - 1) else (l[i]).s) = 3
      split
      · exact un_s _
      · exact hf.s
    · intro e
      show (if (l[i]).s = 0 then un ((l[i]).g - 1) else (l[i]).s) ≠ 0
      split
      · exact un_z e
      · assumption
  · exact Done.same hI h2 h3 (fun _ h => .inr h)

/-- Every line is in one state. -/
theorem flt_sum (hI : Inv l op) : ∀ k, k ≤ l.length → (flt l 0 k).length + (flt l 1 k).length + (flt l 2 k).length + (flt l 3 k).length = k
  | 0, _ => rfl
  | k + 1, hk => by
    have ih := flt_sum hI k (by omega)
    have hx : l[k]? = some l[k] := List.getElem?_eq_getElem (by omega)
    have hs := (hI.f _ (List.getElem_mem (show k < l.length by omega))).s
    rcases hs with h | h | h | h
    · rw [flt_yes hx h, flt_no hx (by omega), flt_no hx (by omega), flt_no hx (by omega)]; simp; omega
    · rw [flt_no hx (by omega), flt_yes hx h, flt_no hx (by omega), flt_no hx (by omega)]; simp; omega
    · rw [flt_no hx (by omega), flt_no hx (by omega), flt_yes hx h, flt_no hx (by omega)]; simp; omega
    · rw [flt_no hx (by omega), flt_no hx (by omega), flt_no hx (by omega), flt_yes hx h]; simp; omega
theorem flt_one (hI : Inv l op) : ∀ k, k ≤ l.length → (flt l 1 k).length ≤ 1 ∧ (0 < (flt l 1 k).length → ∃ j, j < k ∧ op = (j : Int))
  | 0, _ => ⟨by simp [flt], by simp [flt]⟩
  | k + 1, hk => by
    have ih := flt_one hI k (by omega)
    have hx : l[k]? = some l[k] := List.getElem?_eq_getElem (by omega)
    have ho := hI.o k (by omega)
    by_cases h : (l[k]).s = 1
    · have hop := ho.1 h
      rw [flt_yes hx h]
      have h0 : (flt l 1 k).length = 0 := by
        rcases Nat.eq_zero_or_pos (flt l 1 k).length with h0 | h0
        · exact h0
        · obtain ⟨j, hj, e⟩ := ih.2 h0
          omega
      refine ⟨by simp [h0], fun _ => ⟨k, by omega, hop⟩⟩
    · rw [flt_no hx h]
      exact ⟨ih.1, fun h0 => by obtain ⟨j, hj, e⟩ := ih.2 h0; exact ⟨j, by omega, e⟩⟩
end
end Go.Proofs.Ytlenjgofiocaaaa
