/- Plan: the walk of PlanSays. -/
import Derived.Test.YtanoicdjbbmimaaD
import Derived.Laws.BytesString
namespace Go.Proofs.Ytanoicdjbbmimaa
open Go.RowKit

abbrev iv (l : List Int) : List Value := l.map (Value.int .i64)

theorem PlanAt.only {S : Nat → Prop} {w w' : World} {b g : Nat} {T : TypeId} {l : List Int} {n : Int} (h : PlanAt w b g T l n) (k : Only S w w') (hb : ¬ S b) (hg : ¬ S g) : PlanAt w' b g T l n := by
  obtain ⟨A, c, h1, h2, h3, h4⟩ := h
  exact ⟨A, c, h1.only k hb, h2.only k hg, h3, h4⟩
theorem PlanAt.drewN {w : World} {b g : Nat} {T : TypeId} {l : List Int} {n : Int} (h : PlanAt w b g T l n) (m : Nat) : PlanAt (w.drewN m) b g T l n :=
  h.only ((Only.refl (fun _ => False) w).drewN m) id id

/-- What string(..) makes of these bytes. -/
def strOf (l : List Int) : ByteArray := l.foldl (fun r n => r.push (UInt8.ofNat n.toNat)) ByteArray.empty

theorem conv_any {w : World} {g : Nat} {A : Option Addr} {l : List Int} {c : Nat} (h : Rd w g A (bv l)) :
    (convert 22 9 (.slice A l.length c)).run Try.prog w = .ok (.string (strOf l)) w := by
  rw [run_convert_bytes_string w 22 9 5 A l.length c Try.underlying22 Try.underlying5 Try.underlying9]
  rcases A with _ | ad
  · have : l = [] := by simpa using h.resolve_right (fun ⟨_, he, _⟩ => by cases he)
    subst this
    rfl
  · refine run_bytesToString w ad l.length c l ?_
    have hc : ∀ (j : Nat) (v : Value), (bv l)[j]? = some v → w.cell? (ad.add j) = some v := by
      intro j u hu
      rcases h with h | ⟨off, he, _, hc⟩
      · rw [h] at hu; simp at hu
      · injection he with he
        subst he
        have := hc j u hu
        unfold Addr.add
        split
        · subst j; simpa using this
        · exact this
    have hr := run_loadCells_list (P := Try.prog) (w := w) ad (bv l) hc
    simpa using hr

def RefRestPost' (w : World) (g : Nat) (l : List Int) (e : Ending) (w' : World) : Prop :=
  ∃ A c m, e = .returned (.slice A l.length c) ∧ Rd w' g A (bv l) ∧ w' = w.drewN m

theorem refRest_at {b g : Nat} {l l' : List Int} {n : Nat} {w : World} (h : PlanAt w b g 33 l (n : Int)) (hn : n ≤ 1000000) (hl : l.drop n = l') :
    Calls Try.prog 14 #[.pointer (some ⟨b, 0, none⟩)] w (RefRestPost' w g l') := by
  refine (refRest_any b g l n w h hn).mono ?_
  rintro e w' ⟨A, c, m, rfl, hr, hw⟩
  subst hl
  exact ⟨A, c, m, by simp, hr, hw⟩

end Go.Proofs.Ytanoicdjbbmimaa
