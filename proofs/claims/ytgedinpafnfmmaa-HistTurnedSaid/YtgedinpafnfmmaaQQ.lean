/- Hist: operations among a law's arguments, opened, with the slice's room. -/
import Derived.Test.YtgedinpafnfmmaaQ
namespace Go.Proofs.Ytgedinpafnfmmaa
open Go.ChangeShapes Go.WideShapes Go.ChangeAt Go.RowKit Go.Deep

theorem open_didsc {H : Type} {enc : TypeId × Value → H} {w : World} {spare : Nat → Bool} {held : Bool} {v : Value} {d : DataW H} {p : List MemPlace} {r : Reach} {b0 : Nat}
    (hv : Value.okWide Try.prog w r b0 22 v) (h : DataW.Trod enc Try.prog w 0 spare held 22 v d p) :
    ∃ (g c : Nat) (A : Option Addr) (l : List Dd), v = .slice A l.length c ∧ Rd w g A (dv l) ∧ (∀ x ∈ l, x.Wf) ∧ l.length ≤ 9223372036854775807 ∧ l.length ≤ c ∧ c ≤ 9223372036854775807 := by
  obtain ⟨g, c, n, A, vs, rfl, hn, hm, hl, hr, hi⟩ := open_slice_any (k := 4) Try.underlying22 (by kernel_rfl) (by omega) hv h
  obtain ⟨l, h1, h2, h3⟩ := chunks Dd.cells 4 (fun _ => rfl) (fun x => x.Wf) n vs hl (fun i hin => by
    obtain ⟨fuel, x, ht⟩ := hi i hin
    exact trod_dd ht)
  subst h1
  subst h2
  have : maxLen = 9223372036854775807 := rfl
  exact ⟨g, c, A, l, rfl, hr, h3, by omega, hn, by omega⟩
theorem wf_lo {z : Int} (h : (Lit.int .i64 z).wf = true) : -9223372036854775808 ≤ z := by
  have h1 : IntKind.i64.min = -9223372036854775808 := by decide
  simp [Lit.wf] at h
  omega
end Go.Proofs.Ytgedinpafnfmmaa
