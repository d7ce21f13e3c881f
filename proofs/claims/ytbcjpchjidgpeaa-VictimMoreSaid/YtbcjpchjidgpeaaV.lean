/- Victim: a slice of lines among a call's arguments, opened. -/
import Derived.Test.YtbcjpchjidgpeaaS
import Derived.Test.YtbcjpchjidgpeaaA
namespace Go.Proofs.Ytbcjpchjidgpeaa
open Go.ChangeShapes Go.WideShapes Go.ChangeAt Go.RowKit

theorem five {α : Type} {l : List α} (h : l.length = 5) : ∃ a b c d e, l = [a, b, c, d, e] := by
  match l, h with
  | [a, b, c, d, e], _ => exact ⟨a, b, c, d, e, rfl⟩

theorem int_fields (j : Nat) (f : Field) (fs : Array Field) (hf : fs.all (fun f => f.type == 3) = true) (h : fs[j]? = some f) : f.type = 3 := by
  have := Array.all_eq_true.1 hf j (Array.getElem?_eq_some_iff.1 h).1
  rw [(Array.getElem?_eq_some_iff.1 h).2] at this
  simpa using this

theorem open_lines {H : Type} {enc : TypeId × Value → H} {w : World} {spare : Nat → Bool} {held : Bool} {v : Value} {d : DataW H} {p : List MemPlace} {r : Reach} {b0 : Nat}
    (hv : Value.okWide Try.prog w r b0 22 v) (h : DataW.Trod enc Try.prog w 0 spare held 22 v d p) :
    ∃ (g c : Nat) (A : Option Addr) (l : List Ln), v = .slice A l.length c ∧ Rd w g A (lv l) := by
  obtain ⟨g, c, n, A, vs, rfl, _, _, hl, hr, hi⟩ := open_slice_any (k := 5) Try.underlying22 (by kernel_rfl) (by omega) hv h
  obtain ⟨l, h1, h2, _⟩ := chunks Ln.cells 5 (fun _ => rfl) (fun _ => True) n vs hl (fun i hin => by
    obtain ⟨fuel, x, ht⟩ := hi i hin
    obtain ⟨zs, hz, hc, _⟩ := trod_ints Try.underlying33 (by kernel_rfl) (by kernel_rfl) (fun j f hj => by rw [int_fields j f _ (by kernel_rfl) hj]; exact Try.underlying3) ht
    obtain ⟨a, b, c, d, e, rfl⟩ := five hz
    exact ⟨⟨a, b, c, d, e⟩, trivial, hc⟩)
  subst h1
  subst h2
  exact ⟨g, c, A, l, rfl, hr⟩

end Go.Proofs.Ytbcjpchjidgpeaa
