/- Lines: a slice of Booleans, opened. -/
import Derived.Test.YtlenjgofiocaaaaII
namespace Go.Proofs.Ytlenjgofiocaaaa
open Go.ChangeShapes Go.WideShapes Go.ChangeAt Go.RowKit Go.Deep

theorem open_boolsl {H : Type} {enc : TypeId × Value → H} {w : World} {spare : Nat → Bool} {held : Bool} {v : Value} {d : DataW H} {p : List MemPlace} {r : Reach} {b0 : Nat}
    (hv : Value.okWide Try.prog w r b0 51 v) (h : DataW.Trod enc Try.prog w 0 spare held 51 v d p) :
    ∃ (g c : Nat) (A : Option Addr) (l : List Bool), v = .slice A l.length c ∧ Rd w g A (l.map Value.bool) := by
  obtain ⟨g, c, n, A, vs, rfl, hn, hm, hl, hr, hi⟩ := open_slice_any (k := 1) Try.underlying51 (by kernel_rfl) (by omega) hv h
  obtain ⟨l, h1, h2, _⟩ := chunks (fun b : Bool => [Value.bool b]) 1 (fun _ => rfl) (fun _ => True) n vs hl (fun i hin => by
    obtain ⟨fuel, x, ht⟩ := hi i hin
    obtain ⟨b, hb, _⟩ := DataW.trod_bool Try.underlying4 ht
    exact ⟨b, trivial, hb⟩)
  subst h1
  exact ⟨g, c, A, l, rfl, by rw [h2] at hr; rw [List.map_eq_flatMap]; exact hr⟩
end Go.Proofs.Ytlenjgofiocaaaa
