/- Victim: a line, and a slice of lines with its room, among a call's arguments, opened. -/
import Derived.Test.YtbcjpchjidgpeaaV
namespace Go.Proofs.Ytbcjpchjidgpeaa
open Go.ChangeShapes Go.WideShapes Go.ChangeAt Go.RowKit

theorem open_line {H : Type} {enc : TypeId × Value → H} {w : World} {spare : Nat → Bool} {held : Bool} {v : Value} {d : DataW H} {p : List MemPlace} {r : Reach} {b0 : Nat}
    (hv : Value.okWide Try.prog w r b0 33 v) (h : DataW.Trod enc Try.prog w 0 spare held 33 v d p) : ∃ x : Ln, v = x.val := by
  obtain ⟨cs, rfl, hsz⟩ := okWide_struct Try.underlying33 hv
  obtain ⟨fuel, hf⟩ := h
  obtain ⟨xs, n, _, _, hl, hlen, hg⟩ := DataW.trod_struct Try.underlying33 hf
  obtain ⟨cs⟩ := cs
  have hl' : cs.length = 5 := by rw [← List.size_toArray, hsz]; kernel_rfl
  have hx : xs.length = 5 := by rw [hlen]; rfl
  match cs, hl', xs, hx with
  | [u0, u1, u2, u3, u4], _, [y0, y1, y2, y3, y4], _ =>
    have t0 : DataW.trod enc Try.prog w 0 spare held n 3 [u0] = some y0 := hg 0 _ rfl
    have t1 : DataW.trod enc Try.prog w 0 spare held n 3 [u1] = some y1 := hg 1 _ rfl
    have t2 : DataW.trod enc Try.prog w 0 spare held n 3 [u2] = some y2 := hg 2 _ rfl
    have t3 : DataW.trod enc Try.prog w 0 spare held n 3 [u3] = some y3 := hg 3 _ rfl
    have t4 : DataW.trod enc Try.prog w 0 spare held n 3 [u4] = some y4 := hg 4 _ rfl
    obtain ⟨z0, h0, _, k0⟩ := DataW.trod_int Try.underlying3 t0
    obtain ⟨z1, h1, _, k1⟩ := DataW.trod_int Try.underlying3 t1
    obtain ⟨z2, h2, _, k2⟩ := DataW.trod_int Try.underlying3 t2
    obtain ⟨z3, h3, _, k3⟩ := DataW.trod_int Try.underlying3 t3
    obtain ⟨z4, h4, _, k4⟩ := DataW.trod_int Try.underlying3 t4
    simp at h0 h1 h2 h3 h4
    exact ⟨⟨z0, z1, z2, z3, z4⟩, by simp [Ln.val, h0, h1, h2, h3, h4]⟩

theorem open_lines2 {H : Type} {enc : TypeId × Value → H} {w : World} {spare : Nat → Bool} {held : Bool} {v : Value} {d : DataW H} {p : List MemPlace} {r : Reach} {b0 : Nat}
    (hv : Value.okWide Try.prog w r b0 22 v) (h : DataW.Trod enc Try.prog w 0 spare held 22 v d p) :
    ∃ (g c : Nat) (A : Option Addr) (l : List Ln), v = .slice A l.length c ∧ Rd w g A (lv l) ∧ l.length ≤ c ∧ c ≤ 9223372036854775807 := by
  obtain ⟨g, c, n, A, vs, rfl, hnc, hcm, hl, hr, hi⟩ := open_slice_any (k := 5) Try.underlying22 (by kernel_rfl) (by omega) hv h
  obtain ⟨l, h1, h2, _⟩ := chunks Ln.cells 5 (fun _ => rfl) (fun _ => True) n vs hl (fun i hin => by
    obtain ⟨fuel, x, ht⟩ := hi i hin
    obtain ⟨zs, hz, hc, _⟩ := trod_ints Try.underlying33 (by kernel_rfl) (by kernel_rfl) (fun j f hj => by rw [int_fields j f _ (by kernel_rfl) hj]; exact Try.underlying3) ht
    obtain ⟨a, b, c, d, e, rfl⟩ := five hz
    exact ⟨⟨a, b, c, d, e⟩, trivial, hc⟩)
  subst h1
  subst h2
  have : maxLen = 9223372036854775807 := rfl
  exact ⟨g, c, A, l, rfl, hr, hnc, by omega⟩
end Go.Proofs.Ytbcjpchjidgpeaa
