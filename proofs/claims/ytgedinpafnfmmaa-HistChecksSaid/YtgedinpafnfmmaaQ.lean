/- Hist: operations among a law's arguments, opened. -/
import Derived.Test.YtgedinpafnfmmaaS
import Derived.Test.YtgedinpafnfmmaaR
import Derived.Test.YtgedinpafnfmmaaB
namespace Go.Proofs.Ytgedinpafnfmmaa
open Go.ChangeShapes Go.WideShapes Go.ChangeAt Go.RowKit Go.Deep

structure Dd.Wf (x : Dd) : Prop where
  k : (Lit.int .i64 x.k).wf = true
  v : (Lit.int .i64 x.v).wf = true
  b : (Lit.int .i64 x.b).wf = true
  e : (Lit.int .i64 x.e).wf = true

theorem trod_dd {H : Type} {enc : TypeId × Value → H} {w : World} {spare : Nat → Bool} {held : Bool} {fuel : Nat} {cs : List Value} {x : DataW H × List MemPlace} (h : DataW.trod enc Try.prog w 0 spare held fuel 30 cs = some x) :
    ∃ d : Dd, d.Wf ∧ cs = d.cells := by
  obtain ⟨xs, n, _, _, hl, hlen, hg⟩ := DataW.trod_struct Try.underlying30 h
  have hl' : cs.length = 4 := by rw [hl]; kernel_rfl
  have hx : xs.length = 4 := by rw [hlen]; rfl
  match cs, hl', xs, hx with
  | [u0, u1, u2, u3], _, [y0, y1, y2, y3], _ =>
    have t0 : DataW.trod enc Try.prog w 0 spare held n 3 [u0] = some y0 := hg 0 _ rfl
    have t1 : DataW.trod enc Try.prog w 0 spare held n 3 [u1] = some y1 := hg 1 _ rfl
    have t2 : DataW.trod enc Try.prog w 0 spare held n 3 [u2] = some y2 := hg 2 _ rfl
    have t3 : DataW.trod enc Try.prog w 0 spare held n 3 [u3] = some y3 := hg 3 _ rfl
    obtain ⟨z0, h0, _, w0⟩ := DataW.trod_int Try.underlying3 t0
    obtain ⟨z1, h1, _, w1⟩ := DataW.trod_int Try.underlying3 t1
    obtain ⟨z2, h2, _, w2⟩ := DataW.trod_int Try.underlying3 t2
    obtain ⟨z3, h3, _, w3⟩ := DataW.trod_int Try.underlying3 t3
    simp at h0 h1 h2 h3
    exact ⟨⟨z0, z1, z2, z3⟩, ⟨w0, w1, w2, w3⟩, by simp [Dd.cells, h0, h1, h2, h3]⟩

theorem open_did {H : Type} {enc : TypeId × Value → H} {w : World} {spare : Nat → Bool} {held : Bool} {v : Value} {d : DataW H} {p : List MemPlace} {r : Reach} {b0 : Nat}
    (hv : Value.okWide Try.prog w r b0 30 v) (h : DataW.Trod enc Try.prog w 0 spare held 30 v d p) : ∃ x : Dd, v = x.val ∧ x.Wf := by
  unfold Value.okWide at hv
  rw [Try.underlying30] at hv
  obtain ⟨cs, rfl, hsz, _⟩ := hv
  obtain ⟨fuel, hf⟩ := h
  obtain ⟨x, hw, hc⟩ := trod_dd hf
  refine ⟨x, ?_, hw⟩
  have : cs = #[.int .i64 x.k, .int .i64 x.v, .int .i64 x.b, .int .i64 x.e] := by
    apply Array.ext'
    simpa [Value.cells, Dd.cells] using hc
  rw [this]; rfl

theorem open_dids {H : Type} {enc : TypeId × Value → H} {w : World} {spare : Nat → Bool} {held : Bool} {v : Value} {d : DataW H} {p : List MemPlace} {r : Reach} {b0 : Nat}
    (hv : Value.okWide Try.prog w r b0 22 v) (h : DataW.Trod enc Try.prog w 0 spare held 22 v d p) :
    ∃ (g c : Nat) (A : Option Addr) (l : List Dd), v = .slice A l.length c ∧ Rd w g A (dv l) ∧ (∀ x ∈ l, x.Wf) ∧ l.length ≤ 9223372036854775807 := by
  obtain ⟨g, c, n, A, vs, rfl, hn, hm, hl, hr, hi⟩ := open_slice_any (k := 4) Try.underlying22 (by kernel_rfl) (by omega) hv h
  obtain ⟨l, h1, h2, h3⟩ := chunks Dd.cells 4 (fun _ => rfl) (fun x => x.Wf) n vs hl (fun i hin => by
    obtain ⟨fuel, x, ht⟩ := hi i hin
    exact trod_dd ht)
  subst h1
  subst h2
  have : maxLen = 9223372036854775807 := rfl
  exact ⟨g, c, A, l, rfl, hr, h3, by omega⟩
end Go.Proofs.Ytgedinpafnfmmaa
