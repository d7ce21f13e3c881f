/- Gate: a slice of bools, a slice of calls, among a law's arguments. -/
import Derived.Test.YtpfgjnklfdfiaaaS
import Derived.Test.YtpfgjnklfdfiaaaU
import Derived.Deep.Strs
namespace Go.Proofs.Ytpfgjnklfdfiaaa
open Go.ChangeShapes Go.WideShapes Go.ChangeAt Go.RowKit

theorem open_bools {H : Type} {enc : TypeId × Value → H} {w : World} {spare : Nat → Bool} {held : Bool} {v : Value} {d : DataW H} {p : List MemPlace} {r : Reach} {b0 : Nat}
    (hv : Value.okWide Try.prog w r b0 43 v) (h : DataW.Trod enc Try.prog w 0 spare held 43 v d p) :
    ∃ (g c : Nat) (A : Option Addr) (l : List Bool), v = .slice A l.length c ∧ Rd w g A (bl l) ∧ l.length ≤ 9223372036854775807 := by
  obtain ⟨g, c, n, A, vs, rfl, hn, hm, hl, hr, hi⟩ := open_slice_any (k := 1) Try.underlying43 (by kernel_rfl) (by omega) hv h
  obtain ⟨l, h1, h2, _⟩ := chunks (fun b : Bool => [Value.bool b]) 1 (fun _ => rfl) (fun _ => True) n vs hl (fun i hi' => by
    obtain ⟨fuel, x, ht⟩ := hi i hi'
    obtain ⟨b, hb, _⟩ := DataW.trod_bool Try.underlying4 ht
    exact ⟨b, trivial, hb⟩)
  subst h1
  have e : vs = bl l := by rw [h2]; exact List.map_eq_flatMap.symm
  subst e
  have : maxLen = 9223372036854775807 := rfl
  exact ⟨g, c, A, l, rfl, hr, by omega⟩

theorem trod_arr3 {H : Type} {enc : TypeId × Value → H} {w : World} {spare : Nat → Bool} {held : Bool} {fuel : Nat} {cs : List Value} {x : DataW H × List MemPlace} (h : DataW.trod enc Try.prog w 0 spare held fuel 36 cs = some x) :
    ∃ a b c : Int, cs = [.int .i64 a, .int .i64 b, .int .i64 c] := by
  obtain ⟨xs, m, _, _, hl, hxl, hx⟩ := DataW.trod_array Try.underlying36 h
  have hl' : cs.length = 3 := by rw [hl]; kernel_rfl
  match cs, hl' with
  | [u0, u1, u2], _ =>
    have hi : ∀ i, i < 3 → ∃ z, [u0, u1, u2][i]? = some (Value.int .i64 z) := by
      intro i hi
      have h1 := hx i hi
      rw [show Try.prog.cellsOf 3 = 1 by kernel_rfl, Nat.mul_one] at h1
      obtain ⟨y, hy⟩ : ∃ y, xs[i]? = some y := ⟨_, List.getElem?_eq_getElem (by omega)⟩
      rw [hy] at h1
      have e1 : ([u0, u1, u2].drop i).take 1 = [[u0, u1, u2][i]'(by simpa using hi)] := by
        rw [List.drop_eq_getElem_cons (by simpa using hi)]
        simp
      rw [e1] at h1
      obtain ⟨z, hz, _⟩ := DataW.trod_int Try.underlying3 h1
      simp at hz
      exact ⟨z, by rw [List.getElem?_eq_getElem (by simpa using hi), hz]⟩
    obtain ⟨a, ha⟩ := hi 0 (by omega)
    obtain ⟨b, hb⟩ := hi 1 (by omega)
    obtain ⟨c, hc⟩ := hi 2 (by omega)
    simp at ha hb hc
    exact ⟨a, b, c, by rw [ha, hb, hc]⟩

/-- A call: what is done, its number, its three numbers. -/
structure Opg where
  do_ : Int
  n : Int
  x0 : Int
  x1 : Int
  x2 : Int
def Opg.cells (o : Opg) : List Value := [.int .i64 o.do_, .int .i64 o.n, .int .i64 o.x0, .int .i64 o.x1, .int .i64 o.x2]
def ov (l : List Opg) : List Value := l.flatMap Opg.cells

theorem open_ops {H : Type} {enc : TypeId × Value → H} {w : World} {spare : Nat → Bool} {held : Bool} {v : Value} {d : DataW H} {p : List MemPlace} {r : Reach} {b0 : Nat}
    (hv : Value.okWide Try.prog w r b0 28 v) (h : DataW.Trod enc Try.prog w 0 spare held 28 v d p) :
    ∃ (g c : Nat) (A : Option Addr) (l : List Opg), v = .slice A l.length c ∧ Rd w g A (ov l) := by
  obtain ⟨g, c, n, A, vs, rfl, _, _, hl, hr, hi⟩ := open_slice_any (k := 5) Try.underlying28 (by kernel_rfl) (by omega) hv h
  obtain ⟨l, h1, h2, _⟩ := chunks Opg.cells 5 (fun _ => rfl) (fun _ => True) n vs hl (fun i hin => by
    obtain ⟨fuel, x, ht⟩ := hi i hin
    generalize (vs.drop (i * 5)).take 5 = cs at ht
    obtain ⟨y0, y1, y2, m, -, hcl, t0, t1, t2⟩ := Go.Deep.trod_struct3 Try.underlying38 ht
    have hcl' : cs.length = 5 := by rw [hcl]; kernel_rfl
    match cs, hcl' with
    | [u0, u1, u2, u3, u4], _ =>
      have t0' : DataW.trod enc Try.prog w 0 spare held m 3 [u0] = some y0 := t0
      have t1' : DataW.trod enc Try.prog w 0 spare held m 3 [u1] = some y1 := t1
      have t2' : DataW.trod enc Try.prog w 0 spare held m 36 [u2, u3, u4] = some y2 := t2
      obtain ⟨z0, hz0, _⟩ := DataW.trod_int Try.underlying3 t0'
      obtain ⟨z1, hz1, _⟩ := DataW.trod_int Try.underlying3 t1'
      obtain ⟨a, b, c, h3⟩ := trod_arr3 t2'
      simp at hz0 hz1 h3
      refine ⟨⟨z0, z1, a, b, c⟩, trivial, ?_⟩
      simp [Opg.cells, hz0, hz1, h3])
  subst h1
  subst h2
  exact ⟨g, c, A, l, rfl, hr⟩
end Go.Proofs.Ytpfgjnklfdfiaaa
