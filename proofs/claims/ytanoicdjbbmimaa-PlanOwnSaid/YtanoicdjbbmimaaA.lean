/- Plan: contracts of New, Many, Rest, of the program and of the reference. -/
import Derived.Test.YtanoicdjbbmimaaM
namespace Go.Proofs.Ytanoicdjbbmimaa
open Go.RowKit

theorem Try.info5 : (Try.prog.info? 5).map (fun i => (i.zero, i.size, i.bytes)) = some (some (.int .u8 0), 1, 1) := by kernel_rfl

/-- A byte list as cells. -/
abbrev bv (l : List Int) : List Value := l.map (Value.int .u8)

theorem bv_one (l : List Int) : ∀ u ∈ bv l, u.oneCell' = true := by
  intro u hu
  simp only [List.mem_map] at hu
  obtain ⟨z, _, rfl⟩ := hu
  rfl

/-- At block b lies a plan whose slice has the bytes l, in block g, and whose counter says many. -/
def PlanAt (w : World) (b g : Nat) (T : TypeId) (l : List Int) (many : Int) : Prop :=
  ∃ A c, At w b T #[.slice A l.length c, .int .i64 many] ∧ Rd w g A (bv l) ∧ l.length ≤ c ∧ b ≠ g

def NewPost (w : World) (T : TypeId) (l : List Int) (e : Ending) (w' : World) : Prop :=
  ∃ b g, e = .returned (.pointer (some ⟨b, 0, none⟩)) ∧ w.heap.size ≤ b ∧ w.heap.size ≤ g ∧ b < w'.heap.size ∧ g < w'.heap.size ∧ PlanAt w' b g T l 0 ∧ Only (fun _ => False) w w'

set_option maxHeartbeats 400000 in
theorem new_any (gs : Nat) (A : Option Addr) (c : Nat) (l : List Int) (w : World) (hr : Rd w gs A (bv l)) (hl : l.length ≤ 1000000) :
    Calls Try.prog 8 #[.slice A l.length c] w (NewPost w 39 l) := by
  obtain ⟨i0, hi, hz0, hz1, hz2⟩ := info_parts Try.info5
  have hown := ownsRow_fresh w 5 1
  have hr' : Rd (w.alloc (.cells #[] 5)) gs A (bv l) := hr.only ((Only.refl (fun _ => False) w).alloc _) id
  go_enter Try.func8, Try.ntmps8
  go_wp2_with (at_builtin; go_loud (refine wpList_append_src _ rfl (.tmp 3) (.tmp 4) 22 rfl w.heap.size 5 i0 (.int .u8 0) 1 1 Try.underlying22 hi hz0 hz1 hz2 rfl (by decide) (.slice (some ⟨w.heap.size, 0, none⟩) 0 0) 0 [] rfl hown gs A l.length c (bv l) rfl (by simp) hr' (bv_one l) (by unfold maxLen; omega) (by omega) (by simp) ?_); intro A1 c1 w1 hc1 hown1 hgrow1 hat1)
  go_ret
  obtain ⟨g1, hg1, hlt1, hrd1⟩ := Rd.of_row hown1 (Nat.lt_of_lt_of_le (by simp) hgrow1.size)
  have ho1 : Only (fun _ => False) w w1 := ((Only.refl _ _).alloc _).grown hgrow1 (by intro i hi e; simp [Value.ownBlock] at e; omega)
  have ho2 : Only (fun _ => False) w1 (w1.alloc (.cells #[.slice A1 (0 + l.length) c1, .int .i64 0] 39)) := (Only.refl _ _).alloc _
  have hn := At.new w1 39 #[.slice A1 (0 + l.length) c1, .int .i64 0]
  have hrd2 := hrd1.only ho2 id
  simp only [Nat.zero_add, List.nil_append] at hn hrd2 hc1
  exact ⟨w1.heap.size, g1, by simp, ho1.size, hg1, by simp, by simp; omega, ⟨A1, c1, by simpa using hn, by simpa using hrd2, hc1, by omega⟩, by simpa using ho1.trans ho2⟩
end Go.Proofs.Ytanoicdjbbmimaa
