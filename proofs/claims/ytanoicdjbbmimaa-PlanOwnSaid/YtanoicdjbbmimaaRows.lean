/-
  No cell of these rows narrows 'for every input' (looked for: loops, veiled, ifaces, maps, wideKeys, modest, calm, conditions, laid).
  DERIVED. THE GIVEN ROWS OF THIS SEAT. 4 by the template 'for every input the law returns true; each argument reads behind the call as it read before'; 0 by the template 'total and deterministic' (their statements: YtanoicdjbbmimaaTotals.lean).
  GIVEN WITH THE SEED: the statements are not yours to turn. If you find one false, say at which input.
  Laid BY PROGRAM, IN A SANDBOX (cutbox-rows.mjs): the forced cells as the released guide's own fill.sh prints them over the translation f77033995f0ba46e… (all of the seat's roots in one cut). By AI agents, Wed Nov 11 2026. No macro, syntax, notation, axiom, sorry.
-/
import Derived.Test.YtanoicdjbbmimaaChecked
import GoSem.Claim
import GoSem.ClaimJoined
import GoSem.ClaimMapViews
import Derived.JoinedTies
import Derived.KernelRfl
namespace Go.Proofs.Ytanoicdjbbmimaa
/- THE CELL 'sum', in the pinned program and in every row, IS THE sha256 OF THE DUMP (.gsa) THAT YtanoicdjbbmimaaProg.lean LOADS. Nothing in Lean hashes anything: it is a label: what it is worth is what the hold of that sum in a sandbox is worth. -/
noncomputable def Try.pinned : Pinned := { name := "ytanoicdjbbmimaa", sum := "f77033995f0ba46e197b931c36834e2a6c7e0cdd3c4727933e1dffeb81f12ad0", checked := Try.checked }
namespace Rows
def none {H : Type} : Left H := { results := [], args := [] }

/-- 'strakelaw07.PlanSays': WHATEVER THE INPUT: true; the input reads as it did. -/
def planSaysSpec : ChangeSpec := { name := "planSays", fn := fun _ => fun
  | [d1, d2] => { results := [.lit (.bool true)], args := [d1, d2] }
  | _ => none }
def planSaysRow : OpenClaim := { program := "ytanoicdjbbmimaa", sum := "f77033995f0ba46e197b931c36834e2a6c7e0cdd3c4727933e1dffeb81f12ad0", func := "strake/strakelaw07.PlanSays", spec := "planSays", apart := false }
def PlanSaysSaid : Prop := planSaysRow.holds Try.pinned (OpenSpec.ofChange planSaysSpec)

/-- ITS FALSE NEIGHBOUR: 'it returns false'. Refute it at one input. -/
def planSaysWrong : ChangeSpec := { name := "planSays", fn := fun _ => fun
  | [d1, d2] => { results := [.lit (.bool false)], args := [d1, d2] }
  | _ => none }
def PlanSaysWrongFalsely : Prop := planSaysRow.holds Try.pinned (OpenSpec.ofChange planSaysWrong)

/-- 'strakelaw07.PlanRests': WHATEVER THE INPUT: true; the input reads as it did. -/
def planRestsSpec : ChangeSpec := { name := "planRests", fn := fun _ => fun
  | [d1, d2, d3] => { results := [.lit (.bool true)], args := [d1, d2, d3] }
  | _ => none }
def planRestsRow : OpenClaim := { program := "ytanoicdjbbmimaa", sum := "f77033995f0ba46e197b931c36834e2a6c7e0cdd3c4727933e1dffeb81f12ad0", func := "strake/strakelaw07.PlanRests", spec := "planRests", apart := false }
def PlanRestsSaid : Prop := planRestsRow.holds Try.pinned (OpenSpec.ofChange planRestsSpec)

/-- ITS FALSE NEIGHBOUR: 'it returns false'. Refute it at one input. -/
def planRestsWrong : ChangeSpec := { name := "planRests", fn := fun _ => fun
  | [d1, d2, d3] => { results := [.lit (.bool false)], args := [d1, d2, d3] }
  | _ => none }
def PlanRestsWrongFalsely : Prop := planRestsRow.holds Try.pinned (OpenSpec.ofChange planRestsWrong)

/-- 'strakelaw07.PlanEnds': WHATEVER THE INPUT: true; the input reads as it did. -/
def planEndsSpec : ChangeSpec := { name := "planEnds", fn := fun _ => fun
  | [d1, d2] => { results := [.lit (.bool true)], args := [d1, d2] }
  | _ => none }
def planEndsRow : OpenClaim := { program := "ytanoicdjbbmimaa", sum := "f77033995f0ba46e197b931c36834e2a6c7e0cdd3c4727933e1dffeb81f12ad0", func := "strake/strakelaw07.PlanEnds", spec := "planEnds", apart := false }
def PlanEndsSaid : Prop := planEndsRow.holds Try.pinned (OpenSpec.ofChange planEndsSpec)

/-- ITS FALSE NEIGHBOUR: 'it returns false'. Refute it at one input. -/
def planEndsWrong : ChangeSpec := { name := "planEnds", fn := fun _ => fun
  | [d1, d2] => { results := [.lit (.bool false)], args := [d1, d2] }
  | _ => none }
def PlanEndsWrongFalsely : Prop := planEndsRow.holds Try.pinned (OpenSpec.ofChange planEndsWrong)

/-- 'strakelaw07.PlanOwn': WHATEVER THE INPUT: true; the input reads as it did. -/
def planOwnSpec : ChangeSpec := { name := "planOwn", fn := fun _ => fun
  | [d1, d2] => { results := [.lit (.bool true)], args := [d1, d2] }
  | _ => none }
def planOwnRow : OpenClaim := { program := "ytanoicdjbbmimaa", sum := "f77033995f0ba46e197b931c36834e2a6c7e0cdd3c4727933e1dffeb81f12ad0", func := "strake/strakelaw07.PlanOwn", spec := "planOwn", apart := false }
def PlanOwnSaid : Prop := planOwnRow.holds Try.pinned (OpenSpec.ofChange planOwnSpec)

/-- ITS FALSE NEIGHBOUR: 'it returns false'. Refute it at one input. -/
def planOwnWrong : ChangeSpec := { name := "planOwn", fn := fun _ => fun
  | [d1, d2] => { results := [.lit (.bool false)], args := [d1, d2] }
  | _ => none }
def PlanOwnWrongFalsely : Prop := planOwnRow.holds Try.pinned (OpenSpec.ofChange planOwnWrong)

/- THE SECOND FORM. 'bulk': how many values and letters a reading holds, each counted each time it is reached (what is shared counts as often as it is met; a slice's spare places count too). A statement '..UptoSaid' is the law's where the arguments, and the package variables that the reading takes, are together of bulk at most 1048576: NARROWER than '..Said'. Prove '..Said' where nothing that the law and all that it calls make is longer than what came in: it says more and counts as full. Else prove '..UptoSaid'. A law counts once. -/
mutual
def uptoBulk {H : Type} : DataW H → Nat
  | .lit (.string bytes) => bytes.length + 1
  | .lit _ => 1
  | .nil => 1
  | .ptr d => uptoBulk d + 1
  | .slice elems spare => uptoBulkAll elems + uptoBulkAll spare + 1
  | .agg parts => uptoBulkAll parts + 1
  | .iface _ d => uptoBulk d + 1
  | .map entries => uptoBulkEntries entries + 1
  | .held _ => 1
def uptoBulkAll {H : Type} : List (DataW H) → Nat
  | [] => 0
  | d :: r => uptoBulk d + uptoBulkAll r
def uptoBulkEntries {H : Type} : List (Lit × DataW H) → Nat
  | [] => 0
  | x :: r => uptoBulkEntry x + uptoBulkEntries r
def uptoBulkEntry {H : Type} : Lit × DataW H → Nat
  | (.string bytes, d) => bytes.length + uptoBulk d + 1
  | (_, d) => uptoBulk d + 1
 end
def uptoSmall : (H : Type) → List (DataW H) → Bool := fun _ ds => decide (uptoBulkAll ds ≤ 1048576)
def OpenSpec.upto (s : _root_.Go.ChangeSpec) : _root_.Go.OpenSpec := { _root_.Go.OpenSpec.ofChange s with cond := some uptoSmall }

/-- 'strakelaw07.PlanSays', WHERE WHAT IT READS IS OF BULK AT MOST 1048576: true; the input reads as it did. -/
def planSaysUptoRow : OpenClaim := { program := "ytanoicdjbbmimaa", sum := "f77033995f0ba46e197b931c36834e2a6c7e0cdd3c4727933e1dffeb81f12ad0", func := "strake/strakelaw07.PlanSays", spec := "planSays", apart := false, narrowed := true }
def PlanSaysUptoSaid : Prop := planSaysUptoRow.holds Try.pinned (OpenSpec.upto planSaysSpec)

/-- 'strakelaw07.PlanRests', WHERE WHAT IT READS IS OF BULK AT MOST 1048576: true; the input reads as it did. -/
def planRestsUptoRow : OpenClaim := { program := "ytanoicdjbbmimaa", sum := "f77033995f0ba46e197b931c36834e2a6c7e0cdd3c4727933e1dffeb81f12ad0", func := "strake/strakelaw07.PlanRests", spec := "planRests", apart := false, narrowed := true }
def PlanRestsUptoSaid : Prop := planRestsUptoRow.holds Try.pinned (OpenSpec.upto planRestsSpec)

/-- 'strakelaw07.PlanEnds', WHERE WHAT IT READS IS OF BULK AT MOST 1048576: true; the input reads as it did. -/
def planEndsUptoRow : OpenClaim := { program := "ytanoicdjbbmimaa", sum := "f77033995f0ba46e197b931c36834e2a6c7e0cdd3c4727933e1dffeb81f12ad0", func := "strake/strakelaw07.PlanEnds", spec := "planEnds", apart := false, narrowed := true }
def PlanEndsUptoSaid : Prop := planEndsUptoRow.holds Try.pinned (OpenSpec.upto planEndsSpec)

/-- 'strakelaw07.PlanOwn', WHERE WHAT IT READS IS OF BULK AT MOST 1048576: true; the input reads as it did. -/
def planOwnUptoRow : OpenClaim := { program := "ytanoicdjbbmimaa", sum := "f77033995f0ba46e197b931c36834e2a6c7e0cdd3c4727933e1dffeb81f12ad0", func := "strake/strakelaw07.PlanOwn", spec := "planOwn", apart := false, narrowed := true }
def PlanOwnUptoSaid : Prop := planOwnUptoRow.holds Try.pinned (OpenSpec.upto planOwnSpec)

end Rows
end Go.Proofs.Ytanoicdjbbmimaa
