/-
  No cell of these rows narrows 'for every input' (looked for: loops, veiled, ifaces, maps, wideKeys, modest, calm, conditions, laid).
  DERIVED. THE GIVEN ROWS OF THIS SEAT. 6 by the template 'for every input the law returns true; each argument reads behind the call as it read before'; 0 by the template 'total and deterministic' (their statements: YtlenjgofiocaaaaTotals.lean).
  GIVEN WITH THE SEED: the statements are not yours to turn. If you find one false, say at which input.
  Laid BY PROGRAM, IN A SANDBOX (cutbox-rows.mjs): the forced cells as the released guide's own fill.sh prints them over the translation cc4f0a280990a085… (all of the seat's roots in one cut). By AI agents, Wed Nov 11 2026. No macro, syntax, notation, axiom, sorry.
-/
import Derived.Test.YtlenjgofiocaaaaChecked
import GoSem.Claim
import GoSem.ClaimJoined
import GoSem.ClaimMapViews
import Derived.JoinedTies
import Derived.KernelRfl
namespace Go.Proofs.Ytlenjgofiocaaaa
/- THE CELL 'sum', in the pinned program and in every row, IS THE sha256 OF THE DUMP (.gsa) THAT YtlenjgofiocaaaaProg.lean LOADS. Nothing in Lean hashes anything: it is a label: what it is worth is what the hold of that sum in a sandbox is worth. -/
noncomputable def Try.pinned : Pinned := { name := "ytlenjgofiocaaaa", sum := "cc4f0a280990a085088ebbb81625616c200bd6107c990bbdf02d707e21cb781b", checked := Try.checked }
namespace Rows
def none {H : Type} : Left H := { results := [], args := [] }

/-- 'strakelaw12.LinesNews': WHATEVER THE INPUT: true; the input reads as it did. -/
def linesNewsSpec : ChangeSpec := { name := "linesNews", fn := fun _ => fun
  | [d1, d2, d3] => { results := [.lit (.bool true)], args := [d1, d2, d3] }
  | _ => none }
def linesNewsRow : OpenClaim := { program := "ytlenjgofiocaaaa", sum := "cc4f0a280990a085088ebbb81625616c200bd6107c990bbdf02d707e21cb781b", func := "strake/strakelaw12.LinesNews", spec := "linesNews", unfollowed := true, recurses := true, apart := false }
def LinesNewsSaid : Prop := linesNewsRow.holds Try.pinned (OpenSpec.ofChange linesNewsSpec)

/-- ITS FALSE NEIGHBOUR: 'it returns false'. Refute it at one input. -/
def linesNewsWrong : ChangeSpec := { name := "linesNews", fn := fun _ => fun
  | [d1, d2, d3] => { results := [.lit (.bool false)], args := [d1, d2, d3] }
  | _ => none }
def LinesNewsWrongFalsely : Prop := linesNewsRow.holds Try.pinned (OpenSpec.ofChange linesNewsWrong)

/-- 'strakelaw12.LinesLeast': WHATEVER THE INPUT: true; the input reads as it did. -/
def linesLeastSpec : ChangeSpec := { name := "linesLeast", fn := fun _ => fun
  | [d1, d2, d3] => { results := [.lit (.bool true)], args := [d1, d2, d3] }
  | _ => none }
def linesLeastRow : OpenClaim := { program := "ytlenjgofiocaaaa", sum := "cc4f0a280990a085088ebbb81625616c200bd6107c990bbdf02d707e21cb781b", func := "strake/strakelaw12.LinesLeast", spec := "linesLeast", unfollowed := true, recurses := true, apart := false }
def LinesLeastSaid : Prop := linesLeastRow.holds Try.pinned (OpenSpec.ofChange linesLeastSpec)

/-- ITS FALSE NEIGHBOUR: 'it returns false'. Refute it at one input. -/
def linesLeastWrong : ChangeSpec := { name := "linesLeast", fn := fun _ => fun
  | [d1, d2, d3] => { results := [.lit (.bool false)], args := [d1, d2, d3] }
  | _ => none }
def LinesLeastWrongFalsely : Prop := linesLeastRow.holds Try.pinned (OpenSpec.ofChange linesLeastWrong)

/-- 'strakelaw12.LinesSpread': WHATEVER THE INPUT: true; the input reads as it did. -/
def linesSpreadSpec : ChangeSpec := { name := "linesSpread", fn := fun _ => fun
  | [d1, d2, d3] => { results := [.lit (.bool true)], args := [d1, d2, d3] }
  | _ => none }
def linesSpreadRow : OpenClaim := { program := "ytlenjgofiocaaaa", sum := "cc4f0a280990a085088ebbb81625616c200bd6107c990bbdf02d707e21cb781b", func := "strake/strakelaw12.LinesSpread", spec := "linesSpread", unfollowed := true, recurses := true, apart := false }
def LinesSpreadSaid : Prop := linesSpreadRow.holds Try.pinned (OpenSpec.ofChange linesSpreadSpec)

/-- ITS FALSE NEIGHBOUR: 'it returns false'. Refute it at one input. -/
def linesSpreadWrong : ChangeSpec := { name := "linesSpread", fn := fun _ => fun
  | [d1, d2, d3] => { results := [.lit (.bool false)], args := [d1, d2, d3] }
  | _ => none }
def LinesSpreadWrongFalsely : Prop := linesSpreadRow.holds Try.pinned (OpenSpec.ofChange linesSpreadWrong)

/-- 'strakelaw12.LinesUsed': WHATEVER THE INPUT: true; the input reads as it did. -/
def linesUsedSpec : ChangeSpec := { name := "linesUsed", fn := fun _ => fun
  | [d1, d2, d3] => { results := [.lit (.bool true)], args := [d1, d2, d3] }
  | _ => none }
def linesUsedRow : OpenClaim := { program := "ytlenjgofiocaaaa", sum := "cc4f0a280990a085088ebbb81625616c200bd6107c990bbdf02d707e21cb781b", func := "strake/strakelaw12.LinesUsed", spec := "linesUsed", unfollowed := true, recurses := true, apart := false }
def LinesUsedSaid : Prop := linesUsedRow.holds Try.pinned (OpenSpec.ofChange linesUsedSpec)

/-- ITS FALSE NEIGHBOUR: 'it returns false'. Refute it at one input. -/
def linesUsedWrong : ChangeSpec := { name := "linesUsed", fn := fun _ => fun
  | [d1, d2, d3] => { results := [.lit (.bool false)], args := [d1, d2, d3] }
  | _ => none }
def LinesUsedWrongFalsely : Prop := linesUsedRow.holds Try.pinned (OpenSpec.ofChange linesUsedWrong)

/-- 'strakelaw12.LinesPlays': WHATEVER THE INPUT: true; the input reads as it did. -/
def linesPlaysSpec : ChangeSpec := { name := "linesPlays", fn := fun _ => fun
  | [d1, d2, d3] => { results := [.lit (.bool true)], args := [d1, d2, d3] }
  | _ => none }
def linesPlaysRow : OpenClaim := { program := "ytlenjgofiocaaaa", sum := "cc4f0a280990a085088ebbb81625616c200bd6107c990bbdf02d707e21cb781b", func := "strake/strakelaw12.LinesPlays", spec := "linesPlays", unfollowed := true, recurses := true, apart := false }
def LinesPlaysSaid : Prop := linesPlaysRow.holds Try.pinned (OpenSpec.ofChange linesPlaysSpec)

/-- ITS FALSE NEIGHBOUR: 'it returns false'. Refute it at one input. -/
def linesPlaysWrong : ChangeSpec := { name := "linesPlays", fn := fun _ => fun
  | [d1, d2, d3] => { results := [.lit (.bool false)], args := [d1, d2, d3] }
  | _ => none }
def LinesPlaysWrongFalsely : Prop := linesPlaysRow.holds Try.pinned (OpenSpec.ofChange linesPlaysWrong)

/-- 'strakelaw12.LinesOne': WHATEVER THE INPUT: true; the input reads as it did. -/
def linesOneSpec : ChangeSpec := { name := "linesOne", fn := fun _ => fun
  | [d1, d2, d3] => { results := [.lit (.bool true)], args := [d1, d2, d3] }
  | _ => none }
def linesOneRow : OpenClaim := { program := "ytlenjgofiocaaaa", sum := "cc4f0a280990a085088ebbb81625616c200bd6107c990bbdf02d707e21cb781b", func := "strake/strakelaw12.LinesOne", spec := "linesOne", unfollowed := true, recurses := true, apart := false }
def LinesOneSaid : Prop := linesOneRow.holds Try.pinned (OpenSpec.ofChange linesOneSpec)

/-- ITS FALSE NEIGHBOUR: 'it returns false'. Refute it at one input. -/
def linesOneWrong : ChangeSpec := { name := "linesOne", fn := fun _ => fun
  | [d1, d2, d3] => { results := [.lit (.bool false)], args := [d1, d2, d3] }
  | _ => none }
def LinesOneWrongFalsely : Prop := linesOneRow.holds Try.pinned (OpenSpec.ofChange linesOneWrong)

/- THE SECOND FORM. 'bulk': how many values and letters a reading holds, each counted each time it is reached (what is shared counts as often as it is met; a slice's spare places count too). A statement '..UptoSaid' is the law's where the arguments, and the package variables that the reading takes, are together of bulk at most 1048576: NARROWER than '..Said'. Prove '..Said' where nothing that the law and all that it calls make is longer than what came in: it says more and counts as full. Else prove '..UptoSaid'. A law counts once. -/
mutual
def uptoBulk {H : Type} : DataW H → Nat
  | .lit (.string bytes) => bytes.length + 1
  | .lit _ => 1
  | .nil => 1
  | .ptr d => uptoBulk d + 1
  | .slice elems spare => uptoBulkAll elems + uptoBulkAll spare + 1
  | .agg parts => uptoBulkAll parts + 1
  | .iface _ d => uptoBulk d + 1
  | .map entries => uptoBulkEntries entries + 1
  | .held _ => 1
def uptoBulkAll {H : Type} : List (DataW H) → Nat
  | [] => 0
  | d :: r => uptoBulk d + uptoBulkAll r
def uptoBulkEntries {H : Type} : List (Lit × DataW H) → Nat
  | [] => 0
  | x :: r => uptoBulkEntry x + uptoBulkEntries r
def uptoBulkEntry {H : Type} : Lit × DataW H → Nat
  | (.string bytes, d) => bytes.length + uptoBulk d + 1
  | (_, d) => uptoBulk d + 1
 end
def uptoSmall : (H : Type) → List (DataW H) → Bool := fun _ ds => decide (uptoBulkAll ds ≤ 1048576)
def OpenSpec.upto (s : _root_.Go.ChangeSpec) : _root_.Go.OpenSpec := { _root_.Go.OpenSpec.ofChange s with cond := some uptoSmall }

/-- 'strakelaw12.LinesNews', WHERE WHAT IT READS IS OF BULK AT MOST 1048576: true; the input reads as it did. -/
def linesNewsUptoRow : OpenClaim := { program := "ytlenjgofiocaaaa", sum := "cc4f0a280990a085088ebbb81625616c200bd6107c990bbdf02d707e21cb781b", func := "strake/strakelaw12.LinesNews", spec := "linesNews", unfollowed := true, recurses := true, apart := false, narrowed := true }
def LinesNewsUptoSaid : Prop := linesNewsUptoRow.holds Try.pinned (OpenSpec.upto linesNewsSpec)

/-- 'strakelaw12.LinesLeast', WHERE WHAT IT READS IS OF BULK AT MOST 1048576: true; the input reads as it did. -/
def linesLeastUptoRow : OpenClaim := { program := "ytlenjgofiocaaaa", sum := "cc4f0a280990a085088ebbb81625616c200bd6107c990bbdf02d707e21cb781b", func := "strake/strakelaw12.LinesLeast", spec := "linesLeast", unfollowed := true, recurses := true, apart := false, narrowed := true }
def LinesLeastUptoSaid : Prop := linesLeastUptoRow.holds Try.pinned (OpenSpec.upto linesLeastSpec)

/-- 'strakelaw12.LinesSpread', WHERE WHAT IT READS IS OF BULK AT MOST 1048576: true; the input reads as it did. -/
def linesSpreadUptoRow : OpenClaim := { program := "ytlenjgofiocaaaa", sum := "cc4f0a280990a085088ebbb81625616c200bd6107c990bbdf02d707e21cb781b", func := "strake/strakelaw12.LinesSpread", spec := "linesSpread", unfollowed := true, recurses := true, apart := false, narrowed := true }
def LinesSpreadUptoSaid : Prop := linesSpreadUptoRow.holds Try.pinned (OpenSpec.upto linesSpreadSpec)

/-- 'strakelaw12.LinesUsed', WHERE WHAT IT READS IS OF BULK AT MOST 1048576: true; the input reads as it did. -/
def linesUsedUptoRow : OpenClaim := { program := "ytlenjgofiocaaaa", sum := "cc4f0a280990a085088ebbb81625616c200bd6107c990bbdf02d707e21cb781b", func := "strake/strakelaw12.LinesUsed", spec := "linesUsed", unfollowed := true, recurses := true, apart := false, narrowed := true }
def LinesUsedUptoSaid : Prop := linesUsedUptoRow.holds Try.pinned (OpenSpec.upto linesUsedSpec)

/-- 'strakelaw12.LinesPlays', WHERE WHAT IT READS IS OF BULK AT MOST 1048576: true; the input reads as it did. -/
def linesPlaysUptoRow : OpenClaim := { program := "ytlenjgofiocaaaa", sum := "cc4f0a280990a085088ebbb81625616c200bd6107c990bbdf02d707e21cb781b", func := "strake/strakelaw12.LinesPlays", spec := "linesPlays", unfollowed := true, recurses := true, apart := false, narrowed := true }
def LinesPlaysUptoSaid : Prop := linesPlaysUptoRow.holds Try.pinned (OpenSpec.upto linesPlaysSpec)

/-- 'strakelaw12.LinesOne', WHERE WHAT IT READS IS OF BULK AT MOST 1048576: true; the input reads as it did. -/
def linesOneUptoRow : OpenClaim := { program := "ytlenjgofiocaaaa", sum := "cc4f0a280990a085088ebbb81625616c200bd6107c990bbdf02d707e21cb781b", func := "strake/strakelaw12.LinesOne", spec := "linesOne", unfollowed := true, recurses := true, apart := false, narrowed := true }
def LinesOneUptoSaid : Prop := linesOneUptoRow.holds Try.pinned (OpenSpec.upto linesOneSpec)

end Rows
end Go.Proofs.Ytlenjgofiocaaaa
