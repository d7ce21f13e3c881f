/-
  No cell of these rows narrows 'for every input' (looked for: loops, veiled, ifaces, maps, wideKeys, modest, calm, conditions, laid).
  DERIVED. THE GIVEN ROWS OF THIS SEAT. 7 by the template 'for every input the law returns true; each argument reads behind the call as it read before'; 0 by the template 'total and deterministic' (their statements: YtookghkfghdadaaTotals.lean).
  GIVEN WITH THE SEED: the statements are not yours to turn. If you find one false, say at which input.
  Laid BY PROGRAM, IN A SANDBOX (cutbox-rows.mjs): the forced cells as the released guide's own fill.sh prints them over the translation 01f02dda5b6deffe… (all of the seat's roots in one cut). By AI agents, Wed Nov 11 2026. No macro, syntax, notation, axiom, sorry.
-/
import Derived.Test.YtookghkfghdadaaChecked
import GoSem.Claim
import GoSem.ClaimJoined
import GoSem.ClaimMapViews
import Derived.JoinedTies
import Derived.KernelRfl
namespace Go.Proofs.Ytookghkfghdadaa
/- THE CELL 'sum', in the pinned program and in every row, IS THE sha256 OF THE DUMP (.gsa) THAT YtookghkfghdadaaProg.lean LOADS. Nothing in Lean hashes anything: it is a label: what it is worth is what the hold of that sum in a sandbox is worth. -/
noncomputable def Try.pinned : Pinned := { name := "ytookghkfghdadaa", sum := "01f02dda5b6deffe304a8851a123b65626f69f8b4af74a2c9804fc27fbb66c9e", checked := Try.checked }
namespace Rows
def none {H : Type} : Left H := { results := [], args := [] }

/-- 'strakelaw10.RingNews': WHATEVER THE INPUT: true; the input reads as it did. -/
def ringNewsSpec : ChangeSpec := { name := "ringNews", fn := fun _ => fun
  | [d] => { results := [.lit (.bool true)], args := [d] }
  | _ => none }
def ringNewsRow : OpenClaim := { program := "ytookghkfghdadaa", sum := "01f02dda5b6deffe304a8851a123b65626f69f8b4af74a2c9804fc27fbb66c9e", func := "strake/strakelaw10.RingNews", spec := "ringNews", unfollowed := true, recurses := true, apart := false }
def RingNewsSaid : Prop := ringNewsRow.holds Try.pinned (OpenSpec.ofChange ringNewsSpec)

/-- ITS FALSE NEIGHBOUR: 'it returns false'. Refute it at one input. -/
def ringNewsWrong : ChangeSpec := { name := "ringNews", fn := fun _ => fun
  | [d] => { results := [.lit (.bool false)], args := [d] }
  | _ => none }
def RingNewsWrongFalsely : Prop := ringNewsRow.holds Try.pinned (OpenSpec.ofChange ringNewsWrong)

/-- 'strakelaw10.RingTakes': WHATEVER THE INPUT: true; the input reads as it did. -/
def ringTakesSpec : ChangeSpec := { name := "ringTakes", fn := fun _ => fun
  | [d1, d2, d3] => { results := [.lit (.bool true)], args := [d1, d2, d3] }
  | _ => none }
def ringTakesRow : OpenClaim := { program := "ytookghkfghdadaa", sum := "01f02dda5b6deffe304a8851a123b65626f69f8b4af74a2c9804fc27fbb66c9e", func := "strake/strakelaw10.RingTakes", spec := "ringTakes", unfollowed := true, recurses := true, apart := false }
def RingTakesSaid : Prop := ringTakesRow.holds Try.pinned (OpenSpec.ofChange ringTakesSpec)

/-- ITS FALSE NEIGHBOUR: 'it returns false'. Refute it at one input. -/
def ringTakesWrong : ChangeSpec := { name := "ringTakes", fn := fun _ => fun
  | [d1, d2, d3] => { results := [.lit (.bool false)], args := [d1, d2, d3] }
  | _ => none }
def RingTakesWrongFalsely : Prop := ringTakesRow.holds Try.pinned (OpenSpec.ofChange ringTakesWrong)

/-- 'strakelaw10.RingOwn': WHATEVER THE INPUT: true; the input reads as it did. -/
def ringOwnSpec : ChangeSpec := { name := "ringOwn", fn := fun _ => fun
  | [d] => { results := [.lit (.bool true)], args := [d] }
  | _ => none }
def ringOwnRow : OpenClaim := { program := "ytookghkfghdadaa", sum := "01f02dda5b6deffe304a8851a123b65626f69f8b4af74a2c9804fc27fbb66c9e", func := "strake/strakelaw10.RingOwn", spec := "ringOwn", unfollowed := true, recurses := true, apart := false }
def RingOwnSaid : Prop := ringOwnRow.holds Try.pinned (OpenSpec.ofChange ringOwnSpec)

/-- ITS FALSE NEIGHBOUR: 'it returns false'. Refute it at one input. -/
def ringOwnWrong : ChangeSpec := { name := "ringOwn", fn := fun _ => fun
  | [d] => { results := [.lit (.bool false)], args := [d] }
  | _ => none }
def RingOwnWrongFalsely : Prop := ringOwnRow.holds Try.pinned (OpenSpec.ofChange ringOwnWrong)

/-- 'strakelaw10.RingKeeps': WHATEVER THE INPUT: true; the input reads as it did. -/
def ringKeepsSpec : ChangeSpec := { name := "ringKeeps", fn := fun _ => fun
  | [d1, d2] => { results := [.lit (.bool true)], args := [d1, d2] }
  | _ => none }
def ringKeepsRow : OpenClaim := { program := "ytookghkfghdadaa", sum := "01f02dda5b6deffe304a8851a123b65626f69f8b4af74a2c9804fc27fbb66c9e", func := "strake/strakelaw10.RingKeeps", spec := "ringKeeps", unfollowed := true, recurses := true, apart := false }
def RingKeepsSaid : Prop := ringKeepsRow.holds Try.pinned (OpenSpec.ofChange ringKeepsSpec)

/-- ITS FALSE NEIGHBOUR: 'it returns false'. Refute it at one input. -/
def ringKeepsWrong : ChangeSpec := { name := "ringKeeps", fn := fun _ => fun
  | [d1, d2] => { results := [.lit (.bool false)], args := [d1, d2] }
  | _ => none }
def RingKeepsWrongFalsely : Prop := ringKeepsRow.holds Try.pinned (OpenSpec.ofChange ringKeepsWrong)

/-- 'strakelaw10.RingFinds': WHATEVER THE INPUT: true; the input reads as it did. -/
def ringFindsSpec : ChangeSpec := { name := "ringFinds", fn := fun _ => fun
  | [d1, d2, d3] => { results := [.lit (.bool true)], args := [d1, d2, d3] }
  | _ => none }
def ringFindsRow : OpenClaim := { program := "ytookghkfghdadaa", sum := "01f02dda5b6deffe304a8851a123b65626f69f8b4af74a2c9804fc27fbb66c9e", func := "strake/strakelaw10.RingFinds", spec := "ringFinds", unfollowed := true, recurses := true, apart := false }
def RingFindsSaid : Prop := ringFindsRow.holds Try.pinned (OpenSpec.ofChange ringFindsSpec)

/-- ITS FALSE NEIGHBOUR: 'it returns false'. Refute it at one input. -/
def ringFindsWrong : ChangeSpec := { name := "ringFinds", fn := fun _ => fun
  | [d1, d2, d3] => { results := [.lit (.bool false)], args := [d1, d2, d3] }
  | _ => none }
def RingFindsWrongFalsely : Prop := ringFindsRow.holds Try.pinned (OpenSpec.ofChange ringFindsWrong)

/-- 'strakelaw10.RingFull': WHATEVER THE INPUT: true; the input reads as it did. -/
def ringFullSpec : ChangeSpec := { name := "ringFull", fn := fun _ => fun
  | [d1, d2] => { results := [.lit (.bool true)], args := [d1, d2] }
  | _ => none }
def ringFullRow : OpenClaim := { program := "ytookghkfghdadaa", sum := "01f02dda5b6deffe304a8851a123b65626f69f8b4af74a2c9804fc27fbb66c9e", func := "strake/strakelaw10.RingFull", spec := "ringFull", unfollowed := true, recurses := true, apart := false }
def RingFullSaid : Prop := ringFullRow.holds Try.pinned (OpenSpec.ofChange ringFullSpec)

/-- ITS FALSE NEIGHBOUR: 'it returns false'. Refute it at one input. -/
def ringFullWrong : ChangeSpec := { name := "ringFull", fn := fun _ => fun
  | [d1, d2] => { results := [.lit (.bool false)], args := [d1, d2] }
  | _ => none }
def RingFullWrongFalsely : Prop := ringFullRow.holds Try.pinned (OpenSpec.ofChange ringFullWrong)

/-- 'strakelaw10.RingPlays': WHATEVER THE INPUT: true; the input reads as it did. -/
def ringPlaysSpec : ChangeSpec := { name := "ringPlays", fn := fun _ => fun
  | [d1, d2] => { results := [.lit (.bool true)], args := [d1, d2] }
  | _ => none }
def ringPlaysRow : OpenClaim := { program := "ytookghkfghdadaa", sum := "01f02dda5b6deffe304a8851a123b65626f69f8b4af74a2c9804fc27fbb66c9e", func := "strake/strakelaw10.RingPlays", spec := "ringPlays", unfollowed := true, recurses := true, apart := false }
def RingPlaysSaid : Prop := ringPlaysRow.holds Try.pinned (OpenSpec.ofChange ringPlaysSpec)

/-- ITS FALSE NEIGHBOUR: 'it returns false'. Refute it at one input. -/
def ringPlaysWrong : ChangeSpec := { name := "ringPlays", fn := fun _ => fun
  | [d1, d2] => { results := [.lit (.bool false)], args := [d1, d2] }
  | _ => none }
def RingPlaysWrongFalsely : Prop := ringPlaysRow.holds Try.pinned (OpenSpec.ofChange ringPlaysWrong)

/- THE SECOND FORM. 'bulk': how many values and letters a reading holds, each counted each time it is reached (what is shared counts as often as it is met; a slice's spare places count too). A statement '..UptoSaid' is the law's where the arguments, and the package variables that the reading takes, are together of bulk at most 1048576: NARROWER than '..Said'. Prove '..Said' where nothing that the law and all that it calls make is longer than what came in: it says more and counts as full. Else prove '..UptoSaid'. A law counts once. -/
mutual
def uptoBulk {H : Type} : DataW H → Nat
  | .lit (.string bytes) => bytes.length + 1
  | .lit _ => 1
  | .nil => 1
  | .ptr d => uptoBulk d + 1
  | .slice elems spare => uptoBulkAll elems + uptoBulkAll spare + 1
  | .agg parts => uptoBulkAll parts + 1
  | .iface _ d => uptoBulk d + 1
  | .map entries => uptoBulkEntries entries + 1
  | .held _ => 1
def uptoBulkAll {H : Type} : List (DataW H) → Nat
  | [] => 0
  | d :: r => uptoBulk d + uptoBulkAll r
def uptoBulkEntries {H : Type} : List (Lit × DataW H) → Nat
  | [] => 0
  | x :: r => uptoBulkEntry x + uptoBulkEntries r
def uptoBulkEntry {H : Type} : Lit × DataW H → Nat
  | (.string bytes, d) => bytes.length + uptoBulk d + 1
  | (_, d) => uptoBulk d + 1
 end
def uptoSmall : (H : Type) → List (DataW H) → Bool := fun _ ds => decide (uptoBulkAll ds ≤ 1048576)
def OpenSpec.upto (s : _root_.Go.ChangeSpec) : _root_.Go.OpenSpec := { _root_.Go.OpenSpec.ofChange s with cond := some uptoSmall }

/-- 'strakelaw10.RingNews', WHERE WHAT IT READS IS OF BULK AT MOST 1048576: true; the input reads as it did. -/
def ringNewsUptoRow : OpenClaim := { program := "ytookghkfghdadaa", sum := "01f02dda5b6deffe304a8851a123b65626f69f8b4af74a2c9804fc27fbb66c9e", func := "strake/strakelaw10.RingNews", spec := "ringNews", unfollowed := true, recurses := true, apart := false, narrowed := true }
def RingNewsUptoSaid : Prop := ringNewsUptoRow.holds Try.pinned (OpenSpec.upto ringNewsSpec)

/-- 'strakelaw10.RingTakes', WHERE WHAT IT READS IS OF BULK AT MOST 1048576: true; the input reads as it did. -/
def ringTakesUptoRow : OpenClaim := { program := "ytookghkfghdadaa", sum := "01f02dda5b6deffe304a8851a123b65626f69f8b4af74a2c9804fc27fbb66c9e", func := "strake/strakelaw10.RingTakes", spec := "ringTakes", unfollowed := true, recurses := true, apart := false, narrowed := true }
def RingTakesUptoSaid : Prop := ringTakesUptoRow.holds Try.pinned (OpenSpec.upto ringTakesSpec)

/-- 'strakelaw10.RingOwn', WHERE WHAT IT READS IS OF BULK AT MOST 1048576: true; the input reads as it did. -/
def ringOwnUptoRow : OpenClaim := { program := "ytookghkfghdadaa", sum := "01f02dda5b6deffe304a8851a123b65626f69f8b4af74a2c9804fc27fbb66c9e", func := "strake/strakelaw10.RingOwn", spec := "ringOwn", unfollowed := true, recurses := true, apart := false, narrowed := true }
def RingOwnUptoSaid : Prop := ringOwnUptoRow.holds Try.pinned (OpenSpec.upto ringOwnSpec)

/-- 'strakelaw10.RingKeeps', WHERE WHAT IT READS IS OF BULK AT MOST 1048576: true; the input reads as it did. -/
def ringKeepsUptoRow : OpenClaim := { program := "ytookghkfghdadaa", sum := "01f02dda5b6deffe304a8851a123b65626f69f8b4af74a2c9804fc27fbb66c9e", func := "strake/strakelaw10.RingKeeps", spec := "ringKeeps", unfollowed := true, recurses := true, apart := false, narrowed := true }
def RingKeepsUptoSaid : Prop := ringKeepsUptoRow.holds Try.pinned (OpenSpec.upto ringKeepsSpec)

/-- 'strakelaw10.RingFinds', WHERE WHAT IT READS IS OF BULK AT MOST 1048576: true; the input reads as it did. -/
def ringFindsUptoRow : OpenClaim := { program := "ytookghkfghdadaa", sum := "01f02dda5b6deffe304a8851a123b65626f69f8b4af74a2c9804fc27fbb66c9e", func := "strake/strakelaw10.RingFinds", spec := "ringFinds", unfollowed := true, recurses := true, apart := false, narrowed := true }
def RingFindsUptoSaid : Prop := ringFindsUptoRow.holds Try.pinned (OpenSpec.upto ringFindsSpec)

/-- 'strakelaw10.RingFull', WHERE WHAT IT READS IS OF BULK AT MOST 1048576: true; the input reads as it did. -/
def ringFullUptoRow : OpenClaim := { program := "ytookghkfghdadaa", sum := "01f02dda5b6deffe304a8851a123b65626f69f8b4af74a2c9804fc27fbb66c9e", func := "strake/strakelaw10.RingFull", spec := "ringFull", unfollowed := true, recurses := true, apart := false, narrowed := true }
def RingFullUptoSaid : Prop := ringFullUptoRow.holds Try.pinned (OpenSpec.upto ringFullSpec)

/-- 'strakelaw10.RingPlays', WHERE WHAT IT READS IS OF BULK AT MOST 1048576: true; the input reads as it did. -/
def ringPlaysUptoRow : OpenClaim := { program := "ytookghkfghdadaa", sum := "01f02dda5b6deffe304a8851a123b65626f69f8b4af74a2c9804fc27fbb66c9e", func := "strake/strakelaw10.RingPlays", spec := "ringPlays", unfollowed := true, recurses := true, apart := false, narrowed := true }
def RingPlaysUptoSaid : Prop := ringPlaysUptoRow.holds Try.pinned (OpenSpec.upto ringPlaysSpec)

end Rows
end Go.Proofs.Ytookghkfghdadaa
