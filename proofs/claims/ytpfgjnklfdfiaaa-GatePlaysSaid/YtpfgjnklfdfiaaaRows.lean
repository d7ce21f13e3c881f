/-
  No cell of these rows narrows 'for every input' (looked for: loops, veiled, ifaces, maps, wideKeys, modest, calm, conditions, laid).
  DERIVED. THE GIVEN ROWS OF THIS SEAT. 5 by the template 'for every input the law returns true; each argument reads behind the call as it read before'; 0 by the template 'total and deterministic' (their statements: YtpfgjnklfdfiaaaTotals.lean).
  GIVEN WITH THE SEED: the statements are not yours to turn. If you find one false, say at which input.
  Laid BY PROGRAM, IN A SANDBOX (cutbox-rows.mjs): the forced cells as the released guide's own fill.sh prints them over the translation d7b3fa39668e7920… (all of the seat's roots in one cut). By AI agents, Wed Nov 11 2026. No macro, syntax, notation, axiom, sorry.
-/
import Derived.Test.YtpfgjnklfdfiaaaChecked
import GoSem.Claim
import GoSem.ClaimJoined
import GoSem.ClaimMapViews
import Derived.JoinedTies
import Derived.KernelRfl
namespace Go.Proofs.Ytpfgjnklfdfiaaa
/- THE CELL 'sum', in the pinned program and in every row, IS THE sha256 OF THE DUMP (.gsa) THAT YtpfgjnklfdfiaaaProg.lean LOADS. Nothing in Lean hashes anything: it is a label: what it is worth is what the hold of that sum in a sandbox is worth. -/
noncomputable def Try.pinned : Pinned := { name := "ytpfgjnklfdfiaaa", sum := "d7b3fa39668e7920bd44fcf8527636a9402b611a2790c1b14d6d04b750c8d4a9", checked := Try.checked }
namespace Rows
def none {H : Type} : Left H := { results := [], args := [] }

/-- 'strakelaw14.GateSplits': WHATEVER THE INPUT: true; the input reads as it did. -/
def gateSplitsSpec : ChangeSpec := { name := "gateSplits", fn := fun _ => fun
  | [d] => { results := [.lit (.bool true)], args := [d] }
  | _ => none }
def gateSplitsRow : OpenClaim := { program := "ytpfgjnklfdfiaaa", sum := "d7b3fa39668e7920bd44fcf8527636a9402b611a2790c1b14d6d04b750c8d4a9", func := "strake/strakelaw14.GateSplits", spec := "gateSplits", apart := false }
def GateSplitsSaid : Prop := gateSplitsRow.holds Try.pinned (OpenSpec.ofChange gateSplitsSpec)

/-- ITS FALSE NEIGHBOUR: 'it returns false'. Refute it at one input. -/
def gateSplitsWrong : ChangeSpec := { name := "gateSplits", fn := fun _ => fun
  | [d] => { results := [.lit (.bool false)], args := [d] }
  | _ => none }
def GateSplitsWrongFalsely : Prop := gateSplitsRow.holds Try.pinned (OpenSpec.ofChange gateSplitsWrong)

/-- 'strakelaw14.GateRises': WHATEVER THE INPUT: true; the input reads as it did. -/
def gateRisesSpec : ChangeSpec := { name := "gateRises", fn := fun _ => fun
  | [d1, d2] => { results := [.lit (.bool true)], args := [d1, d2] }
  | _ => none }
def gateRisesRow : OpenClaim := { program := "ytpfgjnklfdfiaaa", sum := "d7b3fa39668e7920bd44fcf8527636a9402b611a2790c1b14d6d04b750c8d4a9", func := "strake/strakelaw14.GateRises", spec := "gateRises", apart := false }
def GateRisesSaid : Prop := gateRisesRow.holds Try.pinned (OpenSpec.ofChange gateRisesSpec)

/-- ITS FALSE NEIGHBOUR: 'it returns false'. Refute it at one input. -/
def gateRisesWrong : ChangeSpec := { name := "gateRises", fn := fun _ => fun
  | [d1, d2] => { results := [.lit (.bool false)], args := [d1, d2] }
  | _ => none }
def GateRisesWrongFalsely : Prop := gateRisesRow.holds Try.pinned (OpenSpec.ofChange gateRisesWrong)

/-- 'strakelaw14.GatePlays': WHATEVER THE INPUT: true; the input reads as it did. -/
def gatePlaysSpec : ChangeSpec := { name := "gatePlays", fn := fun _ => fun
  | [d1, d2] => { results := [.lit (.bool true)], args := [d1, d2] }
  | _ => none }
def gatePlaysRow : OpenClaim := { program := "ytpfgjnklfdfiaaa", sum := "d7b3fa39668e7920bd44fcf8527636a9402b611a2790c1b14d6d04b750c8d4a9", func := "strake/strakelaw14.GatePlays", spec := "gatePlays", apart := false }
def GatePlaysSaid : Prop := gatePlaysRow.holds Try.pinned (OpenSpec.ofChange gatePlaysSpec)

/-- ITS FALSE NEIGHBOUR: 'it returns false'. Refute it at one input. -/
def gatePlaysWrong : ChangeSpec := { name := "gatePlays", fn := fun _ => fun
  | [d1, d2] => { results := [.lit (.bool false)], args := [d1, d2] }
  | _ => none }
def GatePlaysWrongFalsely : Prop := gatePlaysRow.holds Try.pinned (OpenSpec.ofChange gatePlaysWrong)

/-- 'strakelaw14.GateOnce': WHATEVER THE INPUT: true; the input reads as it did. -/
def gateOnceSpec : ChangeSpec := { name := "gateOnce", fn := fun _ => fun
  | [d1, d2, d3] => { results := [.lit (.bool true)], args := [d1, d2, d3] }
  | _ => none }
def gateOnceRow : OpenClaim := { program := "ytpfgjnklfdfiaaa", sum := "d7b3fa39668e7920bd44fcf8527636a9402b611a2790c1b14d6d04b750c8d4a9", func := "strake/strakelaw14.GateOnce", spec := "gateOnce", apart := false }
def GateOnceSaid : Prop := gateOnceRow.holds Try.pinned (OpenSpec.ofChange gateOnceSpec)

/-- ITS FALSE NEIGHBOUR: 'it returns false'. Refute it at one input. -/
def gateOnceWrong : ChangeSpec := { name := "gateOnce", fn := fun _ => fun
  | [d1, d2, d3] => { results := [.lit (.bool false)], args := [d1, d2, d3] }
  | _ => none }
def GateOnceWrongFalsely : Prop := gateOnceRow.holds Try.pinned (OpenSpec.ofChange gateOnceWrong)

/-- 'strakelaw14.GateOthers': WHATEVER THE INPUT: true; the input reads as it did. -/
def gateOthersSpec : ChangeSpec := { name := "gateOthers", fn := fun _ => fun
  | [d1, d2] => { results := [.lit (.bool true)], args := [d1, d2] }
  | _ => none }
def gateOthersRow : OpenClaim := { program := "ytpfgjnklfdfiaaa", sum := "d7b3fa39668e7920bd44fcf8527636a9402b611a2790c1b14d6d04b750c8d4a9", func := "strake/strakelaw14.GateOthers", spec := "gateOthers", apart := false }
def GateOthersSaid : Prop := gateOthersRow.holds Try.pinned (OpenSpec.ofChange gateOthersSpec)

/-- ITS FALSE NEIGHBOUR: 'it returns false'. Refute it at one input. -/
def gateOthersWrong : ChangeSpec := { name := "gateOthers", fn := fun _ => fun
  | [d1, d2] => { results := [.lit (.bool false)], args := [d1, d2] }
  | _ => none }
def GateOthersWrongFalsely : Prop := gateOthersRow.holds Try.pinned (OpenSpec.ofChange gateOthersWrong)

/- THE SECOND FORM. 'bulk': how many values and letters a reading holds, each counted each time it is reached (what is shared counts as often as it is met; a slice's spare places count too). A statement '..UptoSaid' is the law's where the arguments, and the package variables that the reading takes, are together of bulk at most 1048576: NARROWER than '..Said'. Prove '..Said' where nothing that the law and all that it calls make is longer than what came in: it says more and counts as full. Else prove '..UptoSaid'. A law counts once. -/
mutual
def uptoBulk {H : Type} : DataW H → Nat
  | .lit (.string bytes) => bytes.length + 1
  | .lit _ => 1
  | .nil => 1
  | .ptr d => uptoBulk d + 1
  | .slice elems spare => uptoBulkAll elems + uptoBulkAll spare + 1
  | .agg parts => uptoBulkAll parts + 1
  | .iface _ d => uptoBulk d + 1
  | .map entries => uptoBulkEntries entries + 1
  | .held _ => 1
def uptoBulkAll {H : Type} : List (DataW H) → Nat
  | [] => 0
  | d :: r => uptoBulk d + uptoBulkAll r
def uptoBulkEntries {H : Type} : List (Lit × DataW H) → Nat
  | [] => 0
  | x :: r => uptoBulkEntry x + uptoBulkEntries r
def uptoBulkEntry {H : Type} : Lit × DataW H → Nat
  | (.string bytes, d) => bytes.length + uptoBulk d + 1
  | (_, d) => uptoBulk d + 1
 end
def uptoSmall : (H : Type) → List (DataW H) → Bool := fun _ ds => decide (uptoBulkAll ds ≤ 1048576)
def OpenSpec.upto (s : _root_.Go.ChangeSpec) : _root_.Go.OpenSpec := { _root_.Go.OpenSpec.ofChange s with cond := some uptoSmall }

/-- 'strakelaw14.GateSplits', WHERE WHAT IT READS IS OF BULK AT MOST 1048576: true; the input reads as it did. -/
def gateSplitsUptoRow : OpenClaim := { program := "ytpfgjnklfdfiaaa", sum := "d7b3fa39668e7920bd44fcf8527636a9402b611a2790c1b14d6d04b750c8d4a9", func := "strake/strakelaw14.GateSplits", spec := "gateSplits", apart := false, narrowed := true }
def GateSplitsUptoSaid : Prop := gateSplitsUptoRow.holds Try.pinned (OpenSpec.upto gateSplitsSpec)

/-- 'strakelaw14.GateRises', WHERE WHAT IT READS IS OF BULK AT MOST 1048576: true; the input reads as it did. -/
def gateRisesUptoRow : OpenClaim := { program := "ytpfgjnklfdfiaaa", sum := "d7b3fa39668e7920bd44fcf8527636a9402b611a2790c1b14d6d04b750c8d4a9", func := "strake/strakelaw14.GateRises", spec := "gateRises", apart := false, narrowed := true }
def GateRisesUptoSaid : Prop := gateRisesUptoRow.holds Try.pinned (OpenSpec.upto gateRisesSpec)

/-- 'strakelaw14.GatePlays', WHERE WHAT IT READS IS OF BULK AT MOST 1048576: true; the input reads as it did. -/
def gatePlaysUptoRow : OpenClaim := { program := "ytpfgjnklfdfiaaa", sum := "d7b3fa39668e7920bd44fcf8527636a9402b611a2790c1b14d6d04b750c8d4a9", func := "strake/strakelaw14.GatePlays", spec := "gatePlays", apart := false, narrowed := true }
def GatePlaysUptoSaid : Prop := gatePlaysUptoRow.holds Try.pinned (OpenSpec.upto gatePlaysSpec)

/-- 'strakelaw14.GateOnce', WHERE WHAT IT READS IS OF BULK AT MOST 1048576: true; the input reads as it did. -/
def gateOnceUptoRow : OpenClaim := { program := "ytpfgjnklfdfiaaa", sum := "d7b3fa39668e7920bd44fcf8527636a9402b611a2790c1b14d6d04b750c8d4a9", func := "strake/strakelaw14.GateOnce", spec := "gateOnce", apart := false, narrowed := true }
def GateOnceUptoSaid : Prop := gateOnceUptoRow.holds Try.pinned (OpenSpec.upto gateOnceSpec)

/-- 'strakelaw14.GateOthers', WHERE WHAT IT READS IS OF BULK AT MOST 1048576: true; the input reads as it did. -/
def gateOthersUptoRow : OpenClaim := { program := "ytpfgjnklfdfiaaa", sum := "d7b3fa39668e7920bd44fcf8527636a9402b611a2790c1b14d6d04b750c8d4a9", func := "strake/strakelaw14.GateOthers", spec := "gateOthers", apart := false, narrowed := true }
def GateOthersUptoSaid : Prop := gateOthersUptoRow.holds Try.pinned (OpenSpec.upto gateOthersSpec)

end Rows
end Go.Proofs.Ytpfgjnklfdfiaaa
