/-
  No cell of these rows narrows 'for every input' (looked for: loops, veiled, ifaces, maps, wideKeys, modest, calm, conditions, laid).
  DERIVED. THE GIVEN ROWS OF THIS SEAT. 6 by the template 'for every input the law returns true; each argument reads behind the call as it read before'; 0 by the template 'total and deterministic' (their statements: YtcbgobgicknhiaaTotals.lean).
  GIVEN WITH THE SEED: the statements are not yours to turn. If you find one false, say at which input.
  Laid BY PROGRAM, IN A SANDBOX (cutbox-rows.mjs): the forced cells as the released guide's own fill.sh prints them over the translation 3695d92534698236… (all of the seat's roots in one cut). By AI agents, Wed Nov 11 2026. No macro, syntax, notation, axiom, sorry.
-/
import Derived.Test.YtcbgobgicknhiaaChecked
import GoSem.Claim
import GoSem.ClaimJoined
import GoSem.ClaimMapViews
import Derived.JoinedTies
import Derived.KernelRfl
namespace Go.Proofs.Ytcbgobgicknhiaa
/- THE CELL 'sum', in the pinned program and in every row, IS THE sha256 OF THE DUMP (.gsa) THAT YtcbgobgicknhiaaProg.lean LOADS. Nothing in Lean hashes anything: it is a label: what it is worth is what the hold of that sum in a sandbox is worth. -/
noncomputable def Try.pinned : Pinned := { name := "ytcbgobgicknhiaa", sum := "3695d92534698236d289ddf4816e0d7bbda2769b27e24e28ce177d1ede7735fb", checked := Try.checked }
namespace Rows
def none {H : Type} : Left H := { results := [], args := [] }

/-- 'strakelaw22.SchedNews': WHATEVER THE INPUT: true; the input reads as it did. -/
def schedNewsSpec : ChangeSpec := { name := "schedNews", fn := fun _ => fun
  | [d1, d2, d3] => { results := [.lit (.bool true)], args := [d1, d2, d3] }
  | _ => none }
def schedNewsRow : OpenClaim := { program := "ytcbgobgicknhiaa", sum := "3695d92534698236d289ddf4816e0d7bbda2769b27e24e28ce177d1ede7735fb", func := "strake/strakelaw22.SchedNews", spec := "schedNews", unfollowed := true, recurses := true, apart := false }
def SchedNewsSaid : Prop := schedNewsRow.holds Try.pinned (OpenSpec.ofChange schedNewsSpec)

/-- ITS FALSE NEIGHBOUR: 'it returns false'. Refute it at one input. -/
def schedNewsWrong : ChangeSpec := { name := "schedNews", fn := fun _ => fun
  | [d1, d2, d3] => { results := [.lit (.bool false)], args := [d1, d2, d3] }
  | _ => none }
def SchedNewsWrongFalsely : Prop := schedNewsRow.holds Try.pinned (OpenSpec.ofChange schedNewsWrong)

/-- 'strakelaw22.SchedPlays': WHATEVER THE INPUT: true; the input reads as it did. -/
def schedPlaysSpec : ChangeSpec := { name := "schedPlays", fn := fun _ => fun
  | [d1, d2, d3] => { results := [.lit (.bool true)], args := [d1, d2, d3] }
  | _ => none }
def schedPlaysRow : OpenClaim := { program := "ytcbgobgicknhiaa", sum := "3695d92534698236d289ddf4816e0d7bbda2769b27e24e28ce177d1ede7735fb", func := "strake/strakelaw22.SchedPlays", spec := "schedPlays", unfollowed := true, recurses := true, apart := false }
def SchedPlaysSaid : Prop := schedPlaysRow.holds Try.pinned (OpenSpec.ofChange schedPlaysSpec)

/-- ITS FALSE NEIGHBOUR: 'it returns false'. Refute it at one input. -/
def schedPlaysWrong : ChangeSpec := { name := "schedPlays", fn := fun _ => fun
  | [d1, d2, d3] => { results := [.lit (.bool false)], args := [d1, d2, d3] }
  | _ => none }
def SchedPlaysWrongFalsely : Prop := schedPlaysRow.holds Try.pinned (OpenSpec.ofChange schedPlaysWrong)

/-- 'strakelaw22.SchedReady': WHATEVER THE INPUT: true; the input reads as it did. -/
def schedReadySpec : ChangeSpec := { name := "schedReady", fn := fun _ => fun
  | [d1, d2] => { results := [.lit (.bool true)], args := [d1, d2] }
  | _ => none }
def schedReadyRow : OpenClaim := { program := "ytcbgobgicknhiaa", sum := "3695d92534698236d289ddf4816e0d7bbda2769b27e24e28ce177d1ede7735fb", func := "strake/strakelaw22.SchedReady", spec := "schedReady", unfollowed := true, recurses := true, apart := false }
def SchedReadySaid : Prop := schedReadyRow.holds Try.pinned (OpenSpec.ofChange schedReadySpec)

/-- ITS FALSE NEIGHBOUR: 'it returns false'. Refute it at one input. -/
def schedReadyWrong : ChangeSpec := { name := "schedReady", fn := fun _ => fun
  | [d1, d2] => { results := [.lit (.bool false)], args := [d1, d2] }
  | _ => none }
def SchedReadyWrongFalsely : Prop := schedReadyRow.holds Try.pinned (OpenSpec.ofChange schedReadyWrong)

/-- 'strakelaw22.SchedFair': WHATEVER THE INPUT: true; the input reads as it did. -/
def schedFairSpec : ChangeSpec := { name := "schedFair", fn := fun _ => fun
  | [d1, d2] => { results := [.lit (.bool true)], args := [d1, d2] }
  | _ => none }
def schedFairRow : OpenClaim := { program := "ytcbgobgicknhiaa", sum := "3695d92534698236d289ddf4816e0d7bbda2769b27e24e28ce177d1ede7735fb", func := "strake/strakelaw22.SchedFair", spec := "schedFair", unfollowed := true, recurses := true, apart := false }
def SchedFairSaid : Prop := schedFairRow.holds Try.pinned (OpenSpec.ofChange schedFairSpec)

/-- ITS FALSE NEIGHBOUR: 'it returns false'. Refute it at one input. -/
def schedFairWrong : ChangeSpec := { name := "schedFair", fn := fun _ => fun
  | [d1, d2] => { results := [.lit (.bool false)], args := [d1, d2] }
  | _ => none }
def SchedFairWrongFalsely : Prop := schedFairRow.holds Try.pinned (OpenSpec.ofChange schedFairWrong)

/-- 'strakelaw22.SchedRefuses': WHATEVER THE INPUT: true; the input reads as it did. -/
def schedRefusesSpec : ChangeSpec := { name := "schedRefuses", fn := fun _ => fun
  | [d1, d2, d3] => { results := [.lit (.bool true)], args := [d1, d2, d3] }
  | _ => none }
def schedRefusesRow : OpenClaim := { program := "ytcbgobgicknhiaa", sum := "3695d92534698236d289ddf4816e0d7bbda2769b27e24e28ce177d1ede7735fb", func := "strake/strakelaw22.SchedRefuses", spec := "schedRefuses", unfollowed := true, recurses := true, apart := false }
def SchedRefusesSaid : Prop := schedRefusesRow.holds Try.pinned (OpenSpec.ofChange schedRefusesSpec)

/-- ITS FALSE NEIGHBOUR: 'it returns false'. Refute it at one input. -/
def schedRefusesWrong : ChangeSpec := { name := "schedRefuses", fn := fun _ => fun
  | [d1, d2, d3] => { results := [.lit (.bool false)], args := [d1, d2, d3] }
  | _ => none }
def SchedRefusesWrongFalsely : Prop := schedRefusesRow.holds Try.pinned (OpenSpec.ofChange schedRefusesWrong)

/-- 'strakelaw22.SchedAlone': WHATEVER THE INPUT: true; the input reads as it did. -/
def schedAloneSpec : ChangeSpec := { name := "schedAlone", fn := fun _ => fun
  | [d1, d2, d3] => { results := [.lit (.bool true)], args := [d1, d2, d3] }
  | _ => none }
def schedAloneRow : OpenClaim := { program := "ytcbgobgicknhiaa", sum := "3695d92534698236d289ddf4816e0d7bbda2769b27e24e28ce177d1ede7735fb", func := "strake/strakelaw22.SchedAlone", spec := "schedAlone", unfollowed := true, recurses := true, apart := false }
def SchedAloneSaid : Prop := schedAloneRow.holds Try.pinned (OpenSpec.ofChange schedAloneSpec)

/-- ITS FALSE NEIGHBOUR: 'it returns false'. Refute it at one input. -/
def schedAloneWrong : ChangeSpec := { name := "schedAlone", fn := fun _ => fun
  | [d1, d2, d3] => { results := [.lit (.bool false)], args := [d1, d2, d3] }
  | _ => none }
def SchedAloneWrongFalsely : Prop := schedAloneRow.holds Try.pinned (OpenSpec.ofChange schedAloneWrong)

/- THE SECOND FORM. 'bulk': how many values and letters a reading holds, each counted each time it is reached (what is shared counts as often as it is met; a slice's spare places count too). A statement '..UptoSaid' is the law's where the arguments, and the package variables that the reading takes, are together of bulk at most 1048576: NARROWER than '..Said'. Prove '..Said' where nothing that the law and all that it calls make is longer than what came in: it says more and counts as full. Else prove '..UptoSaid'. A law counts once. -/
mutual
def uptoBulk {H : Type} : DataW H → Nat
  | .lit (.string bytes) => bytes.length + 1
  | .lit _ => 1
  | .nil => 1
  | .ptr d => uptoBulk d + 1
  | .slice elems spare => uptoBulkAll elems + uptoBulkAll spare + 1
  | .agg parts => uptoBulkAll parts + 1
  | .iface _ d => uptoBulk d + 1
  | .map entries => uptoBulkEntries entries + 1
  | .held _ => 1
def uptoBulkAll {H : Type} : List (DataW H) → Nat
  | [] => 0
  | d :: r => uptoBulk d + uptoBulkAll r
def uptoBulkEntries {H : Type} : List (Lit × DataW H) → Nat
  | [] => 0
  | x :: r => uptoBulkEntry x + uptoBulkEntries r
def uptoBulkEntry {H : Type} : Lit × DataW H → Nat
  | (.string bytes, d) => bytes.length + uptoBulk d + 1
  | (_, d) => uptoBulk d + 1
 end
def uptoSmall : (H : Type) → List (DataW H) → Bool := fun _ ds => decide (uptoBulkAll ds ≤ 1048576)
def OpenSpec.upto (s : _root_.Go.ChangeSpec) : _root_.Go.OpenSpec := { _root_.Go.OpenSpec.ofChange s with cond := some uptoSmall }

/-- 'strakelaw22.SchedNews', WHERE WHAT IT READS IS OF BULK AT MOST 1048576: true; the input reads as it did. -/
def schedNewsUptoRow : OpenClaim := { program := "ytcbgobgicknhiaa", sum := "3695d92534698236d289ddf4816e0d7bbda2769b27e24e28ce177d1ede7735fb", func := "strake/strakelaw22.SchedNews", spec := "schedNews", unfollowed := true, recurses := true, apart := false, narrowed := true }
def SchedNewsUptoSaid : Prop := schedNewsUptoRow.holds Try.pinned (OpenSpec.upto schedNewsSpec)

/-- 'strakelaw22.SchedPlays', WHERE WHAT IT READS IS OF BULK AT MOST 1048576: true; the input reads as it did. -/
def schedPlaysUptoRow : OpenClaim := { program := "ytcbgobgicknhiaa", sum := "3695d92534698236d289ddf4816e0d7bbda2769b27e24e28ce177d1ede7735fb", func := "strake/strakelaw22.SchedPlays", spec := "schedPlays", unfollowed := true, recurses := true, apart := false, narrowed := true }
def SchedPlaysUptoSaid : Prop := schedPlaysUptoRow.holds Try.pinned (OpenSpec.upto schedPlaysSpec)

/-- 'strakelaw22.SchedReady', WHERE WHAT IT READS IS OF BULK AT MOST 1048576: true; the input reads as it did. -/
def schedReadyUptoRow : OpenClaim := { program := "ytcbgobgicknhiaa", sum := "3695d92534698236d289ddf4816e0d7bbda2769b27e24e28ce177d1ede7735fb", func := "strake/strakelaw22.SchedReady", spec := "schedReady", unfollowed := true, recurses := true, apart := false, narrowed := true }
def SchedReadyUptoSaid : Prop := schedReadyUptoRow.holds Try.pinned (OpenSpec.upto schedReadySpec)

/-- 'strakelaw22.SchedFair', WHERE WHAT IT READS IS OF BULK AT MOST 1048576: true; the input reads as it did. -/
def schedFairUptoRow : OpenClaim := { program := "ytcbgobgicknhiaa", sum := "3695d92534698236d289ddf4816e0d7bbda2769b27e24e28ce177d1ede7735fb", func := "strake/strakelaw22.SchedFair", spec := "schedFair", unfollowed := true, recurses := true, apart := false, narrowed := true }
def SchedFairUptoSaid : Prop := schedFairUptoRow.holds Try.pinned (OpenSpec.upto schedFairSpec)

/-- 'strakelaw22.SchedRefuses', WHERE WHAT IT READS IS OF BULK AT MOST 1048576: true; the input reads as it did. -/
def schedRefusesUptoRow : OpenClaim := { program := "ytcbgobgicknhiaa", sum := "3695d92534698236d289ddf4816e0d7bbda2769b27e24e28ce177d1ede7735fb", func := "strake/strakelaw22.SchedRefuses", spec := "schedRefuses", unfollowed := true, recurses := true, apart := false, narrowed := true }
def SchedRefusesUptoSaid : Prop := schedRefusesUptoRow.holds Try.pinned (OpenSpec.upto schedRefusesSpec)

/-- 'strakelaw22.SchedAlone', WHERE WHAT IT READS IS OF BULK AT MOST 1048576: true; the input reads as it did. -/
def schedAloneUptoRow : OpenClaim := { program := "ytcbgobgicknhiaa", sum := "3695d92534698236d289ddf4816e0d7bbda2769b27e24e28ce177d1ede7735fb", func := "strake/strakelaw22.SchedAlone", spec := "schedAlone", unfollowed := true, recurses := true, apart := false, narrowed := true }
def SchedAloneUptoSaid : Prop := schedAloneUptoRow.holds Try.pinned (OpenSpec.upto schedAloneSpec)

end Rows
end Go.Proofs.Ytcbgobgicknhiaa
