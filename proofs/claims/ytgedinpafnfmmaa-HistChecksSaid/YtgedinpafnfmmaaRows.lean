/-
  No cell of these rows narrows 'for every input' (looked for: loops, veiled, ifaces, maps, wideKeys, modest, calm, conditions, laid).
  DERIVED. THE GIVEN ROWS OF THIS SEAT. 6 by the template 'for every input the law returns true; each argument reads behind the call as it read before'; 0 by the template 'total and deterministic' (their statements: YtgedinpafnfmmaaTotals.lean).
  GIVEN WITH THE SEED: the statements are not yours to turn. If you find one false, say at which input.
  Laid BY PROGRAM, IN A SANDBOX (cutbox-rows.mjs): the forced cells as the released guide's own fill.sh prints them over the translation 1611db7e8c587300… (all of the seat's roots in one cut). By AI agents, Wed Nov 11 2026. No macro, syntax, notation, axiom, sorry.
-/
import Derived.Test.YtgedinpafnfmmaaChecked
import GoSem.Claim
import GoSem.ClaimJoined
import GoSem.ClaimMapViews
import Derived.JoinedTies
import Derived.KernelRfl
namespace Go.Proofs.Ytgedinpafnfmmaa
/- THE CELL 'sum', in the pinned program and in every row, IS THE sha256 OF THE DUMP (.gsa) THAT YtgedinpafnfmmaaProg.lean LOADS. Nothing in Lean hashes anything: it is a label: what it is worth is what the hold of that sum in a sandbox is worth. -/
noncomputable def Try.pinned : Pinned := { name := "ytgedinpafnfmmaa", sum := "1611db7e8c587300313c6e43cc3b1bf6804a1bf2ea57411f11dabf6ba05012ec", checked := Try.checked }
namespace Rows
def none {H : Type} : Left H := { results := [], args := [] }

/-- 'strakelaw21.HistChecks': WHATEVER THE INPUT: true; the input reads as it did. -/
def histChecksSpec : ChangeSpec := { name := "histChecks", fn := fun _ => fun
  | [d] => { results := [.lit (.bool true)], args := [d] }
  | _ => none }
def histChecksRow : OpenClaim := { program := "ytgedinpafnfmmaa", sum := "1611db7e8c587300313c6e43cc3b1bf6804a1bf2ea57411f11dabf6ba05012ec", func := "strake/strakelaw21.HistChecks", spec := "histChecks", unfollowed := true, recurses := true, plainKeys := false, apart := false }
def HistChecksSaid : Prop := histChecksRow.holds Try.pinned (OpenSpec.ofChange histChecksSpec)

/-- ITS FALSE NEIGHBOUR: 'it returns false'. Refute it at one input. -/
def histChecksWrong : ChangeSpec := { name := "histChecks", fn := fun _ => fun
  | [d] => { results := [.lit (.bool false)], args := [d] }
  | _ => none }
def HistChecksWrongFalsely : Prop := histChecksRow.holds Try.pinned (OpenSpec.ofChange histChecksWrong)

/-- 'strakelaw21.HistSerial': WHATEVER THE INPUT: true; the input reads as it did. -/
def histSerialSpec : ChangeSpec := { name := "histSerial", fn := fun _ => fun
  | [d1, d2] => { results := [.lit (.bool true)], args := [d1, d2] }
  | _ => none }
def histSerialRow : OpenClaim := { program := "ytgedinpafnfmmaa", sum := "1611db7e8c587300313c6e43cc3b1bf6804a1bf2ea57411f11dabf6ba05012ec", func := "strake/strakelaw21.HistSerial", spec := "histSerial", unfollowed := true, recurses := true, plainKeys := false, apart := false }
def HistSerialSaid : Prop := histSerialRow.holds Try.pinned (OpenSpec.ofChange histSerialSpec)

/-- ITS FALSE NEIGHBOUR: 'it returns false'. Refute it at one input. -/
def histSerialWrong : ChangeSpec := { name := "histSerial", fn := fun _ => fun
  | [d1, d2] => { results := [.lit (.bool false)], args := [d1, d2] }
  | _ => none }
def HistSerialWrongFalsely : Prop := histSerialRow.holds Try.pinned (OpenSpec.ofChange histSerialWrong)

/-- 'strakelaw21.HistStale': WHATEVER THE INPUT: true; the input reads as it did. -/
def histStaleSpec : ChangeSpec := { name := "histStale", fn := fun _ => fun
  | [d1, d2, d3] => { results := [.lit (.bool true)], args := [d1, d2, d3] }
  | _ => none }
def histStaleRow : OpenClaim := { program := "ytgedinpafnfmmaa", sum := "1611db7e8c587300313c6e43cc3b1bf6804a1bf2ea57411f11dabf6ba05012ec", func := "strake/strakelaw21.HistStale", spec := "histStale", unfollowed := true, recurses := true, plainKeys := false, apart := false }
def HistStaleSaid : Prop := histStaleRow.holds Try.pinned (OpenSpec.ofChange histStaleSpec)

/-- ITS FALSE NEIGHBOUR: 'it returns false'. Refute it at one input. -/
def histStaleWrong : ChangeSpec := { name := "histStale", fn := fun _ => fun
  | [d1, d2, d3] => { results := [.lit (.bool false)], args := [d1, d2, d3] }
  | _ => none }
def HistStaleWrongFalsely : Prop := histStaleRow.holds Try.pinned (OpenSpec.ofChange histStaleWrong)

/-- 'strakelaw21.HistMore': WHATEVER THE INPUT: true; the input reads as it did. -/
def histMoreSpec : ChangeSpec := { name := "histMore", fn := fun _ => fun
  | [d1, d2] => { results := [.lit (.bool true)], args := [d1, d2] }
  | _ => none }
def histMoreRow : OpenClaim := { program := "ytgedinpafnfmmaa", sum := "1611db7e8c587300313c6e43cc3b1bf6804a1bf2ea57411f11dabf6ba05012ec", func := "strake/strakelaw21.HistMore", spec := "histMore", unfollowed := true, recurses := true, plainKeys := false, apart := false }
def HistMoreSaid : Prop := histMoreRow.holds Try.pinned (OpenSpec.ofChange histMoreSpec)

/-- ITS FALSE NEIGHBOUR: 'it returns false'. Refute it at one input. -/
def histMoreWrong : ChangeSpec := { name := "histMore", fn := fun _ => fun
  | [d1, d2] => { results := [.lit (.bool false)], args := [d1, d2] }
  | _ => none }
def HistMoreWrongFalsely : Prop := histMoreRow.holds Try.pinned (OpenSpec.ofChange histMoreWrong)

/-- 'strakelaw21.HistTurned': WHATEVER THE INPUT: true; the input reads as it did. -/
def histTurnedSpec : ChangeSpec := { name := "histTurned", fn := fun _ => fun
  | [d1, d2, d3] => { results := [.lit (.bool true)], args := [d1, d2, d3] }
  | _ => none }
def histTurnedRow : OpenClaim := { program := "ytgedinpafnfmmaa", sum := "1611db7e8c587300313c6e43cc3b1bf6804a1bf2ea57411f11dabf6ba05012ec", func := "strake/strakelaw21.HistTurned", spec := "histTurned", unfollowed := true, recurses := true, plainKeys := false, apart := false }
def HistTurnedSaid : Prop := histTurnedRow.holds Try.pinned (OpenSpec.ofChange histTurnedSpec)

/-- ITS FALSE NEIGHBOUR: 'it returns false'. Refute it at one input. -/
def histTurnedWrong : ChangeSpec := { name := "histTurned", fn := fun _ => fun
  | [d1, d2, d3] => { results := [.lit (.bool false)], args := [d1, d2, d3] }
  | _ => none }
def HistTurnedWrongFalsely : Prop := histTurnedRow.holds Try.pinned (OpenSpec.ofChange histTurnedWrong)

/-- 'strakelaw21.HistOne': WHATEVER THE INPUT: true; the input reads as it did. -/
def histOneSpec : ChangeSpec := { name := "histOne", fn := fun _ => fun
  | [d] => { results := [.lit (.bool true)], args := [d] }
  | _ => none }
def histOneRow : OpenClaim := { program := "ytgedinpafnfmmaa", sum := "1611db7e8c587300313c6e43cc3b1bf6804a1bf2ea57411f11dabf6ba05012ec", func := "strake/strakelaw21.HistOne", spec := "histOne", unfollowed := true, recurses := true, plainKeys := false, apart := false }
def HistOneSaid : Prop := histOneRow.holds Try.pinned (OpenSpec.ofChange histOneSpec)

/-- ITS FALSE NEIGHBOUR: 'it returns false'. Refute it at one input. -/
def histOneWrong : ChangeSpec := { name := "histOne", fn := fun _ => fun
  | [d] => { results := [.lit (.bool false)], args := [d] }
  | _ => none }
def HistOneWrongFalsely : Prop := histOneRow.holds Try.pinned (OpenSpec.ofChange histOneWrong)

/- THE SECOND FORM. 'bulk': how many values and letters a reading holds, each counted each time it is reached (what is shared counts as often as it is met; a slice's spare places count too). A statement '..UptoSaid' is the law's where the arguments, and the package variables that the reading takes, are together of bulk at most 1048576: NARROWER than '..Said'. Prove '..Said' where nothing that the law and all that it calls make is longer than what came in: it says more and counts as full. Else prove '..UptoSaid'. A law counts once. -/
mutual
def uptoBulk {H : Type} : DataW H → Nat
  | .lit (.string bytes) => bytes.length + 1
  | .lit _ => 1
  | .nil => 1
  | .ptr d => uptoBulk d + 1
  | .slice elems spare => uptoBulkAll elems + uptoBulkAll spare + 1
  | .agg parts => uptoBulkAll parts + 1
  | .iface _ d => uptoBulk d + 1
  | .map entries => uptoBulkEntries entries + 1
  | .held _ => 1
def uptoBulkAll {H : Type} : List (DataW H) → Nat
  | [] => 0
  | d :: r => uptoBulk d + uptoBulkAll r
def uptoBulkEntries {H : Type} : List (Lit × DataW H) → Nat
  | [] => 0
  | x :: r => uptoBulkEntry x + uptoBulkEntries r
def uptoBulkEntry {H : Type} : Lit × DataW H → Nat
  | (.string bytes, d) => bytes.length + uptoBulk d + 1
  | (_, d) => uptoBulk d + 1
 end
def uptoSmall : (H : Type) → List (DataW H) → Bool := fun _ ds => decide (uptoBulkAll ds ≤ 1048576)
def OpenSpec.upto (s : _root_.Go.ChangeSpec) : _root_.Go.OpenSpec := { _root_.Go.OpenSpec.ofChange s with cond := some uptoSmall }

/-- 'strakelaw21.HistChecks', WHERE WHAT IT READS IS OF BULK AT MOST 1048576: true; the input reads as it did. -/
def histChecksUptoRow : OpenClaim := { program := "ytgedinpafnfmmaa", sum := "1611db7e8c587300313c6e43cc3b1bf6804a1bf2ea57411f11dabf6ba05012ec", func := "strake/strakelaw21.HistChecks", spec := "histChecks", unfollowed := true, recurses := true, plainKeys := false, apart := false, narrowed := true }
def HistChecksUptoSaid : Prop := histChecksUptoRow.holds Try.pinned (OpenSpec.upto histChecksSpec)

/-- 'strakelaw21.HistSerial', WHERE WHAT IT READS IS OF BULK AT MOST 1048576: true; the input reads as it did. -/
def histSerialUptoRow : OpenClaim := { program := "ytgedinpafnfmmaa", sum := "1611db7e8c587300313c6e43cc3b1bf6804a1bf2ea57411f11dabf6ba05012ec", func := "strake/strakelaw21.HistSerial", spec := "histSerial", unfollowed := true, recurses := true, plainKeys := false, apart := false, narrowed := true }
def HistSerialUptoSaid : Prop := histSerialUptoRow.holds Try.pinned (OpenSpec.upto histSerialSpec)

/-- 'strakelaw21.HistStale', WHERE WHAT IT READS IS OF BULK AT MOST 1048576: true; the input reads as it did. -/
def histStaleUptoRow : OpenClaim := { program := "ytgedinpafnfmmaa", sum := "1611db7e8c587300313c6e43cc3b1bf6804a1bf2ea57411f11dabf6ba05012ec", func := "strake/strakelaw21.HistStale", spec := "histStale", unfollowed := true, recurses := true, plainKeys := false, apart := false, narrowed := true }
def HistStaleUptoSaid : Prop := histStaleUptoRow.holds Try.pinned (OpenSpec.upto histStaleSpec)

/-- 'strakelaw21.HistMore', WHERE WHAT IT READS IS OF BULK AT MOST 1048576: true; the input reads as it did. -/
def histMoreUptoRow : OpenClaim := { program := "ytgedinpafnfmmaa", sum := "1611db7e8c587300313c6e43cc3b1bf6804a1bf2ea57411f11dabf6ba05012ec", func := "strake/strakelaw21.HistMore", spec := "histMore", unfollowed := true, recurses := true, plainKeys := false, apart := false, narrowed := true }
def HistMoreUptoSaid : Prop := histMoreUptoRow.holds Try.pinned (OpenSpec.upto histMoreSpec)

/-- 'strakelaw21.HistTurned', WHERE WHAT IT READS IS OF BULK AT MOST 1048576: true; the input reads as it did. -/
def histTurnedUptoRow : OpenClaim := { program := "ytgedinpafnfmmaa", sum := "1611db7e8c587300313c6e43cc3b1bf6804a1bf2ea57411f11dabf6ba05012ec", func := "strake/strakelaw21.HistTurned", spec := "histTurned", unfollowed := true, recurses := true, plainKeys := false, apart := false, narrowed := true }
def HistTurnedUptoSaid : Prop := histTurnedUptoRow.holds Try.pinned (OpenSpec.upto histTurnedSpec)

/-- 'strakelaw21.HistOne', WHERE WHAT IT READS IS OF BULK AT MOST 1048576: true; the input reads as it did. -/
def histOneUptoRow : OpenClaim := { program := "ytgedinpafnfmmaa", sum := "1611db7e8c587300313c6e43cc3b1bf6804a1bf2ea57411f11dabf6ba05012ec", func := "strake/strakelaw21.HistOne", spec := "histOne", unfollowed := true, recurses := true, plainKeys := false, apart := false, narrowed := true }
def HistOneUptoSaid : Prop := histOneUptoRow.holds Try.pinned (OpenSpec.upto histOneSpec)

end Rows
end Go.Proofs.Ytgedinpafnfmmaa
