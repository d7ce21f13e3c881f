/-
  No cell of these rows narrows 'for every input' (looked for: loops, veiled, ifaces, maps, wideKeys, modest, calm, conditions, laid).
  DERIVED. THE GIVEN ROWS OF THIS SEAT. 6 by the template 'for every input the law returns true; each argument reads behind the call as it read before'; 0 by the template 'total and deterministic' (their statements: YtbcjpchjidgpeaaTotals.lean).
  GIVEN WITH THE SEED: the statements are not yours to turn. If you find one false, say at which input.
  Laid BY PROGRAM, IN A SANDBOX (cutbox-rows.mjs): the forced cells as the released guide's own fill.sh prints them over the translation c2d4f24471097f72… (all of the seat's roots in one cut). By AI agents, Wed Nov 11 2026. No macro, syntax, notation, axiom, sorry.
-/
import Derived.Test.YtbcjpchjidgpeaaChecked
import GoSem.Claim
import GoSem.ClaimJoined
import GoSem.ClaimMapViews
import Derived.JoinedTies
import Derived.KernelRfl
namespace Go.Proofs.Ytbcjpchjidgpeaa
/- THE CELL 'sum', in the pinned program and in every row, IS THE sha256 OF THE DUMP (.gsa) THAT YtbcjpchjidgpeaaProg.lean LOADS. Nothing in Lean hashes anything: it is a label: what it is worth is what the hold of that sum in a sandbox is worth. -/
noncomputable def Try.pinned : Pinned := { name := "ytbcjpchjidgpeaa", sum := "c2d4f24471097f72b714d5df272e51cb7861dbc79e6414562cae79252ef39c1e", checked := Try.checked }
namespace Rows
def none {H : Type} : Left H := { results := [], args := [] }

/-- 'strakelaw13.VictimPicks': WHATEVER THE INPUT: true; the input reads as it did. -/
def victimPicksSpec : ChangeSpec := { name := "victimPicks", fn := fun _ => fun
  | [d] => { results := [.lit (.bool true)], args := [d] }
  | _ => none }
def victimPicksRow : OpenClaim := { program := "ytbcjpchjidgpeaa", sum := "c2d4f24471097f72b714d5df272e51cb7861dbc79e6414562cae79252ef39c1e", func := "strake/strakelaw13.VictimPicks", spec := "victimPicks", apart := false }
def VictimPicksSaid : Prop := victimPicksRow.holds Try.pinned (OpenSpec.ofChange victimPicksSpec)

/-- ITS FALSE NEIGHBOUR: 'it returns false'. Refute it at one input. -/
def victimPicksWrong : ChangeSpec := { name := "victimPicks", fn := fun _ => fun
  | [d] => { results := [.lit (.bool false)], args := [d] }
  | _ => none }
def VictimPicksWrongFalsely : Prop := victimPicksRow.holds Try.pinned (OpenSpec.ofChange victimPicksWrong)

/-- 'strakelaw13.VictimGains': WHATEVER THE INPUT: true; the input reads as it did. -/
def victimGainsSpec : ChangeSpec := { name := "victimGains", fn := fun _ => fun
  | [d1, d2] => { results := [.lit (.bool true)], args := [d1, d2] }
  | _ => none }
def victimGainsRow : OpenClaim := { program := "ytbcjpchjidgpeaa", sum := "c2d4f24471097f72b714d5df272e51cb7861dbc79e6414562cae79252ef39c1e", func := "strake/strakelaw13.VictimGains", spec := "victimGains", apart := false }
def VictimGainsSaid : Prop := victimGainsRow.holds Try.pinned (OpenSpec.ofChange victimGainsSpec)

/-- ITS FALSE NEIGHBOUR: 'it returns false'. Refute it at one input. -/
def victimGainsWrong : ChangeSpec := { name := "victimGains", fn := fun _ => fun
  | [d1, d2] => { results := [.lit (.bool false)], args := [d1, d2] }
  | _ => none }
def VictimGainsWrongFalsely : Prop := victimGainsRow.holds Try.pinned (OpenSpec.ofChange victimGainsWrong)

/-- 'strakelaw13.VictimOrders': WHATEVER THE INPUT: true; the input reads as it did. -/
def victimOrdersSpec : ChangeSpec := { name := "victimOrders", fn := fun _ => fun
  | [d] => { results := [.lit (.bool true)], args := [d] }
  | _ => none }
def victimOrdersRow : OpenClaim := { program := "ytbcjpchjidgpeaa", sum := "c2d4f24471097f72b714d5df272e51cb7861dbc79e6414562cae79252ef39c1e", func := "strake/strakelaw13.VictimOrders", spec := "victimOrders", unfollowed := true, recurses := true, apart := false }
def VictimOrdersSaid : Prop := victimOrdersRow.holds Try.pinned (OpenSpec.ofChange victimOrdersSpec)

/-- ITS FALSE NEIGHBOUR: 'it returns false'. Refute it at one input. -/
def victimOrdersWrong : ChangeSpec := { name := "victimOrders", fn := fun _ => fun
  | [d] => { results := [.lit (.bool false)], args := [d] }
  | _ => none }
def VictimOrdersWrongFalsely : Prop := victimOrdersRow.holds Try.pinned (OpenSpec.ofChange victimOrdersWrong)

/-- 'strakelaw13.VictimTurned': WHATEVER THE INPUT: true; the input reads as it did. -/
def victimTurnedSpec : ChangeSpec := { name := "victimTurned", fn := fun _ => fun
  | [d1, d2] => { results := [.lit (.bool true)], args := [d1, d2] }
  | _ => none }
def victimTurnedRow : OpenClaim := { program := "ytbcjpchjidgpeaa", sum := "c2d4f24471097f72b714d5df272e51cb7861dbc79e6414562cae79252ef39c1e", func := "strake/strakelaw13.VictimTurned", spec := "victimTurned", unfollowed := true, recurses := true, apart := false }
def VictimTurnedSaid : Prop := victimTurnedRow.holds Try.pinned (OpenSpec.ofChange victimTurnedSpec)

/-- ITS FALSE NEIGHBOUR: 'it returns false'. Refute it at one input. -/
def victimTurnedWrong : ChangeSpec := { name := "victimTurned", fn := fun _ => fun
  | [d1, d2] => { results := [.lit (.bool false)], args := [d1, d2] }
  | _ => none }
def VictimTurnedWrongFalsely : Prop := victimTurnedRow.holds Try.pinned (OpenSpec.ofChange victimTurnedWrong)

/-- 'strakelaw13.VictimLeast': WHATEVER THE INPUT: true; the input reads as it did. -/
def victimLeastSpec : ChangeSpec := { name := "victimLeast", fn := fun _ => fun
  | [d] => { results := [.lit (.bool true)], args := [d] }
  | _ => none }
def victimLeastRow : OpenClaim := { program := "ytbcjpchjidgpeaa", sum := "c2d4f24471097f72b714d5df272e51cb7861dbc79e6414562cae79252ef39c1e", func := "strake/strakelaw13.VictimLeast", spec := "victimLeast", unfollowed := true, recurses := true, apart := false }
def VictimLeastSaid : Prop := victimLeastRow.holds Try.pinned (OpenSpec.ofChange victimLeastSpec)

/-- ITS FALSE NEIGHBOUR: 'it returns false'. Refute it at one input. -/
def victimLeastWrong : ChangeSpec := { name := "victimLeast", fn := fun _ => fun
  | [d] => { results := [.lit (.bool false)], args := [d] }
  | _ => none }
def VictimLeastWrongFalsely : Prop := victimLeastRow.holds Try.pinned (OpenSpec.ofChange victimLeastWrong)

/-- 'strakelaw13.VictimMore': WHATEVER THE INPUT: true; the input reads as it did. -/
def victimMoreSpec : ChangeSpec := { name := "victimMore", fn := fun _ => fun
  | [d1, d2, d3] => { results := [.lit (.bool true)], args := [d1, d2, d3] }
  | _ => none }
def victimMoreRow : OpenClaim := { program := "ytbcjpchjidgpeaa", sum := "c2d4f24471097f72b714d5df272e51cb7861dbc79e6414562cae79252ef39c1e", func := "strake/strakelaw13.VictimMore", spec := "victimMore", unfollowed := true, recurses := true, apart := false }
def VictimMoreSaid : Prop := victimMoreRow.holds Try.pinned (OpenSpec.ofChange victimMoreSpec)

/-- ITS FALSE NEIGHBOUR: 'it returns false'. Refute it at one input. -/
def victimMoreWrong : ChangeSpec := { name := "victimMore", fn := fun _ => fun
  | [d1, d2, d3] => { results := [.lit (.bool false)], args := [d1, d2, d3] }
  | _ => none }
def VictimMoreWrongFalsely : Prop := victimMoreRow.holds Try.pinned (OpenSpec.ofChange victimMoreWrong)

/- THE SECOND FORM. 'bulk': how many values and letters a reading holds, each counted each time it is reached (what is shared counts as often as it is met; a slice's spare places count too). A statement '..UptoSaid' is the law's where the arguments, and the package variables that the reading takes, are together of bulk at most 1048576: NARROWER than '..Said'. Prove '..Said' where nothing that the law and all that it calls make is longer than what came in: it says more and counts as full. Else prove '..UptoSaid'. A law counts once. -/
mutual
def uptoBulk {H : Type} : DataW H → Nat
  | .lit (.string bytes) => bytes.length + 1
  | .lit _ => 1
  | .nil => 1
  | .ptr d => uptoBulk d + 1
  | .slice elems spare => uptoBulkAll elems + uptoBulkAll spare + 1
  | .agg parts => uptoBulkAll parts + 1
  | .iface _ d => uptoBulk d + 1
  | .map entries => uptoBulkEntries entries + 1
  | .held _ => 1
def uptoBulkAll {H : Type} : List (DataW H) → Nat
  | [] => 0
  | d :: r => uptoBulk d + uptoBulkAll r
def uptoBulkEntries {H : Type} : List (Lit × DataW H) → Nat
  | [] => 0
  | x :: r => uptoBulkEntry x + uptoBulkEntries r
def uptoBulkEntry {H : Type} : Lit × DataW H → Nat
  | (.string bytes, d) => bytes.length + uptoBulk d + 1
  | (_, d) => uptoBulk d + 1
 end
def uptoSmall : (H : Type) → List (DataW H) → Bool := fun _ ds => decide (uptoBulkAll ds ≤ 1048576)
def OpenSpec.upto (s : _root_.Go.ChangeSpec) : _root_.Go.OpenSpec := { _root_.Go.OpenSpec.ofChange s with cond := some uptoSmall }

/-- 'strakelaw13.VictimPicks', WHERE WHAT IT READS IS OF BULK AT MOST 1048576: true; the input reads as it did. -/
def victimPicksUptoRow : OpenClaim := { program := "ytbcjpchjidgpeaa", sum := "c2d4f24471097f72b714d5df272e51cb7861dbc79e6414562cae79252ef39c1e", func := "strake/strakelaw13.VictimPicks", spec := "victimPicks", apart := false, narrowed := true }
def VictimPicksUptoSaid : Prop := victimPicksUptoRow.holds Try.pinned (OpenSpec.upto victimPicksSpec)

/-- 'strakelaw13.VictimGains', WHERE WHAT IT READS IS OF BULK AT MOST 1048576: true; the input reads as it did. -/
def victimGainsUptoRow : OpenClaim := { program := "ytbcjpchjidgpeaa", sum := "c2d4f24471097f72b714d5df272e51cb7861dbc79e6414562cae79252ef39c1e", func := "strake/strakelaw13.VictimGains", spec := "victimGains", apart := false, narrowed := true }
def VictimGainsUptoSaid : Prop := victimGainsUptoRow.holds Try.pinned (OpenSpec.upto victimGainsSpec)

/-- 'strakelaw13.VictimOrders', WHERE WHAT IT READS IS OF BULK AT MOST 1048576: true; the input reads as it did. -/
def victimOrdersUptoRow : OpenClaim := { program := "ytbcjpchjidgpeaa", sum := "c2d4f24471097f72b714d5df272e51cb7861dbc79e6414562cae79252ef39c1e", func := "strake/strakelaw13.VictimOrders", spec := "victimOrders", unfollowed := true, recurses := true, apart := false, narrowed := true }
def VictimOrdersUptoSaid : Prop := victimOrdersUptoRow.holds Try.pinned (OpenSpec.upto victimOrdersSpec)

/-- 'strakelaw13.VictimTurned', WHERE WHAT IT READS IS OF BULK AT MOST 1048576: true; the input reads as it did. -/
def victimTurnedUptoRow : OpenClaim := { program := "ytbcjpchjidgpeaa", sum := "c2d4f24471097f72b714d5df272e51cb7861dbc79e6414562cae79252ef39c1e", func := "strake/strakelaw13.VictimTurned", spec := "victimTurned", unfollowed := true, recurses := true, apart := false, narrowed := true }
def VictimTurnedUptoSaid : Prop := victimTurnedUptoRow.holds Try.pinned (OpenSpec.upto victimTurnedSpec)

/-- 'strakelaw13.VictimLeast', WHERE WHAT IT READS IS OF BULK AT MOST 1048576: true; the input reads as it did. -/
def victimLeastUptoRow : OpenClaim := { program := "ytbcjpchjidgpeaa", sum := "c2d4f24471097f72b714d5df272e51cb7861dbc79e6414562cae79252ef39c1e", func := "strake/strakelaw13.VictimLeast", spec := "victimLeast", unfollowed := true, recurses := true, apart := false, narrowed := true }
def VictimLeastUptoSaid : Prop := victimLeastUptoRow.holds Try.pinned (OpenSpec.upto victimLeastSpec)

/-- 'strakelaw13.VictimMore', WHERE WHAT IT READS IS OF BULK AT MOST 1048576: true; the input reads as it did. -/
def victimMoreUptoRow : OpenClaim := { program := "ytbcjpchjidgpeaa", sum := "c2d4f24471097f72b714d5df272e51cb7861dbc79e6414562cae79252ef39c1e", func := "strake/strakelaw13.VictimMore", spec := "victimMore", unfollowed := true, recurses := true, apart := false, narrowed := true }
def VictimMoreUptoSaid : Prop := victimMoreUptoRow.holds Try.pinned (OpenSpec.upto victimMoreSpec)

end Rows
end Go.Proofs.Ytbcjpchjidgpeaa
