/-
  No cell of these rows narrows 'for every input' (looked for: loops, veiled, ifaces, maps, wideKeys, modest, calm, conditions, laid).
  DERIVED. THE GIVEN ROWS OF THIS SEAT. 4 by the template 'for every input the law returns true; each argument reads behind the call as it read before'; 0 by the template 'total and deterministic' (their statements: YtodjacghadpbfaaTotals.lean).
  GIVEN WITH THE SEED: the statements are not yours to turn. If you find one false, say at which input.
  Laid BY PROGRAM, IN A SANDBOX (cutbox-rows.mjs): the forced cells as the released guide's own fill.sh prints them over the translation a21c20e506b5ac0d… (all of the seat's roots in one cut). By AI agents, Wed Nov 11 2026. No macro, syntax, notation, axiom, sorry.
-/
import Derived.Test.YtodjacghadpbfaaChecked
import GoSem.Claim
import GoSem.ClaimJoined
import GoSem.ClaimMapViews
import Derived.JoinedTies
import Derived.KernelRfl
namespace Go.Proofs.Ytodjacghadpbfaa
/- THE CELL 'sum', in the pinned program and in every row, IS THE sha256 OF THE DUMP (.gsa) THAT YtodjacghadpbfaaProg.lean LOADS. Nothing in Lean hashes anything: it is a label: what it is worth is what the hold of that sum in a sandbox is worth. -/
noncomputable def Try.pinned : Pinned := { name := "ytodjacghadpbfaa", sum := "a21c20e506b5ac0d503c685bee6a22b26c2965650a95b9beb94504aad4f398bc", checked := Try.checked }
namespace Rows
def none {H : Type} : Left H := { results := [], args := [] }

/-- 'humpyardlaw39.EngineExact': WHATEVER THE INPUT: true; the input reads as it did. -/
def engineExactSpec : ChangeSpec := { name := "engineExact", fn := fun _ => fun
  | [d1, d2, d3, d4] => { results := [.lit (.bool true)], args := [d1, d2, d3, d4] }
  | _ => none }
def engineExactRow : OpenClaim := { program := "ytodjacghadpbfaa", sum := "a21c20e506b5ac0d503c685bee6a22b26c2965650a95b9beb94504aad4f398bc", func := "humpyard/humpyardlaw39.EngineExact", spec := "engineExact", unfollowed := true, recurses := true, apart := false }
def EngineExactSaid : Prop := engineExactRow.holds Try.pinned (OpenSpec.ofChange engineExactSpec)

/-- ITS FALSE NEIGHBOUR: 'it returns false'. Refute it at one input. -/
def engineExactWrong : ChangeSpec := { name := "engineExact", fn := fun _ => fun
  | [d1, d2, d3, d4] => { results := [.lit (.bool false)], args := [d1, d2, d3, d4] }
  | _ => none }
def EngineExactWrongFalsely : Prop := engineExactRow.holds Try.pinned (OpenSpec.ofChange engineExactWrong)

/-- 'humpyardlaw39.EngineProves': WHATEVER THE INPUT: true; the input reads as it did. -/
def engineProvesSpec : ChangeSpec := { name := "engineProves", fn := fun _ => fun
  | [d1, d2] => { results := [.lit (.bool true)], args := [d1, d2] }
  | _ => none }
def engineProvesRow : OpenClaim := { program := "ytodjacghadpbfaa", sum := "a21c20e506b5ac0d503c685bee6a22b26c2965650a95b9beb94504aad4f398bc", func := "humpyard/humpyardlaw39.EngineProves", spec := "engineProves", unfollowed := true, recurses := true, apart := false }
def EngineProvesSaid : Prop := engineProvesRow.holds Try.pinned (OpenSpec.ofChange engineProvesSpec)

/-- ITS FALSE NEIGHBOUR: 'it returns false'. Refute it at one input. -/
def engineProvesWrong : ChangeSpec := { name := "engineProves", fn := fun _ => fun
  | [d1, d2] => { results := [.lit (.bool false)], args := [d1, d2] }
  | _ => none }
def EngineProvesWrongFalsely : Prop := engineProvesRow.holds Try.pinned (OpenSpec.ofChange engineProvesWrong)

/-- 'humpyardlaw39.EngineLeast': WHATEVER THE INPUT: true; the input reads as it did. -/
def engineLeastSpec : ChangeSpec := { name := "engineLeast", fn := fun _ => fun
  | [d1, d2, d3] => { results := [.lit (.bool true)], args := [d1, d2, d3] }
  | _ => none }
def engineLeastRow : OpenClaim := { program := "ytodjacghadpbfaa", sum := "a21c20e506b5ac0d503c685bee6a22b26c2965650a95b9beb94504aad4f398bc", func := "humpyard/humpyardlaw39.EngineLeast", spec := "engineLeast", unfollowed := true, recurses := true, apart := false }
def EngineLeastSaid : Prop := engineLeastRow.holds Try.pinned (OpenSpec.ofChange engineLeastSpec)

/-- ITS FALSE NEIGHBOUR: 'it returns false'. Refute it at one input. -/
def engineLeastWrong : ChangeSpec := { name := "engineLeast", fn := fun _ => fun
  | [d1, d2, d3] => { results := [.lit (.bool false)], args := [d1, d2, d3] }
  | _ => none }
def EngineLeastWrongFalsely : Prop := engineLeastRow.holds Try.pinned (OpenSpec.ofChange engineLeastWrong)

/-- 'humpyardlaw39.EngineTurns': WHATEVER THE INPUT: true; the input reads as it did. -/
def engineTurnsSpec : ChangeSpec := { name := "engineTurns", fn := fun _ => fun
  | [d1, d2, d3] => { results := [.lit (.bool true)], args := [d1, d2, d3] }
  | _ => none }
def engineTurnsRow : OpenClaim := { program := "ytodjacghadpbfaa", sum := "a21c20e506b5ac0d503c685bee6a22b26c2965650a95b9beb94504aad4f398bc", func := "humpyard/humpyardlaw39.EngineTurns", spec := "engineTurns", unfollowed := true, recurses := true, apart := false }
def EngineTurnsSaid : Prop := engineTurnsRow.holds Try.pinned (OpenSpec.ofChange engineTurnsSpec)

/-- ITS FALSE NEIGHBOUR: 'it returns false'. Refute it at one input. -/
def engineTurnsWrong : ChangeSpec := { name := "engineTurns", fn := fun _ => fun
  | [d1, d2, d3] => { results := [.lit (.bool false)], args := [d1, d2, d3] }
  | _ => none }
def EngineTurnsWrongFalsely : Prop := engineTurnsRow.holds Try.pinned (OpenSpec.ofChange engineTurnsWrong)

/- THE SECOND FORM. 'bulk': how many values and letters a reading holds, each counted each time it is reached (what is shared counts as often as it is met; a slice's spare places count too). A statement '..UptoSaid' is the law's where the arguments, and the package variables that the reading takes, are together of bulk at most 1048576: NARROWER than '..Said'. Prove '..Said' where nothing that the law and all that it calls make is longer than what came in: it says more and counts as full. Else prove '..UptoSaid'. A law counts once. -/
mutual
def uptoBulk {H : Type} : DataW H → Nat
  | .lit (.string bytes) => bytes.length + 1
  | .lit _ => 1
  | .nil => 1
  | .ptr d => uptoBulk d + 1
  | .slice elems spare => uptoBulkAll elems + uptoBulkAll spare + 1
  | .agg parts => uptoBulkAll parts + 1
  | .iface _ d => uptoBulk d + 1
  | .map entries => uptoBulkEntries entries + 1
  | .held _ => 1
def uptoBulkAll {H : Type} : List (DataW H) → Nat
  | [] => 0
  | d :: r => uptoBulk d + uptoBulkAll r
def uptoBulkEntries {H : Type} : List (Lit × DataW H) → Nat
  | [] => 0
  | x :: r => uptoBulkEntry x + uptoBulkEntries r
def uptoBulkEntry {H : Type} : Lit × DataW H → Nat
  | (.string bytes, d) => bytes.length + uptoBulk d + 1
  | (_, d) => uptoBulk d + 1
 end
def uptoSmall : (H : Type) → List (DataW H) → Bool := fun _ ds => decide (uptoBulkAll ds ≤ 1048576)
def OpenSpec.upto (s : _root_.Go.ChangeSpec) : _root_.Go.OpenSpec := { _root_.Go.OpenSpec.ofChange s with cond := some uptoSmall }

/-- 'humpyardlaw39.EngineExact', WHERE WHAT IT READS IS OF BULK AT MOST 1048576: true; the input reads as it did. -/
def engineExactUptoRow : OpenClaim := { program := "ytodjacghadpbfaa", sum := "a21c20e506b5ac0d503c685bee6a22b26c2965650a95b9beb94504aad4f398bc", func := "humpyard/humpyardlaw39.EngineExact", spec := "engineExact", unfollowed := true, recurses := true, apart := false, narrowed := true }
def EngineExactUptoSaid : Prop := engineExactUptoRow.holds Try.pinned (OpenSpec.upto engineExactSpec)

/-- 'humpyardlaw39.EngineProves', WHERE WHAT IT READS IS OF BULK AT MOST 1048576: true; the input reads as it did. -/
def engineProvesUptoRow : OpenClaim := { program := "ytodjacghadpbfaa", sum := "a21c20e506b5ac0d503c685bee6a22b26c2965650a95b9beb94504aad4f398bc", func := "humpyard/humpyardlaw39.EngineProves", spec := "engineProves", unfollowed := true, recurses := true, apart := false, narrowed := true }
def EngineProvesUptoSaid : Prop := engineProvesUptoRow.holds Try.pinned (OpenSpec.upto engineProvesSpec)

/-- 'humpyardlaw39.EngineLeast', WHERE WHAT IT READS IS OF BULK AT MOST 1048576: true; the input reads as it did. -/
def engineLeastUptoRow : OpenClaim := { program := "ytodjacghadpbfaa", sum := "a21c20e506b5ac0d503c685bee6a22b26c2965650a95b9beb94504aad4f398bc", func := "humpyard/humpyardlaw39.EngineLeast", spec := "engineLeast", unfollowed := true, recurses := true, apart := false, narrowed := true }
def EngineLeastUptoSaid : Prop := engineLeastUptoRow.holds Try.pinned (OpenSpec.upto engineLeastSpec)

/-- 'humpyardlaw39.EngineTurns', WHERE WHAT IT READS IS OF BULK AT MOST 1048576: true; the input reads as it did. -/
def engineTurnsUptoRow : OpenClaim := { program := "ytodjacghadpbfaa", sum := "a21c20e506b5ac0d503c685bee6a22b26c2965650a95b9beb94504aad4f398bc", func := "humpyard/humpyardlaw39.EngineTurns", spec := "engineTurns", unfollowed := true, recurses := true, apart := false, narrowed := true }
def EngineTurnsUptoSaid : Prop := engineTurnsUptoRow.holds Try.pinned (OpenSpec.upto engineTurnsSpec)

end Rows
end Go.Proofs.Ytodjacghadpbfaa
