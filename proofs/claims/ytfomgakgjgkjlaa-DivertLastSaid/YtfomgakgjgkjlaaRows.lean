/-
  No cell of these rows narrows 'for every input' (looked for: loops, veiled, ifaces, maps, wideKeys, modest, calm, conditions, laid).
  DERIVED. THE GIVEN ROWS OF THIS SEAT. 4 by the template 'for every input the law returns true; each argument reads behind the call as it read before'; 0 by the template 'total and deterministic' (their statements: YtfomgakgjgkjlaaTotals.lean).
  GIVEN WITH THE SEED: the statements are not yours to turn. If you find one false, say at which input.
  Laid BY PROGRAM, IN A SANDBOX (cutbox-rows.mjs): the forced cells as the released guide's own fill.sh prints them over the translation 390da5ecee62f345… (all of the seat's roots in one cut). By AI agents, Wed Nov 11 2026. No macro, syntax, notation, axiom, sorry.
-/
import Derived.Test.YtfomgakgjgkjlaaChecked
import GoSem.Claim
import GoSem.ClaimJoined
import GoSem.ClaimMapViews
import Derived.JoinedTies
import Derived.KernelRfl
namespace Go.Proofs.Ytfomgakgjgkjlaa
/- THE CELL 'sum', in the pinned program and in every row, IS THE sha256 OF THE DUMP (.gsa) THAT YtfomgakgjgkjlaaProg.lean LOADS. Nothing in Lean hashes anything: it is a label: what it is worth is what the hold of that sum in a sandbox is worth. -/
noncomputable def Try.pinned : Pinned := { name := "ytfomgakgjgkjlaa", sum := "390da5ecee62f34587976fb17edcc9da9bf154e69e04f7f4066f483782dcd851", checked := Try.checked }
namespace Rows
def none {H : Type} : Left H := { results := [], args := [] }

/-- 'humpyardlaw31.DivertExact': WHATEVER THE INPUT: true; the input reads as it did. -/
def divertExactSpec : ChangeSpec := { name := "divertExact", fn := fun _ => fun
  | [d1, d2, d3, d4, d5] => { results := [.lit (.bool true)], args := [d1, d2, d3, d4, d5] }
  | _ => none }
def divertExactRow : OpenClaim := { program := "ytfomgakgjgkjlaa", sum := "390da5ecee62f34587976fb17edcc9da9bf154e69e04f7f4066f483782dcd851", func := "humpyard/humpyardlaw31.DivertExact", spec := "divertExact", apart := false }
def DivertExactSaid : Prop := divertExactRow.holds Try.pinned (OpenSpec.ofChange divertExactSpec)

/-- ITS FALSE NEIGHBOUR: 'it returns false'. Refute it at one input. -/
def divertExactWrong : ChangeSpec := { name := "divertExact", fn := fun _ => fun
  | [d1, d2, d3, d4, d5] => { results := [.lit (.bool false)], args := [d1, d2, d3, d4, d5] }
  | _ => none }
def DivertExactWrongFalsely : Prop := divertExactRow.holds Try.pinned (OpenSpec.ofChange divertExactWrong)

/-- 'humpyardlaw31.DivertClears': WHATEVER THE INPUT: true; the input reads as it did. -/
def divertClearsSpec : ChangeSpec := { name := "divertClears", fn := fun _ => fun
  | [d1, d2] => { results := [.lit (.bool true)], args := [d1, d2] }
  | _ => none }
def divertClearsRow : OpenClaim := { program := "ytfomgakgjgkjlaa", sum := "390da5ecee62f34587976fb17edcc9da9bf154e69e04f7f4066f483782dcd851", func := "humpyard/humpyardlaw31.DivertClears", spec := "divertClears", apart := false }
def DivertClearsSaid : Prop := divertClearsRow.holds Try.pinned (OpenSpec.ofChange divertClearsSpec)

/-- ITS FALSE NEIGHBOUR: 'it returns false'. Refute it at one input. -/
def divertClearsWrong : ChangeSpec := { name := "divertClears", fn := fun _ => fun
  | [d1, d2] => { results := [.lit (.bool false)], args := [d1, d2] }
  | _ => none }
def DivertClearsWrongFalsely : Prop := divertClearsRow.holds Try.pinned (OpenSpec.ofChange divertClearsWrong)

/-- 'humpyardlaw31.DivertLast': WHATEVER THE INPUT: true; the input reads as it did. -/
def divertLastSpec : ChangeSpec := { name := "divertLast", fn := fun _ => fun
  | [d1, d2] => { results := [.lit (.bool true)], args := [d1, d2] }
  | _ => none }
def divertLastRow : OpenClaim := { program := "ytfomgakgjgkjlaa", sum := "390da5ecee62f34587976fb17edcc9da9bf154e69e04f7f4066f483782dcd851", func := "humpyard/humpyardlaw31.DivertLast", spec := "divertLast", apart := false }
def DivertLastSaid : Prop := divertLastRow.holds Try.pinned (OpenSpec.ofChange divertLastSpec)

/-- ITS FALSE NEIGHBOUR: 'it returns false'. Refute it at one input. -/
def divertLastWrong : ChangeSpec := { name := "divertLast", fn := fun _ => fun
  | [d1, d2] => { results := [.lit (.bool false)], args := [d1, d2] }
  | _ => none }
def DivertLastWrongFalsely : Prop := divertLastRow.holds Try.pinned (OpenSpec.ofChange divertLastWrong)

/-- 'humpyardlaw31.DivertAgrees': WHATEVER THE INPUT: true; the input reads as it did. -/
def divertAgreesSpec : ChangeSpec := { name := "divertAgrees", fn := fun _ => fun
  | [d1, d2] => { results := [.lit (.bool true)], args := [d1, d2] }
  | _ => none }
def divertAgreesRow : OpenClaim := { program := "ytfomgakgjgkjlaa", sum := "390da5ecee62f34587976fb17edcc9da9bf154e69e04f7f4066f483782dcd851", func := "humpyard/humpyardlaw31.DivertAgrees", spec := "divertAgrees", apart := false }
def DivertAgreesSaid : Prop := divertAgreesRow.holds Try.pinned (OpenSpec.ofChange divertAgreesSpec)

/-- ITS FALSE NEIGHBOUR: 'it returns false'. Refute it at one input. -/
def divertAgreesWrong : ChangeSpec := { name := "divertAgrees", fn := fun _ => fun
  | [d1, d2] => { results := [.lit (.bool false)], args := [d1, d2] }
  | _ => none }
def DivertAgreesWrongFalsely : Prop := divertAgreesRow.holds Try.pinned (OpenSpec.ofChange divertAgreesWrong)

/- THE SECOND FORM. 'bulk': how many values and letters a reading holds, each counted each time it is reached (what is shared counts as often as it is met; a slice's spare places count too). A statement '..UptoSaid' is the law's where the arguments, and the package variables that the reading takes, are together of bulk at most 1048576: NARROWER than '..Said'. Prove '..Said' where nothing that the law and all that it calls make is longer than what came in: it says more and counts as full. Else prove '..UptoSaid'. A law counts once. -/
mutual
def uptoBulk {H : Type} : DataW H → Nat
  | .lit (.string bytes) => bytes.length + 1
  | .lit _ => 1
  | .nil => 1
  | .ptr d => uptoBulk d + 1
  | .slice elems spare => uptoBulkAll elems + uptoBulkAll spare + 1
  | .agg parts => uptoBulkAll parts + 1
  | .iface _ d => uptoBulk d + 1
  | .map entries => uptoBulkEntries entries + 1
  | .held _ => 1
def uptoBulkAll {H : Type} : List (DataW H) → Nat
  | [] => 0
  | d :: r => uptoBulk d + uptoBulkAll r
def uptoBulkEntries {H : Type} : List (Lit × DataW H) → Nat
  | [] => 0
  | x :: r => uptoBulkEntry x + uptoBulkEntries r
def uptoBulkEntry {H : Type} : Lit × DataW H → Nat
  | (.string bytes, d) => bytes.length + uptoBulk d + 1
  | (_, d) => uptoBulk d + 1
 end
def uptoSmall : (H : Type) → List (DataW H) → Bool := fun _ ds => decide (uptoBulkAll ds ≤ 1048576)
def OpenSpec.upto (s : _root_.Go.ChangeSpec) : _root_.Go.OpenSpec := { _root_.Go.OpenSpec.ofChange s with cond := some uptoSmall }

/-- 'humpyardlaw31.DivertExact', WHERE WHAT IT READS IS OF BULK AT MOST 1048576: true; the input reads as it did. -/
def divertExactUptoRow : OpenClaim := { program := "ytfomgakgjgkjlaa", sum := "390da5ecee62f34587976fb17edcc9da9bf154e69e04f7f4066f483782dcd851", func := "humpyard/humpyardlaw31.DivertExact", spec := "divertExact", apart := false, narrowed := true }
def DivertExactUptoSaid : Prop := divertExactUptoRow.holds Try.pinned (OpenSpec.upto divertExactSpec)

/-- 'humpyardlaw31.DivertClears', WHERE WHAT IT READS IS OF BULK AT MOST 1048576: true; the input reads as it did. -/
def divertClearsUptoRow : OpenClaim := { program := "ytfomgakgjgkjlaa", sum := "390da5ecee62f34587976fb17edcc9da9bf154e69e04f7f4066f483782dcd851", func := "humpyard/humpyardlaw31.DivertClears", spec := "divertClears", apart := false, narrowed := true }
def DivertClearsUptoSaid : Prop := divertClearsUptoRow.holds Try.pinned (OpenSpec.upto divertClearsSpec)

/-- 'humpyardlaw31.DivertLast', WHERE WHAT IT READS IS OF BULK AT MOST 1048576: true; the input reads as it did. -/
def divertLastUptoRow : OpenClaim := { program := "ytfomgakgjgkjlaa", sum := "390da5ecee62f34587976fb17edcc9da9bf154e69e04f7f4066f483782dcd851", func := "humpyard/humpyardlaw31.DivertLast", spec := "divertLast", apart := false, narrowed := true }
def DivertLastUptoSaid : Prop := divertLastUptoRow.holds Try.pinned (OpenSpec.upto divertLastSpec)

/-- 'humpyardlaw31.DivertAgrees', WHERE WHAT IT READS IS OF BULK AT MOST 1048576: true; the input reads as it did. -/
def divertAgreesUptoRow : OpenClaim := { program := "ytfomgakgjgkjlaa", sum := "390da5ecee62f34587976fb17edcc9da9bf154e69e04f7f4066f483782dcd851", func := "humpyard/humpyardlaw31.DivertAgrees", spec := "divertAgrees", apart := false, narrowed := true }
def DivertAgreesUptoSaid : Prop := divertAgreesUptoRow.holds Try.pinned (OpenSpec.upto divertAgreesSpec)

end Rows
end Go.Proofs.Ytfomgakgjgkjlaa
