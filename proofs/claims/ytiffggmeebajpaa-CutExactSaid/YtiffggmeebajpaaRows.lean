/-
  No cell of these rows narrows 'for every input' (looked for: loops, veiled, ifaces, maps, wideKeys, modest, calm, conditions, laid).
  DERIVED. THE GIVEN ROWS OF THIS SEAT. 6 by the template 'for every input the law returns true; each argument reads behind the call as it read before'; 0 by the template 'total and deterministic' (their statements: YtiffggmeebajpaaTotals.lean).
  GIVEN WITH THE SEED: the statements are not yours to turn. If you find one false, say at which input.
  Laid BY PROGRAM, IN A SANDBOX (cutbox-rows.mjs): the forced cells as the released guide's own fill.sh prints them over the translation 70e7008798809f4d… (all of the seat's roots in one cut). By AI agents, Wed Nov 11 2026. No macro, syntax, notation, axiom, sorry.
-/
import Derived.Test.YtiffggmeebajpaaChecked
import GoSem.Claim
import GoSem.ClaimJoined
import GoSem.ClaimMapViews
import Derived.JoinedTies
import Derived.KernelRfl
namespace Go.Proofs.Ytiffggmeebajpaa
/- THE CELL 'sum', in the pinned program and in every row, IS THE sha256 OF THE DUMP (.gsa) THAT YtiffggmeebajpaaProg.lean LOADS. Nothing in Lean hashes anything: it is a label: what it is worth is what the hold of that sum in a sandbox is worth. -/
noncomputable def Try.pinned : Pinned := { name := "ytiffggmeebajpaa", sum := "70e7008798809f4df84cc3a7c5fda2dfa9810a5e2e67cba0bd35f76c2b639e87", checked := Try.checked }
namespace Rows
def none {H : Type} : Left H := { results := [], args := [] }

/-- 'humpyardlaw18.CutLimits': WHATEVER THE INPUT: true; the input reads as it did. -/
def cutLimitsSpec : ChangeSpec := { name := "cutLimits", fn := fun _ => fun
  | [d1, d2, d3] => { results := [.lit (.bool true)], args := [d1, d2, d3] }
  | _ => none }
def cutLimitsRow : OpenClaim := { program := "ytiffggmeebajpaa", sum := "70e7008798809f4df84cc3a7c5fda2dfa9810a5e2e67cba0bd35f76c2b639e87", func := "humpyard/humpyardlaw18.CutLimits", spec := "cutLimits", apart := false }
def CutLimitsSaid : Prop := cutLimitsRow.holds Try.pinned (OpenSpec.ofChange cutLimitsSpec)

/-- ITS FALSE NEIGHBOUR: 'it returns false'. Refute it at one input. -/
def cutLimitsWrong : ChangeSpec := { name := "cutLimits", fn := fun _ => fun
  | [d1, d2, d3] => { results := [.lit (.bool false)], args := [d1, d2, d3] }
  | _ => none }
def CutLimitsWrongFalsely : Prop := cutLimitsRow.holds Try.pinned (OpenSpec.ofChange cutLimitsWrong)

/-- 'humpyardlaw18.CutJoins': WHATEVER THE INPUT: true; the input reads as it did. -/
def cutJoinsSpec : ChangeSpec := { name := "cutJoins", fn := fun _ => fun
  | [d] => { results := [.lit (.bool true)], args := [d] }
  | _ => none }
def cutJoinsRow : OpenClaim := { program := "ytiffggmeebajpaa", sum := "70e7008798809f4df84cc3a7c5fda2dfa9810a5e2e67cba0bd35f76c2b639e87", func := "humpyard/humpyardlaw18.CutJoins", spec := "cutJoins", apart := false }
def CutJoinsSaid : Prop := cutJoinsRow.holds Try.pinned (OpenSpec.ofChange cutJoinsSpec)

/-- ITS FALSE NEIGHBOUR: 'it returns false'. Refute it at one input. -/
def cutJoinsWrong : ChangeSpec := { name := "cutJoins", fn := fun _ => fun
  | [d] => { results := [.lit (.bool false)], args := [d] }
  | _ => none }
def CutJoinsWrongFalsely : Prop := cutJoinsRow.holds Try.pinned (OpenSpec.ofChange cutJoinsWrong)

/-- 'humpyardlaw18.CutParts': WHATEVER THE INPUT: true; the input reads as it did. -/
def cutPartsSpec : ChangeSpec := { name := "cutParts", fn := fun _ => fun
  | [d] => { results := [.lit (.bool true)], args := [d] }
  | _ => none }
def cutPartsRow : OpenClaim := { program := "ytiffggmeebajpaa", sum := "70e7008798809f4df84cc3a7c5fda2dfa9810a5e2e67cba0bd35f76c2b639e87", func := "humpyard/humpyardlaw18.CutParts", spec := "cutParts", apart := false }
def CutPartsSaid : Prop := cutPartsRow.holds Try.pinned (OpenSpec.ofChange cutPartsSpec)

/-- ITS FALSE NEIGHBOUR: 'it returns false'. Refute it at one input. -/
def cutPartsWrong : ChangeSpec := { name := "cutParts", fn := fun _ => fun
  | [d] => { results := [.lit (.bool false)], args := [d] }
  | _ => none }
def CutPartsWrongFalsely : Prop := cutPartsRow.holds Try.pinned (OpenSpec.ofChange cutPartsWrong)

/-- 'humpyardlaw18.CutFewest': WHATEVER THE INPUT: true; the input reads as it did. -/
def cutFewestSpec : ChangeSpec := { name := "cutFewest", fn := fun _ => fun
  | [d] => { results := [.lit (.bool true)], args := [d] }
  | _ => none }
def cutFewestRow : OpenClaim := { program := "ytiffggmeebajpaa", sum := "70e7008798809f4df84cc3a7c5fda2dfa9810a5e2e67cba0bd35f76c2b639e87", func := "humpyard/humpyardlaw18.CutFewest", spec := "cutFewest", apart := false }
def CutFewestSaid : Prop := cutFewestRow.holds Try.pinned (OpenSpec.ofChange cutFewestSpec)

/-- ITS FALSE NEIGHBOUR: 'it returns false'. Refute it at one input. -/
def cutFewestWrong : ChangeSpec := { name := "cutFewest", fn := fun _ => fun
  | [d] => { results := [.lit (.bool false)], args := [d] }
  | _ => none }
def CutFewestWrongFalsely : Prop := cutFewestRow.holds Try.pinned (OpenSpec.ofChange cutFewestWrong)

/-- 'humpyardlaw18.CutExact': WHATEVER THE INPUT: true; the input reads as it did. -/
def cutExactSpec : ChangeSpec := { name := "cutExact", fn := fun _ => fun
  | [d1, d2, d3, d4, d5, d6] => { results := [.lit (.bool true)], args := [d1, d2, d3, d4, d5, d6] }
  | _ => none }
def cutExactRow : OpenClaim := { program := "ytiffggmeebajpaa", sum := "70e7008798809f4df84cc3a7c5fda2dfa9810a5e2e67cba0bd35f76c2b639e87", func := "humpyard/humpyardlaw18.CutExact", spec := "cutExact", apart := false }
def CutExactSaid : Prop := cutExactRow.holds Try.pinned (OpenSpec.ofChange cutExactSpec)

/-- ITS FALSE NEIGHBOUR: 'it returns false'. Refute it at one input. -/
def cutExactWrong : ChangeSpec := { name := "cutExact", fn := fun _ => fun
  | [d1, d2, d3, d4, d5, d6] => { results := [.lit (.bool false)], args := [d1, d2, d3, d4, d5, d6] }
  | _ => none }
def CutExactWrongFalsely : Prop := cutExactRow.holds Try.pinned (OpenSpec.ofChange cutExactWrong)

/-- 'humpyardlaw18.CutWitness': WHATEVER THE INPUT: true; the input reads as it did. -/
def cutWitnessSpec : ChangeSpec := { name := "cutWitness", fn := fun _ => fun
  | [d] => { results := [.lit (.bool true)], args := [d] }
  | _ => none }
def cutWitnessRow : OpenClaim := { program := "ytiffggmeebajpaa", sum := "70e7008798809f4df84cc3a7c5fda2dfa9810a5e2e67cba0bd35f76c2b639e87", func := "humpyard/humpyardlaw18.CutWitness", spec := "cutWitness", apart := false }
def CutWitnessSaid : Prop := cutWitnessRow.holds Try.pinned (OpenSpec.ofChange cutWitnessSpec)

/-- ITS FALSE NEIGHBOUR: 'it returns false'. Refute it at one input. -/
def cutWitnessWrong : ChangeSpec := { name := "cutWitness", fn := fun _ => fun
  | [d] => { results := [.lit (.bool false)], args := [d] }
  | _ => none }
def CutWitnessWrongFalsely : Prop := cutWitnessRow.holds Try.pinned (OpenSpec.ofChange cutWitnessWrong)

/- THE SECOND FORM. 'bulk': how many values and letters a reading holds, each counted each time it is reached (what is shared counts as often as it is met; a slice's spare places count too). A statement '..UptoSaid' is the law's where the arguments, and the package variables that the reading takes, are together of bulk at most 1048576: NARROWER than '..Said'. Prove '..Said' where nothing that the law and all that it calls make is longer than what came in: it says more and counts as full. Else prove '..UptoSaid'. A law counts once. -/
mutual
def uptoBulk {H : Type} : DataW H → Nat
  | .lit (.string bytes) => bytes.length + 1
  | .lit _ => 1
  | .nil => 1
  | .ptr d => uptoBulk d + 1
  | .slice elems spare => uptoBulkAll elems + uptoBulkAll spare + 1
  | .agg parts => uptoBulkAll parts + 1
  | .iface _ d => uptoBulk d + 1
  | .map entries => uptoBulkEntries entries + 1
  | .held _ => 1
def uptoBulkAll {H : Type} : List (DataW H) → Nat
  | [] => 0
  | d :: r => uptoBulk d + uptoBulkAll r
def uptoBulkEntries {H : Type} : List (Lit × DataW H) → Nat
  | [] => 0
  | x :: r => uptoBulkEntry x + uptoBulkEntries r
def uptoBulkEntry {H : Type} : Lit × DataW H → Nat
  | (.string bytes, d) => bytes.length + uptoBulk d + 1
  | (_, d) => uptoBulk d + 1
 end
def uptoSmall : (H : Type) → List (DataW H) → Bool := fun _ ds => decide (uptoBulkAll ds ≤ 1048576)
def OpenSpec.upto (s : _root_.Go.ChangeSpec) : _root_.Go.OpenSpec := { _root_.Go.OpenSpec.ofChange s with cond := some uptoSmall }

/-- 'humpyardlaw18.CutLimits', WHERE WHAT IT READS IS OF BULK AT MOST 1048576: true; the input reads as it did. -/
def cutLimitsUptoRow : OpenClaim := { program := "ytiffggmeebajpaa", sum := "70e7008798809f4df84cc3a7c5fda2dfa9810a5e2e67cba0bd35f76c2b639e87", func := "humpyard/humpyardlaw18.CutLimits", spec := "cutLimits", apart := false, narrowed := true }
def CutLimitsUptoSaid : Prop := cutLimitsUptoRow.holds Try.pinned (OpenSpec.upto cutLimitsSpec)

/-- 'humpyardlaw18.CutJoins', WHERE WHAT IT READS IS OF BULK AT MOST 1048576: true; the input reads as it did. -/
def cutJoinsUptoRow : OpenClaim := { program := "ytiffggmeebajpaa", sum := "70e7008798809f4df84cc3a7c5fda2dfa9810a5e2e67cba0bd35f76c2b639e87", func := "humpyard/humpyardlaw18.CutJoins", spec := "cutJoins", apart := false, narrowed := true }
def CutJoinsUptoSaid : Prop := cutJoinsUptoRow.holds Try.pinned (OpenSpec.upto cutJoinsSpec)

/-- 'humpyardlaw18.CutParts', WHERE WHAT IT READS IS OF BULK AT MOST 1048576: true; the input reads as it did. -/
def cutPartsUptoRow : OpenClaim := { program := "ytiffggmeebajpaa", sum := "70e7008798809f4df84cc3a7c5fda2dfa9810a5e2e67cba0bd35f76c2b639e87", func := "humpyard/humpyardlaw18.CutParts", spec := "cutParts", apart := false, narrowed := true }
def CutPartsUptoSaid : Prop := cutPartsUptoRow.holds Try.pinned (OpenSpec.upto cutPartsSpec)

/-- 'humpyardlaw18.CutFewest', WHERE WHAT IT READS IS OF BULK AT MOST 1048576: true; the input reads as it did. -/
def cutFewestUptoRow : OpenClaim := { program := "ytiffggmeebajpaa", sum := "70e7008798809f4df84cc3a7c5fda2dfa9810a5e2e67cba0bd35f76c2b639e87", func := "humpyard/humpyardlaw18.CutFewest", spec := "cutFewest", apart := false, narrowed := true }
def CutFewestUptoSaid : Prop := cutFewestUptoRow.holds Try.pinned (OpenSpec.upto cutFewestSpec)

/-- 'humpyardlaw18.CutExact', WHERE WHAT IT READS IS OF BULK AT MOST 1048576: true; the input reads as it did. -/
def cutExactUptoRow : OpenClaim := { program := "ytiffggmeebajpaa", sum := "70e7008798809f4df84cc3a7c5fda2dfa9810a5e2e67cba0bd35f76c2b639e87", func := "humpyard/humpyardlaw18.CutExact", spec := "cutExact", apart := false, narrowed := true }
def CutExactUptoSaid : Prop := cutExactUptoRow.holds Try.pinned (OpenSpec.upto cutExactSpec)

/-- 'humpyardlaw18.CutWitness', WHERE WHAT IT READS IS OF BULK AT MOST 1048576: true; the input reads as it did. -/
def cutWitnessUptoRow : OpenClaim := { program := "ytiffggmeebajpaa", sum := "70e7008798809f4df84cc3a7c5fda2dfa9810a5e2e67cba0bd35f76c2b639e87", func := "humpyard/humpyardlaw18.CutWitness", spec := "cutWitness", apart := false, narrowed := true }
def CutWitnessUptoSaid : Prop := cutWitnessUptoRow.holds Try.pinned (OpenSpec.upto cutWitnessSpec)

end Rows
end Go.Proofs.Ytiffggmeebajpaa
