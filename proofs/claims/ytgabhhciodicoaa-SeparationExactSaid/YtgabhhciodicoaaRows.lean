/-
  No cell of these rows narrows 'for every input' (looked for: loops, veiled, ifaces, maps, wideKeys, modest, calm, conditions, laid).
  DERIVED. THE GIVEN ROWS OF THIS SEAT. 6 by the template 'for every input the law returns true; each argument reads behind the call as it read before'; 0 by the template 'total and deterministic' (their statements: YtgabhhciodicoaaTotals.lean).
  GIVEN WITH THE SEED: the statements are not yours to turn. If you find one false, say at which input.
  Laid BY PROGRAM, IN A SANDBOX (cutbox-rows.mjs): the forced cells as the released guide's own fill.sh prints them over the translation 0f48baabffa751ed… (all of the seat's roots in one cut). By AI agents, Wed Nov 11 2026. No macro, syntax, notation, axiom, sorry.
-/
import Derived.Test.YtgabhhciodicoaaChecked
import GoSem.Claim
import GoSem.ClaimJoined
import GoSem.ClaimMapViews
import Derived.JoinedTies
import Derived.KernelRfl
namespace Go.Proofs.Ytgabhhciodicoaa
/- THE CELL 'sum', in the pinned program and in every row, IS THE sha256 OF THE DUMP (.gsa) THAT YtgabhhciodicoaaProg.lean LOADS. Nothing in Lean hashes anything: it is a label: what it is worth is what the hold of that sum in a sandbox is worth. -/
noncomputable def Try.pinned : Pinned := { name := "ytgabhhciodicoaa", sum := "0f48baabffa751edd0fa6f61cfba4409e2358459493c2fb4be3248a6c112bbbf", checked := Try.checked }
namespace Rows
def none {H : Type} : Left H := { results := [], args := [] }

/-- 'humpyardlaw23.SeparationGaps': WHATEVER THE INPUT: true; the input reads as it did. -/
def separationGapsSpec : ChangeSpec := { name := "separationGaps", fn := fun _ => fun
  | [d1, d2] => { results := [.lit (.bool true)], args := [d1, d2] }
  | _ => none }
def separationGapsRow : OpenClaim := { program := "ytgabhhciodicoaa", sum := "0f48baabffa751edd0fa6f61cfba4409e2358459493c2fb4be3248a6c112bbbf", func := "humpyard/humpyardlaw23.SeparationGaps", spec := "separationGaps", apart := false }
def SeparationGapsSaid : Prop := separationGapsRow.holds Try.pinned (OpenSpec.ofChange separationGapsSpec)

/-- ITS FALSE NEIGHBOUR: 'it returns false'. Refute it at one input. -/
def separationGapsWrong : ChangeSpec := { name := "separationGaps", fn := fun _ => fun
  | [d1, d2] => { results := [.lit (.bool false)], args := [d1, d2] }
  | _ => none }
def SeparationGapsWrongFalsely : Prop := separationGapsRow.holds Try.pinned (OpenSpec.ofChange separationGapsWrong)

/-- 'humpyardlaw23.SeparationProves': WHATEVER THE INPUT: true; the input reads as it did. -/
def separationProvesSpec : ChangeSpec := { name := "separationProves", fn := fun _ => fun
  | [d1, d2] => { results := [.lit (.bool true)], args := [d1, d2] }
  | _ => none }
def separationProvesRow : OpenClaim := { program := "ytgabhhciodicoaa", sum := "0f48baabffa751edd0fa6f61cfba4409e2358459493c2fb4be3248a6c112bbbf", func := "humpyard/humpyardlaw23.SeparationProves", spec := "separationProves", apart := false }
def SeparationProvesSaid : Prop := separationProvesRow.holds Try.pinned (OpenSpec.ofChange separationProvesSpec)

/-- ITS FALSE NEIGHBOUR: 'it returns false'. Refute it at one input. -/
def separationProvesWrong : ChangeSpec := { name := "separationProves", fn := fun _ => fun
  | [d1, d2] => { results := [.lit (.bool false)], args := [d1, d2] }
  | _ => none }
def SeparationProvesWrongFalsely : Prop := separationProvesRow.holds Try.pinned (OpenSpec.ofChange separationProvesWrong)

/-- 'humpyardlaw23.SeparationKeeps': WHATEVER THE INPUT: true; the input reads as it did. -/
def separationKeepsSpec : ChangeSpec := { name := "separationKeeps", fn := fun _ => fun
  | [d] => { results := [.lit (.bool true)], args := [d] }
  | _ => none }
def separationKeepsRow : OpenClaim := { program := "ytgabhhciodicoaa", sum := "0f48baabffa751edd0fa6f61cfba4409e2358459493c2fb4be3248a6c112bbbf", func := "humpyard/humpyardlaw23.SeparationKeeps", spec := "separationKeeps", apart := false }
def SeparationKeepsSaid : Prop := separationKeepsRow.holds Try.pinned (OpenSpec.ofChange separationKeepsSpec)

/-- ITS FALSE NEIGHBOUR: 'it returns false'. Refute it at one input. -/
def separationKeepsWrong : ChangeSpec := { name := "separationKeeps", fn := fun _ => fun
  | [d] => { results := [.lit (.bool false)], args := [d] }
  | _ => none }
def SeparationKeepsWrongFalsely : Prop := separationKeepsRow.holds Try.pinned (OpenSpec.ofChange separationKeepsWrong)

/-- 'humpyardlaw23.SeparationExact': WHATEVER THE INPUT: true; the input reads as it did. -/
def separationExactSpec : ChangeSpec := { name := "separationExact", fn := fun _ => fun
  | [d1, d2, d3, d4, d5] => { results := [.lit (.bool true)], args := [d1, d2, d3, d4, d5] }
  | _ => none }
def separationExactRow : OpenClaim := { program := "ytgabhhciodicoaa", sum := "0f48baabffa751edd0fa6f61cfba4409e2358459493c2fb4be3248a6c112bbbf", func := "humpyard/humpyardlaw23.SeparationExact", spec := "separationExact", apart := false }
def SeparationExactSaid : Prop := separationExactRow.holds Try.pinned (OpenSpec.ofChange separationExactSpec)

/-- ITS FALSE NEIGHBOUR: 'it returns false'. Refute it at one input. -/
def separationExactWrong : ChangeSpec := { name := "separationExact", fn := fun _ => fun
  | [d1, d2, d3, d4, d5] => { results := [.lit (.bool false)], args := [d1, d2, d3, d4, d5] }
  | _ => none }
def SeparationExactWrongFalsely : Prop := separationExactRow.holds Try.pinned (OpenSpec.ofChange separationExactWrong)

/-- 'humpyardlaw23.SeparationLeast': WHATEVER THE INPUT: true; the input reads as it did. -/
def separationLeastSpec : ChangeSpec := { name := "separationLeast", fn := fun _ => fun
  | [d1, d2] => { results := [.lit (.bool true)], args := [d1, d2] }
  | _ => none }
def separationLeastRow : OpenClaim := { program := "ytgabhhciodicoaa", sum := "0f48baabffa751edd0fa6f61cfba4409e2358459493c2fb4be3248a6c112bbbf", func := "humpyard/humpyardlaw23.SeparationLeast", spec := "separationLeast", apart := false }
def SeparationLeastSaid : Prop := separationLeastRow.holds Try.pinned (OpenSpec.ofChange separationLeastSpec)

/-- ITS FALSE NEIGHBOUR: 'it returns false'. Refute it at one input. -/
def separationLeastWrong : ChangeSpec := { name := "separationLeast", fn := fun _ => fun
  | [d1, d2] => { results := [.lit (.bool false)], args := [d1, d2] }
  | _ => none }
def SeparationLeastWrongFalsely : Prop := separationLeastRow.holds Try.pinned (OpenSpec.ofChange separationLeastWrong)

/-- 'humpyardlaw23.SeparationTight': WHATEVER THE INPUT: true; the input reads as it did. -/
def separationTightSpec : ChangeSpec := { name := "separationTight", fn := fun _ => fun
  | [d1, d2] => { results := [.lit (.bool true)], args := [d1, d2] }
  | _ => none }
def separationTightRow : OpenClaim := { program := "ytgabhhciodicoaa", sum := "0f48baabffa751edd0fa6f61cfba4409e2358459493c2fb4be3248a6c112bbbf", func := "humpyard/humpyardlaw23.SeparationTight", spec := "separationTight", apart := false }
def SeparationTightSaid : Prop := separationTightRow.holds Try.pinned (OpenSpec.ofChange separationTightSpec)

/-- ITS FALSE NEIGHBOUR: 'it returns false'. Refute it at one input. -/
def separationTightWrong : ChangeSpec := { name := "separationTight", fn := fun _ => fun
  | [d1, d2] => { results := [.lit (.bool false)], args := [d1, d2] }
  | _ => none }
def SeparationTightWrongFalsely : Prop := separationTightRow.holds Try.pinned (OpenSpec.ofChange separationTightWrong)

/- THE SECOND FORM. 'bulk': how many values and letters a reading holds, each counted each time it is reached (what is shared counts as often as it is met; a slice's spare places count too). A statement '..UptoSaid' is the law's where the arguments, and the package variables that the reading takes, are together of bulk at most 1048576: NARROWER than '..Said'. Prove '..Said' where nothing that the law and all that it calls make is longer than what came in: it says more and counts as full. Else prove '..UptoSaid'. A law counts once. -/
mutual
def uptoBulk {H : Type} : DataW H → Nat
  | .lit (.string bytes) => bytes.length + 1
  | .lit _ => 1
  | .nil => 1
  | .ptr d => uptoBulk d + 1
  | .slice elems spare => uptoBulkAll elems + uptoBulkAll spare + 1
  | .agg parts => uptoBulkAll parts + 1
  | .iface _ d => uptoBulk d + 1
  | .map entries => uptoBulkEntries entries + 1
  | .held _ => 1
def uptoBulkAll {H : Type} : List (DataW H) → Nat
  | [] => 0
  | d :: r => uptoBulk d + uptoBulkAll r
def uptoBulkEntries {H : Type} : List (Lit × DataW H) → Nat
  | [] => 0
  | x :: r => uptoBulkEntry x + uptoBulkEntries r
def uptoBulkEntry {H : Type} : Lit × DataW H → Nat
  | (.string bytes, d) => bytes.length + uptoBulk d + 1
  | (_, d) => uptoBulk d + 1
 end
def uptoSmall : (H : Type) → List (DataW H) → Bool := fun _ ds => decide (uptoBulkAll ds ≤ 1048576)
def OpenSpec.upto (s : _root_.Go.ChangeSpec) : _root_.Go.OpenSpec := { _root_.Go.OpenSpec.ofChange s with cond := some uptoSmall }

/-- 'humpyardlaw23.SeparationGaps', WHERE WHAT IT READS IS OF BULK AT MOST 1048576: true; the input reads as it did. -/
def separationGapsUptoRow : OpenClaim := { program := "ytgabhhciodicoaa", sum := "0f48baabffa751edd0fa6f61cfba4409e2358459493c2fb4be3248a6c112bbbf", func := "humpyard/humpyardlaw23.SeparationGaps", spec := "separationGaps", apart := false, narrowed := true }
def SeparationGapsUptoSaid : Prop := separationGapsUptoRow.holds Try.pinned (OpenSpec.upto separationGapsSpec)

/-- 'humpyardlaw23.SeparationProves', WHERE WHAT IT READS IS OF BULK AT MOST 1048576: true; the input reads as it did. -/
def separationProvesUptoRow : OpenClaim := { program := "ytgabhhciodicoaa", sum := "0f48baabffa751edd0fa6f61cfba4409e2358459493c2fb4be3248a6c112bbbf", func := "humpyard/humpyardlaw23.SeparationProves", spec := "separationProves", apart := false, narrowed := true }
def SeparationProvesUptoSaid : Prop := separationProvesUptoRow.holds Try.pinned (OpenSpec.upto separationProvesSpec)

/-- 'humpyardlaw23.SeparationKeeps', WHERE WHAT IT READS IS OF BULK AT MOST 1048576: true; the input reads as it did. -/
def separationKeepsUptoRow : OpenClaim := { program := "ytgabhhciodicoaa", sum := "0f48baabffa751edd0fa6f61cfba4409e2358459493c2fb4be3248a6c112bbbf", func := "humpyard/humpyardlaw23.SeparationKeeps", spec := "separationKeeps", apart := false, narrowed := true }
def SeparationKeepsUptoSaid : Prop := separationKeepsUptoRow.holds Try.pinned (OpenSpec.upto separationKeepsSpec)

/-- 'humpyardlaw23.SeparationExact', WHERE WHAT IT READS IS OF BULK AT MOST 1048576: true; the input reads as it did. -/
def separationExactUptoRow : OpenClaim := { program := "ytgabhhciodicoaa", sum := "0f48baabffa751edd0fa6f61cfba4409e2358459493c2fb4be3248a6c112bbbf", func := "humpyard/humpyardlaw23.SeparationExact", spec := "separationExact", apart := false, narrowed := true }
def SeparationExactUptoSaid : Prop := separationExactUptoRow.holds Try.pinned (OpenSpec.upto separationExactSpec)

/-- 'humpyardlaw23.SeparationLeast', WHERE WHAT IT READS IS OF BULK AT MOST 1048576: true; the input reads as it did. -/
def separationLeastUptoRow : OpenClaim := { program := "ytgabhhciodicoaa", sum := "0f48baabffa751edd0fa6f61cfba4409e2358459493c2fb4be3248a6c112bbbf", func := "humpyard/humpyardlaw23.SeparationLeast", spec := "separationLeast", apart := false, narrowed := true }
def SeparationLeastUptoSaid : Prop := separationLeastUptoRow.holds Try.pinned (OpenSpec.upto separationLeastSpec)

/-- 'humpyardlaw23.SeparationTight', WHERE WHAT IT READS IS OF BULK AT MOST 1048576: true; the input reads as it did. -/
def separationTightUptoRow : OpenClaim := { program := "ytgabhhciodicoaa", sum := "0f48baabffa751edd0fa6f61cfba4409e2358459493c2fb4be3248a6c112bbbf", func := "humpyard/humpyardlaw23.SeparationTight", spec := "separationTight", apart := false, narrowed := true }
def SeparationTightUptoSaid : Prop := separationTightUptoRow.holds Try.pinned (OpenSpec.upto separationTightSpec)

end Rows
end Go.Proofs.Ytgabhhciodicoaa
