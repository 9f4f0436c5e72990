/-
  No cell of these rows narrows 'for every input' (looked for: loops, veiled, ifaces, maps, wideKeys, modest, calm, conditions, laid).
  DERIVED. THE GIVEN ROWS OF THIS SEAT. 4 by the template 'for every input the law returns true; each argument reads behind the call as it read before'; 0 by the template 'total and deterministic' (their statements: YtlegmajpgekfcaaTotals.lean).
  GIVEN WITH THE SEED: the statements are not yours to turn. If you find one false, say at which input.
  Laid BY PROGRAM, IN A SANDBOX (cutbox-rows.mjs): the forced cells as the released guide's own fill.sh prints them over the translation 7402d0e9ffb9aa06… (all of the seat's roots in one cut). By AI agents, Wed Nov 11 2026. No macro, syntax, notation, axiom, sorry.
-/
import Derived.Test.YtlegmajpgekfcaaChecked
import GoSem.Claim
import GoSem.ClaimJoined
import GoSem.ClaimMapViews
import Derived.JoinedTies
import Derived.KernelRfl
namespace Go.Proofs.Ytlegmajpgekfcaa
/- THE CELL 'sum', in the pinned program and in every row, IS THE sha256 OF THE DUMP (.gsa) THAT YtlegmajpgekfcaaProg.lean LOADS. Nothing in Lean hashes anything: it is a label: what it is worth is what the hold of that sum in a sandbox is worth. -/
noncomputable def Try.pinned : Pinned := { name := "ytlegmajpgekfcaa", sum := "7402d0e9ffb9aa0601d60a628be464317c2f5d957843407a8f7b2eb73422b936", checked := Try.checked }
namespace Rows
def none {H : Type} : Left H := { results := [], args := [] }

/-- 'humpyardlaw43.JournalFinds': WHATEVER THE INPUT: true; the input reads as it did. -/
def journalFindsSpec : ChangeSpec := { name := "journalFinds", fn := fun _ => fun
  | [d1, d2, d3] => { results := [.lit (.bool true)], args := [d1, d2, d3] }
  | _ => none }
def journalFindsRow : OpenClaim := { program := "ytlegmajpgekfcaa", sum := "7402d0e9ffb9aa0601d60a628be464317c2f5d957843407a8f7b2eb73422b936", func := "humpyard/humpyardlaw43.JournalFinds", spec := "journalFinds", apart := false }
def JournalFindsSaid : Prop := journalFindsRow.holds Try.pinned (OpenSpec.ofChange journalFindsSpec)

/-- ITS FALSE NEIGHBOUR: 'it returns false'. Refute it at one input. -/
def journalFindsWrong : ChangeSpec := { name := "journalFinds", fn := fun _ => fun
  | [d1, d2, d3] => { results := [.lit (.bool false)], args := [d1, d2, d3] }
  | _ => none }
def JournalFindsWrongFalsely : Prop := journalFindsRow.holds Try.pinned (OpenSpec.ofChange journalFindsWrong)

/-- 'humpyardlaw43.JournalExact': WHATEVER THE INPUT: true; the input reads as it did. -/
def journalExactSpec : ChangeSpec := { name := "journalExact", fn := fun _ => fun
  | [d1, d2, d3] => { results := [.lit (.bool true)], args := [d1, d2, d3] }
  | _ => none }
def journalExactRow : OpenClaim := { program := "ytlegmajpgekfcaa", sum := "7402d0e9ffb9aa0601d60a628be464317c2f5d957843407a8f7b2eb73422b936", func := "humpyard/humpyardlaw43.JournalExact", spec := "journalExact", apart := false }
def JournalExactSaid : Prop := journalExactRow.holds Try.pinned (OpenSpec.ofChange journalExactSpec)

/-- ITS FALSE NEIGHBOUR: 'it returns false'. Refute it at one input. -/
def journalExactWrong : ChangeSpec := { name := "journalExact", fn := fun _ => fun
  | [d1, d2, d3] => { results := [.lit (.bool false)], args := [d1, d2, d3] }
  | _ => none }
def JournalExactWrongFalsely : Prop := journalExactRow.holds Try.pinned (OpenSpec.ofChange journalExactWrong)

/-- 'humpyardlaw43.JournalReads': WHATEVER THE INPUT: true; the input reads as it did. -/
def journalReadsSpec : ChangeSpec := { name := "journalReads", fn := fun _ => fun
  | [d] => { results := [.lit (.bool true)], args := [d] }
  | _ => none }
def journalReadsRow : OpenClaim := { program := "ytlegmajpgekfcaa", sum := "7402d0e9ffb9aa0601d60a628be464317c2f5d957843407a8f7b2eb73422b936", func := "humpyard/humpyardlaw43.JournalReads", spec := "journalReads", apart := false }
def JournalReadsSaid : Prop := journalReadsRow.holds Try.pinned (OpenSpec.ofChange journalReadsSpec)

/-- ITS FALSE NEIGHBOUR: 'it returns false'. Refute it at one input. -/
def journalReadsWrong : ChangeSpec := { name := "journalReads", fn := fun _ => fun
  | [d] => { results := [.lit (.bool false)], args := [d] }
  | _ => none }
def JournalReadsWrongFalsely : Prop := journalReadsRow.holds Try.pinned (OpenSpec.ofChange journalReadsWrong)

/-- 'humpyardlaw43.JournalCuts': WHATEVER THE INPUT: true; the input reads as it did. -/
def journalCutsSpec : ChangeSpec := { name := "journalCuts", fn := fun _ => fun
  | [d1, d2, d3] => { results := [.lit (.bool true)], args := [d1, d2, d3] }
  | _ => none }
def journalCutsRow : OpenClaim := { program := "ytlegmajpgekfcaa", sum := "7402d0e9ffb9aa0601d60a628be464317c2f5d957843407a8f7b2eb73422b936", func := "humpyard/humpyardlaw43.JournalCuts", spec := "journalCuts", apart := false }
def JournalCutsSaid : Prop := journalCutsRow.holds Try.pinned (OpenSpec.ofChange journalCutsSpec)

/-- ITS FALSE NEIGHBOUR: 'it returns false'. Refute it at one input. -/
def journalCutsWrong : ChangeSpec := { name := "journalCuts", fn := fun _ => fun
  | [d1, d2, d3] => { results := [.lit (.bool false)], args := [d1, d2, d3] }
  | _ => none }
def JournalCutsWrongFalsely : Prop := journalCutsRow.holds Try.pinned (OpenSpec.ofChange journalCutsWrong)

/- THE SECOND FORM. 'bulk': how many values and letters a reading holds, each counted each time it is reached (what is shared counts as often as it is met; a slice's spare places count too). A statement '..UptoSaid' is the law's where the arguments, and the package variables that the reading takes, are together of bulk at most 1048576: NARROWER than '..Said'. Prove '..Said' where nothing that the law and all that it calls make is longer than what came in: it says more and counts as full. Else prove '..UptoSaid'. A law counts once. -/
mutual
def uptoBulk {H : Type} : DataW H → Nat
  | .lit (.string bytes) => bytes.length + 1
  | .lit _ => 1
  | .nil => 1
  | .ptr d => uptoBulk d + 1
  | .slice elems spare => uptoBulkAll elems + uptoBulkAll spare + 1
  | .agg parts => uptoBulkAll parts + 1
  | .iface _ d => uptoBulk d + 1
  | .map entries => uptoBulkEntries entries + 1
  | .held _ => 1
def uptoBulkAll {H : Type} : List (DataW H) → Nat
  | [] => 0
  | d :: r => uptoBulk d + uptoBulkAll r
def uptoBulkEntries {H : Type} : List (Lit × DataW H) → Nat
  | [] => 0
  | x :: r => uptoBulkEntry x + uptoBulkEntries r
def uptoBulkEntry {H : Type} : Lit × DataW H → Nat
  | (.string bytes, d) => bytes.length + uptoBulk d + 1
  | (_, d) => uptoBulk d + 1
 end
def uptoSmall : (H : Type) → List (DataW H) → Bool := fun _ ds => decide (uptoBulkAll ds ≤ 1048576)
def OpenSpec.upto (s : _root_.Go.ChangeSpec) : _root_.Go.OpenSpec := { _root_.Go.OpenSpec.ofChange s with cond := some uptoSmall }

/-- 'humpyardlaw43.JournalFinds', WHERE WHAT IT READS IS OF BULK AT MOST 1048576: true; the input reads as it did. -/
def journalFindsUptoRow : OpenClaim := { program := "ytlegmajpgekfcaa", sum := "7402d0e9ffb9aa0601d60a628be464317c2f5d957843407a8f7b2eb73422b936", func := "humpyard/humpyardlaw43.JournalFinds", spec := "journalFinds", apart := false, narrowed := true }
def JournalFindsUptoSaid : Prop := journalFindsUptoRow.holds Try.pinned (OpenSpec.upto journalFindsSpec)

/-- 'humpyardlaw43.JournalExact', WHERE WHAT IT READS IS OF BULK AT MOST 1048576: true; the input reads as it did. -/
def journalExactUptoRow : OpenClaim := { program := "ytlegmajpgekfcaa", sum := "7402d0e9ffb9aa0601d60a628be464317c2f5d957843407a8f7b2eb73422b936", func := "humpyard/humpyardlaw43.JournalExact", spec := "journalExact", apart := false, narrowed := true }
def JournalExactUptoSaid : Prop := journalExactUptoRow.holds Try.pinned (OpenSpec.upto journalExactSpec)

/-- 'humpyardlaw43.JournalReads', WHERE WHAT IT READS IS OF BULK AT MOST 1048576: true; the input reads as it did. -/
def journalReadsUptoRow : OpenClaim := { program := "ytlegmajpgekfcaa", sum := "7402d0e9ffb9aa0601d60a628be464317c2f5d957843407a8f7b2eb73422b936", func := "humpyard/humpyardlaw43.JournalReads", spec := "journalReads", apart := false, narrowed := true }
def JournalReadsUptoSaid : Prop := journalReadsUptoRow.holds Try.pinned (OpenSpec.upto journalReadsSpec)

/-- 'humpyardlaw43.JournalCuts', WHERE WHAT IT READS IS OF BULK AT MOST 1048576: true; the input reads as it did. -/
def journalCutsUptoRow : OpenClaim := { program := "ytlegmajpgekfcaa", sum := "7402d0e9ffb9aa0601d60a628be464317c2f5d957843407a8f7b2eb73422b936", func := "humpyard/humpyardlaw43.JournalCuts", spec := "journalCuts", apart := false, narrowed := true }
def JournalCutsUptoSaid : Prop := journalCutsUptoRow.holds Try.pinned (OpenSpec.upto journalCutsSpec)

end Rows
end Go.Proofs.Ytlegmajpgekfcaa
