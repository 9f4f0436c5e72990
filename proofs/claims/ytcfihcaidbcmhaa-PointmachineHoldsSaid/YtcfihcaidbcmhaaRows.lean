/-
  No cell of these rows narrows 'for every input' (looked for: loops, veiled, ifaces, maps, wideKeys, modest, calm, conditions, laid).
  DERIVED. THE GIVEN ROWS OF THIS SEAT. 4 by the template 'for every input the law returns true; each argument reads behind the call as it read before'; 0 by the template 'total and deterministic' (their statements: YtcfihcaidbcmhaaTotals.lean).
  GIVEN WITH THE SEED: the statements are not yours to turn. If you find one false, say at which input.
  Laid BY PROGRAM, IN A SANDBOX (cutbox-rows.mjs): the forced cells as the released guide's own fill.sh prints them over the translation 09840d1224ae8f91… (all of the seat's roots in one cut). By AI agents, Wed Nov 11 2026. No macro, syntax, notation, axiom, sorry.
-/
import Derived.Test.YtcfihcaidbcmhaaChecked
import GoSem.Claim
import GoSem.ClaimJoined
import GoSem.ClaimMapViews
import Derived.JoinedTies
import Derived.KernelRfl
namespace Go.Proofs.Ytcfihcaidbcmhaa
/- THE CELL 'sum', in the pinned program and in every row, IS THE sha256 OF THE DUMP (.gsa) THAT YtcfihcaidbcmhaaProg.lean LOADS. Nothing in Lean hashes anything: it is a label: what it is worth is what the hold of that sum in a sandbox is worth. -/
noncomputable def Try.pinned : Pinned := { name := "ytcfihcaidbcmhaa", sum := "09840d1224ae8f91cbc8fc43328aab361e1766900e664519dcae61d1727172de", checked := Try.checked }
namespace Rows
def none {H : Type} : Left H := { results := [], args := [] }

/-- 'humpyardlaw25.PointmachineHolds': WHATEVER THE INPUT: true; the input reads as it did. -/
def pointmachineHoldsSpec : ChangeSpec := { name := "pointmachineHolds", fn := fun _ => fun
  | [d] => { results := [.lit (.bool true)], args := [d] }
  | _ => none }
def pointmachineHoldsRow : OpenClaim := { program := "ytcfihcaidbcmhaa", sum := "09840d1224ae8f91cbc8fc43328aab361e1766900e664519dcae61d1727172de", func := "humpyard/humpyardlaw25.PointmachineHolds", spec := "pointmachineHolds", apart := false }
def PointmachineHoldsSaid : Prop := pointmachineHoldsRow.holds Try.pinned (OpenSpec.ofChange pointmachineHoldsSpec)

/-- ITS FALSE NEIGHBOUR: 'it returns false'. Refute it at one input. -/
def pointmachineHoldsWrong : ChangeSpec := { name := "pointmachineHolds", fn := fun _ => fun
  | [d] => { results := [.lit (.bool false)], args := [d] }
  | _ => none }
def PointmachineHoldsWrongFalsely : Prop := pointmachineHoldsRow.holds Try.pinned (OpenSpec.ofChange pointmachineHoldsWrong)

/-- 'humpyardlaw25.PointmachineThrows': WHATEVER THE INPUT: true; the input reads as it did. -/
def pointmachineThrowsSpec : ChangeSpec := { name := "pointmachineThrows", fn := fun _ => fun
  | [d1, d2, d3] => { results := [.lit (.bool true)], args := [d1, d2, d3] }
  | _ => none }
def pointmachineThrowsRow : OpenClaim := { program := "ytcfihcaidbcmhaa", sum := "09840d1224ae8f91cbc8fc43328aab361e1766900e664519dcae61d1727172de", func := "humpyard/humpyardlaw25.PointmachineThrows", spec := "pointmachineThrows", apart := false }
def PointmachineThrowsSaid : Prop := pointmachineThrowsRow.holds Try.pinned (OpenSpec.ofChange pointmachineThrowsSpec)

/-- ITS FALSE NEIGHBOUR: 'it returns false'. Refute it at one input. -/
def pointmachineThrowsWrong : ChangeSpec := { name := "pointmachineThrows", fn := fun _ => fun
  | [d1, d2, d3] => { results := [.lit (.bool false)], args := [d1, d2, d3] }
  | _ => none }
def PointmachineThrowsWrongFalsely : Prop := pointmachineThrowsRow.holds Try.pinned (OpenSpec.ofChange pointmachineThrowsWrong)

/-- 'humpyardlaw25.PointmachineExact': WHATEVER THE INPUT: true; the input reads as it did. -/
def pointmachineExactSpec : ChangeSpec := { name := "pointmachineExact", fn := fun _ => fun
  | [d1, d2, d3, d4] => { results := [.lit (.bool true)], args := [d1, d2, d3, d4] }
  | _ => none }
def pointmachineExactRow : OpenClaim := { program := "ytcfihcaidbcmhaa", sum := "09840d1224ae8f91cbc8fc43328aab361e1766900e664519dcae61d1727172de", func := "humpyard/humpyardlaw25.PointmachineExact", spec := "pointmachineExact", apart := false }
def PointmachineExactSaid : Prop := pointmachineExactRow.holds Try.pinned (OpenSpec.ofChange pointmachineExactSpec)

/-- ITS FALSE NEIGHBOUR: 'it returns false'. Refute it at one input. -/
def pointmachineExactWrong : ChangeSpec := { name := "pointmachineExact", fn := fun _ => fun
  | [d1, d2, d3, d4] => { results := [.lit (.bool false)], args := [d1, d2, d3, d4] }
  | _ => none }
def PointmachineExactWrongFalsely : Prop := pointmachineExactRow.holds Try.pinned (OpenSpec.ofChange pointmachineExactWrong)

/-- 'humpyardlaw25.PointmachineRepairs': WHATEVER THE INPUT: true; the input reads as it did. -/
def pointmachineRepairsSpec : ChangeSpec := { name := "pointmachineRepairs", fn := fun _ => fun
  | [d1, d2] => { results := [.lit (.bool true)], args := [d1, d2] }
  | _ => none }
def pointmachineRepairsRow : OpenClaim := { program := "ytcfihcaidbcmhaa", sum := "09840d1224ae8f91cbc8fc43328aab361e1766900e664519dcae61d1727172de", func := "humpyard/humpyardlaw25.PointmachineRepairs", spec := "pointmachineRepairs", apart := false }
def PointmachineRepairsSaid : Prop := pointmachineRepairsRow.holds Try.pinned (OpenSpec.ofChange pointmachineRepairsSpec)

/-- ITS FALSE NEIGHBOUR: 'it returns false'. Refute it at one input. -/
def pointmachineRepairsWrong : ChangeSpec := { name := "pointmachineRepairs", fn := fun _ => fun
  | [d1, d2] => { results := [.lit (.bool false)], args := [d1, d2] }
  | _ => none }
def PointmachineRepairsWrongFalsely : Prop := pointmachineRepairsRow.holds Try.pinned (OpenSpec.ofChange pointmachineRepairsWrong)

/- THE SECOND FORM. 'bulk': how many values and letters a reading holds, each counted each time it is reached (what is shared counts as often as it is met; a slice's spare places count too). A statement '..UptoSaid' is the law's where the arguments, and the package variables that the reading takes, are together of bulk at most 1048576: NARROWER than '..Said'. Prove '..Said' where nothing that the law and all that it calls make is longer than what came in: it says more and counts as full. Else prove '..UptoSaid'. A law counts once. -/
mutual
def uptoBulk {H : Type} : DataW H → Nat
  | .lit (.string bytes) => bytes.length + 1
  | .lit _ => 1
  | .nil => 1
  | .ptr d => uptoBulk d + 1
  | .slice elems spare => uptoBulkAll elems + uptoBulkAll spare + 1
  | .agg parts => uptoBulkAll parts + 1
  | .iface _ d => uptoBulk d + 1
  | .map entries => uptoBulkEntries entries + 1
  | .held _ => 1
def uptoBulkAll {H : Type} : List (DataW H) → Nat
  | [] => 0
  | d :: r => uptoBulk d + uptoBulkAll r
def uptoBulkEntries {H : Type} : List (Lit × DataW H) → Nat
  | [] => 0
  | x :: r => uptoBulkEntry x + uptoBulkEntries r
def uptoBulkEntry {H : Type} : Lit × DataW H → Nat
  | (.string bytes, d) => bytes.length + uptoBulk d + 1
  | (_, d) => uptoBulk d + 1
 end
def uptoSmall : (H : Type) → List (DataW H) → Bool := fun _ ds => decide (uptoBulkAll ds ≤ 1048576)
def OpenSpec.upto (s : _root_.Go.ChangeSpec) : _root_.Go.OpenSpec := { _root_.Go.OpenSpec.ofChange s with cond := some uptoSmall }

/-- 'humpyardlaw25.PointmachineHolds', WHERE WHAT IT READS IS OF BULK AT MOST 1048576: true; the input reads as it did. -/
def pointmachineHoldsUptoRow : OpenClaim := { program := "ytcfihcaidbcmhaa", sum := "09840d1224ae8f91cbc8fc43328aab361e1766900e664519dcae61d1727172de", func := "humpyard/humpyardlaw25.PointmachineHolds", spec := "pointmachineHolds", apart := false, narrowed := true }
def PointmachineHoldsUptoSaid : Prop := pointmachineHoldsUptoRow.holds Try.pinned (OpenSpec.upto pointmachineHoldsSpec)

/-- 'humpyardlaw25.PointmachineThrows', WHERE WHAT IT READS IS OF BULK AT MOST 1048576: true; the input reads as it did. -/
def pointmachineThrowsUptoRow : OpenClaim := { program := "ytcfihcaidbcmhaa", sum := "09840d1224ae8f91cbc8fc43328aab361e1766900e664519dcae61d1727172de", func := "humpyard/humpyardlaw25.PointmachineThrows", spec := "pointmachineThrows", apart := false, narrowed := true }
def PointmachineThrowsUptoSaid : Prop := pointmachineThrowsUptoRow.holds Try.pinned (OpenSpec.upto pointmachineThrowsSpec)

/-- 'humpyardlaw25.PointmachineExact', WHERE WHAT IT READS IS OF BULK AT MOST 1048576: true; the input reads as it did. -/
def pointmachineExactUptoRow : OpenClaim := { program := "ytcfihcaidbcmhaa", sum := "09840d1224ae8f91cbc8fc43328aab361e1766900e664519dcae61d1727172de", func := "humpyard/humpyardlaw25.PointmachineExact", spec := "pointmachineExact", apart := false, narrowed := true }
def PointmachineExactUptoSaid : Prop := pointmachineExactUptoRow.holds Try.pinned (OpenSpec.upto pointmachineExactSpec)

/-- 'humpyardlaw25.PointmachineRepairs', WHERE WHAT IT READS IS OF BULK AT MOST 1048576: true; the input reads as it did. -/
def pointmachineRepairsUptoRow : OpenClaim := { program := "ytcfihcaidbcmhaa", sum := "09840d1224ae8f91cbc8fc43328aab361e1766900e664519dcae61d1727172de", func := "humpyard/humpyardlaw25.PointmachineRepairs", spec := "pointmachineRepairs", apart := false, narrowed := true }
def PointmachineRepairsUptoSaid : Prop := pointmachineRepairsUptoRow.holds Try.pinned (OpenSpec.upto pointmachineRepairsSpec)

end Rows
end Go.Proofs.Ytcfihcaidbcmhaa
