/-
  No cell of these rows narrows 'for every input' (looked for: loops, veiled, ifaces, maps, wideKeys, modest, calm, conditions, laid).
  DERIVED. THE GIVEN ROWS OF THIS SEAT. 6 by the template 'for every input the law returns true; each argument reads behind the call as it read before'; 0 by the template 'total and deterministic' (their statements: YtlfinhdanjbmcaaTotals.lean).
  GIVEN WITH THE SEED: the statements are not yours to turn. If you find one false, say at which input.
  Laid BY PROGRAM, IN A SANDBOX (cutbox-rows.mjs): the forced cells as the released guide's own fill.sh prints them over the translation ddd2a98510808518… (all of the seat's roots in one cut). By AI agents, Wed Nov 11 2026. No macro, syntax, notation, axiom, sorry.
-/
import Derived.Test.YtlfinhdanjbmcaaChecked
import GoSem.Claim
import GoSem.ClaimJoined
import GoSem.ClaimMapViews
import Derived.JoinedTies
import Derived.KernelRfl
namespace Go.Proofs.Ytlfinhdanjbmcaa
/- THE CELL 'sum', in the pinned program and in every row, IS THE sha256 OF THE DUMP (.gsa) THAT YtlfinhdanjbmcaaProg.lean LOADS. Nothing in Lean hashes anything: it is a label: what it is worth is what the hold of that sum in a sandbox is worth. -/
noncomputable def Try.pinned : Pinned := { name := "ytlfinhdanjbmcaa", sum := "ddd2a985108085185d13351935e3ebe8de93aec600de9549caaf39476ecb7518", checked := Try.checked }
namespace Rows
def none {H : Type} : Left H := { results := [], args := [] }

/-- 'humpyardlaw08.ReconcileMetric': WHATEVER THE INPUT: true; the input reads as it did. -/
def reconcileMetricSpec : ChangeSpec := { name := "reconcileMetric", fn := fun _ => fun
  | [d1, d2] => { results := [.lit (.bool true)], args := [d1, d2] }
  | _ => none }
def reconcileMetricRow : OpenClaim := { program := "ytlfinhdanjbmcaa", sum := "ddd2a985108085185d13351935e3ebe8de93aec600de9549caaf39476ecb7518", func := "humpyard/humpyardlaw08.ReconcileMetric", spec := "reconcileMetric", apart := false }
def ReconcileMetricSaid : Prop := reconcileMetricRow.holds Try.pinned (OpenSpec.ofChange reconcileMetricSpec)

/-- ITS FALSE NEIGHBOUR: 'it returns false'. Refute it at one input. -/
def reconcileMetricWrong : ChangeSpec := { name := "reconcileMetric", fn := fun _ => fun
  | [d1, d2] => { results := [.lit (.bool false)], args := [d1, d2] }
  | _ => none }
def ReconcileMetricWrongFalsely : Prop := reconcileMetricRow.holds Try.pinned (OpenSpec.ofChange reconcileMetricWrong)

/-- 'humpyardlaw08.ReconcileVerifies': WHATEVER THE INPUT: true; the input reads as it did. -/
def reconcileVerifiesSpec : ChangeSpec := { name := "reconcileVerifies", fn := fun _ => fun
  | [d1, d2, d3] => { results := [.lit (.bool true)], args := [d1, d2, d3] }
  | _ => none }
def reconcileVerifiesRow : OpenClaim := { program := "ytlfinhdanjbmcaa", sum := "ddd2a985108085185d13351935e3ebe8de93aec600de9549caaf39476ecb7518", func := "humpyard/humpyardlaw08.ReconcileVerifies", spec := "reconcileVerifies", apart := false }
def ReconcileVerifiesSaid : Prop := reconcileVerifiesRow.holds Try.pinned (OpenSpec.ofChange reconcileVerifiesSpec)

/-- ITS FALSE NEIGHBOUR: 'it returns false'. Refute it at one input. -/
def reconcileVerifiesWrong : ChangeSpec := { name := "reconcileVerifies", fn := fun _ => fun
  | [d1, d2, d3] => { results := [.lit (.bool false)], args := [d1, d2, d3] }
  | _ => none }
def ReconcileVerifiesWrongFalsely : Prop := reconcileVerifiesRow.holds Try.pinned (OpenSpec.ofChange reconcileVerifiesWrong)

/-- 'humpyardlaw08.ReconcileExact': WHATEVER THE INPUT: true; the input reads as it did. -/
def reconcileExactSpec : ChangeSpec := { name := "reconcileExact", fn := fun _ => fun
  | [d1, d2, d3, d4] => { results := [.lit (.bool true)], args := [d1, d2, d3, d4] }
  | _ => none }
def reconcileExactRow : OpenClaim := { program := "ytlfinhdanjbmcaa", sum := "ddd2a985108085185d13351935e3ebe8de93aec600de9549caaf39476ecb7518", func := "humpyard/humpyardlaw08.ReconcileExact", spec := "reconcileExact", apart := false }
def ReconcileExactSaid : Prop := reconcileExactRow.holds Try.pinned (OpenSpec.ofChange reconcileExactSpec)

/-- ITS FALSE NEIGHBOUR: 'it returns false'. Refute it at one input. -/
def reconcileExactWrong : ChangeSpec := { name := "reconcileExact", fn := fun _ => fun
  | [d1, d2, d3, d4] => { results := [.lit (.bool false)], args := [d1, d2, d3, d4] }
  | _ => none }
def ReconcileExactWrongFalsely : Prop := reconcileExactRow.holds Try.pinned (OpenSpec.ofChange reconcileExactWrong)

/-- 'humpyardlaw08.ReconcileLimits': WHATEVER THE INPUT: true; the input reads as it did. -/
def reconcileLimitsSpec : ChangeSpec := { name := "reconcileLimits", fn := fun _ => fun
  | [d1, d2] => { results := [.lit (.bool true)], args := [d1, d2] }
  | _ => none }
def reconcileLimitsRow : OpenClaim := { program := "ytlfinhdanjbmcaa", sum := "ddd2a985108085185d13351935e3ebe8de93aec600de9549caaf39476ecb7518", func := "humpyard/humpyardlaw08.ReconcileLimits", spec := "reconcileLimits", apart := false }
def ReconcileLimitsSaid : Prop := reconcileLimitsRow.holds Try.pinned (OpenSpec.ofChange reconcileLimitsSpec)

/-- ITS FALSE NEIGHBOUR: 'it returns false'. Refute it at one input. -/
def reconcileLimitsWrong : ChangeSpec := { name := "reconcileLimits", fn := fun _ => fun
  | [d1, d2] => { results := [.lit (.bool false)], args := [d1, d2] }
  | _ => none }
def ReconcileLimitsWrongFalsely : Prop := reconcileLimitsRow.holds Try.pinned (OpenSpec.ofChange reconcileLimitsWrong)

/-- 'humpyardlaw08.ReconcileProof': WHATEVER THE INPUT: true; the input reads as it did. -/
def reconcileProofSpec : ChangeSpec := { name := "reconcileProof", fn := fun _ => fun
  | [d1, d2, d3] => { results := [.lit (.bool true)], args := [d1, d2, d3] }
  | _ => none }
def reconcileProofRow : OpenClaim := { program := "ytlfinhdanjbmcaa", sum := "ddd2a985108085185d13351935e3ebe8de93aec600de9549caaf39476ecb7518", func := "humpyard/humpyardlaw08.ReconcileProof", spec := "reconcileProof", apart := false }
def ReconcileProofSaid : Prop := reconcileProofRow.holds Try.pinned (OpenSpec.ofChange reconcileProofSpec)

/-- ITS FALSE NEIGHBOUR: 'it returns false'. Refute it at one input. -/
def reconcileProofWrong : ChangeSpec := { name := "reconcileProof", fn := fun _ => fun
  | [d1, d2, d3] => { results := [.lit (.bool false)], args := [d1, d2, d3] }
  | _ => none }
def ReconcileProofWrongFalsely : Prop := reconcileProofRow.holds Try.pinned (OpenSpec.ofChange reconcileProofWrong)

/-- 'humpyardlaw08.ReconcileCheaper': WHATEVER THE INPUT: true; the input reads as it did. -/
def reconcileCheaperSpec : ChangeSpec := { name := "reconcileCheaper", fn := fun _ => fun
  | [d] => { results := [.lit (.bool true)], args := [d] }
  | _ => none }
def reconcileCheaperRow : OpenClaim := { program := "ytlfinhdanjbmcaa", sum := "ddd2a985108085185d13351935e3ebe8de93aec600de9549caaf39476ecb7518", func := "humpyard/humpyardlaw08.ReconcileCheaper", spec := "reconcileCheaper", apart := false }
def ReconcileCheaperSaid : Prop := reconcileCheaperRow.holds Try.pinned (OpenSpec.ofChange reconcileCheaperSpec)

/-- ITS FALSE NEIGHBOUR: 'it returns false'. Refute it at one input. -/
def reconcileCheaperWrong : ChangeSpec := { name := "reconcileCheaper", fn := fun _ => fun
  | [d] => { results := [.lit (.bool false)], args := [d] }
  | _ => none }
def ReconcileCheaperWrongFalsely : Prop := reconcileCheaperRow.holds Try.pinned (OpenSpec.ofChange reconcileCheaperWrong)

/- THE SECOND FORM. 'bulk': how many values and letters a reading holds, each counted each time it is reached (what is shared counts as often as it is met; a slice's spare places count too). A statement '..UptoSaid' is the law's where the arguments, and the package variables that the reading takes, are together of bulk at most 1048576: NARROWER than '..Said'. Prove '..Said' where nothing that the law and all that it calls make is longer than what came in: it says more and counts as full. Else prove '..UptoSaid'. A law counts once. -/
mutual
def uptoBulk {H : Type} : DataW H → Nat
  | .lit (.string bytes) => bytes.length + 1
  | .lit _ => 1
  | .nil => 1
  | .ptr d => uptoBulk d + 1
  | .slice elems spare => uptoBulkAll elems + uptoBulkAll spare + 1
  | .agg parts => uptoBulkAll parts + 1
  | .iface _ d => uptoBulk d + 1
  | .map entries => uptoBulkEntries entries + 1
  | .held _ => 1
def uptoBulkAll {H : Type} : List (DataW H) → Nat
  | [] => 0
  | d :: r => uptoBulk d + uptoBulkAll r
def uptoBulkEntries {H : Type} : List (Lit × DataW H) → Nat
  | [] => 0
  | x :: r => uptoBulkEntry x + uptoBulkEntries r
def uptoBulkEntry {H : Type} : Lit × DataW H → Nat
  | (.string bytes, d) => bytes.length + uptoBulk d + 1
  | (_, d) => uptoBulk d + 1
 end
def uptoSmall : (H : Type) → List (DataW H) → Bool := fun _ ds => decide (uptoBulkAll ds ≤ 1048576)
def OpenSpec.upto (s : _root_.Go.ChangeSpec) : _root_.Go.OpenSpec := { _root_.Go.OpenSpec.ofChange s with cond := some uptoSmall }

/-- 'humpyardlaw08.ReconcileMetric', WHERE WHAT IT READS IS OF BULK AT MOST 1048576: true; the input reads as it did. -/
def reconcileMetricUptoRow : OpenClaim := { program := "ytlfinhdanjbmcaa", sum := "ddd2a985108085185d13351935e3ebe8de93aec600de9549caaf39476ecb7518", func := "humpyard/humpyardlaw08.ReconcileMetric", spec := "reconcileMetric", apart := false, narrowed := true }
def ReconcileMetricUptoSaid : Prop := reconcileMetricUptoRow.holds Try.pinned (OpenSpec.upto reconcileMetricSpec)

/-- 'humpyardlaw08.ReconcileVerifies', WHERE WHAT IT READS IS OF BULK AT MOST 1048576: true; the input reads as it did. -/
def reconcileVerifiesUptoRow : OpenClaim := { program := "ytlfinhdanjbmcaa", sum := "ddd2a985108085185d13351935e3ebe8de93aec600de9549caaf39476ecb7518", func := "humpyard/humpyardlaw08.ReconcileVerifies", spec := "reconcileVerifies", apart := false, narrowed := true }
def ReconcileVerifiesUptoSaid : Prop := reconcileVerifiesUptoRow.holds Try.pinned (OpenSpec.upto reconcileVerifiesSpec)

/-- 'humpyardlaw08.ReconcileExact', WHERE WHAT IT READS IS OF BULK AT MOST 1048576: true; the input reads as it did. -/
def reconcileExactUptoRow : OpenClaim := { program := "ytlfinhdanjbmcaa", sum := "ddd2a985108085185d13351935e3ebe8de93aec600de9549caaf39476ecb7518", func := "humpyard/humpyardlaw08.ReconcileExact", spec := "reconcileExact", apart := false, narrowed := true }
def ReconcileExactUptoSaid : Prop := reconcileExactUptoRow.holds Try.pinned (OpenSpec.upto reconcileExactSpec)

/-- 'humpyardlaw08.ReconcileLimits', WHERE WHAT IT READS IS OF BULK AT MOST 1048576: true; the input reads as it did. -/
def reconcileLimitsUptoRow : OpenClaim := { program := "ytlfinhdanjbmcaa", sum := "ddd2a985108085185d13351935e3ebe8de93aec600de9549caaf39476ecb7518", func := "humpyard/humpyardlaw08.ReconcileLimits", spec := "reconcileLimits", apart := false, narrowed := true }
def ReconcileLimitsUptoSaid : Prop := reconcileLimitsUptoRow.holds Try.pinned (OpenSpec.upto reconcileLimitsSpec)

/-- 'humpyardlaw08.ReconcileProof', WHERE WHAT IT READS IS OF BULK AT MOST 1048576: true; the input reads as it did. -/
def reconcileProofUptoRow : OpenClaim := { program := "ytlfinhdanjbmcaa", sum := "ddd2a985108085185d13351935e3ebe8de93aec600de9549caaf39476ecb7518", func := "humpyard/humpyardlaw08.ReconcileProof", spec := "reconcileProof", apart := false, narrowed := true }
def ReconcileProofUptoSaid : Prop := reconcileProofUptoRow.holds Try.pinned (OpenSpec.upto reconcileProofSpec)

/-- 'humpyardlaw08.ReconcileCheaper', WHERE WHAT IT READS IS OF BULK AT MOST 1048576: true; the input reads as it did. -/
def reconcileCheaperUptoRow : OpenClaim := { program := "ytlfinhdanjbmcaa", sum := "ddd2a985108085185d13351935e3ebe8de93aec600de9549caaf39476ecb7518", func := "humpyard/humpyardlaw08.ReconcileCheaper", spec := "reconcileCheaper", apart := false, narrowed := true }
def ReconcileCheaperUptoSaid : Prop := reconcileCheaperUptoRow.holds Try.pinned (OpenSpec.upto reconcileCheaperSpec)

end Rows
end Go.Proofs.Ytlfinhdanjbmcaa
