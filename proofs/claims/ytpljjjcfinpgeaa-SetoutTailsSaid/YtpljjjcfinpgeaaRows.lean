/-
  No cell of these rows narrows 'for every input' (looked for: loops, veiled, ifaces, maps, wideKeys, modest, calm, conditions, laid).
  DERIVED. THE GIVEN ROWS OF THIS SEAT. 4 by the template 'for every input the law returns true; each argument reads behind the call as it read before'; 0 by the template 'total and deterministic' (their statements: YtpljjjcfinpgeaaTotals.lean).
  GIVEN WITH THE SEED: the statements are not yours to turn. If you find one false, say at which input.
  Laid BY PROGRAM, IN A SANDBOX (cutbox-rows.mjs): the forced cells as the released guide's own fill.sh prints them over the translation b0a1d77b11cb2a8d… (all of the seat's roots in one cut). By AI agents, Wed Nov 11 2026. No macro, syntax, notation, axiom, sorry.
-/
import Derived.Test.YtpljjjcfinpgeaaChecked
import GoSem.Claim
import GoSem.ClaimJoined
import GoSem.ClaimMapViews
import Derived.JoinedTies
import Derived.KernelRfl
namespace Go.Proofs.Ytpljjjcfinpgeaa
/- THE CELL 'sum', in the pinned program and in every row, IS THE sha256 OF THE DUMP (.gsa) THAT YtpljjjcfinpgeaaProg.lean LOADS. Nothing in Lean hashes anything: it is a label: what it is worth is what the hold of that sum in a sandbox is worth. -/
noncomputable def Try.pinned : Pinned := { name := "ytpljjjcfinpgeaa", sum := "b0a1d77b11cb2a8df572c3bed237e9ac2b69f1a5c3d9ce967a344bdd18e97605", checked := Try.checked }
namespace Rows
def none {H : Type} : Left H := { results := [], args := [] }

/-- 'humpyardlaw34.SetoutTails': WHATEVER THE INPUT: true; the input reads as it did. -/
def setoutTailsSpec : ChangeSpec := { name := "setoutTails", fn := fun _ => fun
  | [d] => { results := [.lit (.bool true)], args := [d] }
  | _ => none }
def setoutTailsRow : OpenClaim := { program := "ytpljjjcfinpgeaa", sum := "b0a1d77b11cb2a8df572c3bed237e9ac2b69f1a5c3d9ce967a344bdd18e97605", func := "humpyard/humpyardlaw34.SetoutTails", spec := "setoutTails", unfollowed := true, recurses := true, apart := false }
def SetoutTailsSaid : Prop := setoutTailsRow.holds Try.pinned (OpenSpec.ofChange setoutTailsSpec)

/-- ITS FALSE NEIGHBOUR: 'it returns false'. Refute it at one input. -/
def setoutTailsWrong : ChangeSpec := { name := "setoutTails", fn := fun _ => fun
  | [d] => { results := [.lit (.bool false)], args := [d] }
  | _ => none }
def SetoutTailsWrongFalsely : Prop := setoutTailsRow.holds Try.pinned (OpenSpec.ofChange setoutTailsWrong)

/-- 'humpyardlaw34.SetoutExact': WHATEVER THE INPUT: true; the input reads as it did. -/
def setoutExactSpec : ChangeSpec := { name := "setoutExact", fn := fun _ => fun
  | [d1, d2, d3] => { results := [.lit (.bool true)], args := [d1, d2, d3] }
  | _ => none }
def setoutExactRow : OpenClaim := { program := "ytpljjjcfinpgeaa", sum := "b0a1d77b11cb2a8df572c3bed237e9ac2b69f1a5c3d9ce967a344bdd18e97605", func := "humpyard/humpyardlaw34.SetoutExact", spec := "setoutExact", unfollowed := true, recurses := true, apart := false }
def SetoutExactSaid : Prop := setoutExactRow.holds Try.pinned (OpenSpec.ofChange setoutExactSpec)

/-- ITS FALSE NEIGHBOUR: 'it returns false'. Refute it at one input. -/
def setoutExactWrong : ChangeSpec := { name := "setoutExact", fn := fun _ => fun
  | [d1, d2, d3] => { results := [.lit (.bool false)], args := [d1, d2, d3] }
  | _ => none }
def SetoutExactWrongFalsely : Prop := setoutExactRow.holds Try.pinned (OpenSpec.ofChange setoutExactWrong)

/-- 'humpyardlaw34.SetoutAdds': WHATEVER THE INPUT: true; the input reads as it did. -/
def setoutAddsSpec : ChangeSpec := { name := "setoutAdds", fn := fun _ => fun
  | [d] => { results := [.lit (.bool true)], args := [d] }
  | _ => none }
def setoutAddsRow : OpenClaim := { program := "ytpljjjcfinpgeaa", sum := "b0a1d77b11cb2a8df572c3bed237e9ac2b69f1a5c3d9ce967a344bdd18e97605", func := "humpyard/humpyardlaw34.SetoutAdds", spec := "setoutAdds", unfollowed := true, recurses := true, apart := false }
def SetoutAddsSaid : Prop := setoutAddsRow.holds Try.pinned (OpenSpec.ofChange setoutAddsSpec)

/-- ITS FALSE NEIGHBOUR: 'it returns false'. Refute it at one input. -/
def setoutAddsWrong : ChangeSpec := { name := "setoutAdds", fn := fun _ => fun
  | [d] => { results := [.lit (.bool false)], args := [d] }
  | _ => none }
def SetoutAddsWrongFalsely : Prop := setoutAddsRow.holds Try.pinned (OpenSpec.ofChange setoutAddsWrong)

/-- 'humpyardlaw34.SetoutBests': WHATEVER THE INPUT: true; the input reads as it did. -/
def setoutBestsSpec : ChangeSpec := { name := "setoutBests", fn := fun _ => fun
  | [d] => { results := [.lit (.bool true)], args := [d] }
  | _ => none }
def setoutBestsRow : OpenClaim := { program := "ytpljjjcfinpgeaa", sum := "b0a1d77b11cb2a8df572c3bed237e9ac2b69f1a5c3d9ce967a344bdd18e97605", func := "humpyard/humpyardlaw34.SetoutBests", spec := "setoutBests", unfollowed := true, recurses := true, apart := false }
def SetoutBestsSaid : Prop := setoutBestsRow.holds Try.pinned (OpenSpec.ofChange setoutBestsSpec)

/-- ITS FALSE NEIGHBOUR: 'it returns false'. Refute it at one input. -/
def setoutBestsWrong : ChangeSpec := { name := "setoutBests", fn := fun _ => fun
  | [d] => { results := [.lit (.bool false)], args := [d] }
  | _ => none }
def SetoutBestsWrongFalsely : Prop := setoutBestsRow.holds Try.pinned (OpenSpec.ofChange setoutBestsWrong)

/- THE SECOND FORM. 'bulk': how many values and letters a reading holds, each counted each time it is reached (what is shared counts as often as it is met; a slice's spare places count too). A statement '..UptoSaid' is the law's where the arguments, and the package variables that the reading takes, are together of bulk at most 1048576: NARROWER than '..Said'. Prove '..Said' where nothing that the law and all that it calls make is longer than what came in: it says more and counts as full. Else prove '..UptoSaid'. A law counts once. -/
mutual
def uptoBulk {H : Type} : DataW H → Nat
  | .lit (.string bytes) => bytes.length + 1
  | .lit _ => 1
  | .nil => 1
  | .ptr d => uptoBulk d + 1
  | .slice elems spare => uptoBulkAll elems + uptoBulkAll spare + 1
  | .agg parts => uptoBulkAll parts + 1
  | .iface _ d => uptoBulk d + 1
  | .map entries => uptoBulkEntries entries + 1
  | .held _ => 1
def uptoBulkAll {H : Type} : List (DataW H) → Nat
  | [] => 0
  | d :: r => uptoBulk d + uptoBulkAll r
def uptoBulkEntries {H : Type} : List (Lit × DataW H) → Nat
  | [] => 0
  | x :: r => uptoBulkEntry x + uptoBulkEntries r
def uptoBulkEntry {H : Type} : Lit × DataW H → Nat
  | (.string bytes, d) => bytes.length + uptoBulk d + 1
  | (_, d) => uptoBulk d + 1
 end
def uptoSmall : (H : Type) → List (DataW H) → Bool := fun _ ds => decide (uptoBulkAll ds ≤ 1048576)
def OpenSpec.upto (s : _root_.Go.ChangeSpec) : _root_.Go.OpenSpec := { _root_.Go.OpenSpec.ofChange s with cond := some uptoSmall }

/-- 'humpyardlaw34.SetoutTails', WHERE WHAT IT READS IS OF BULK AT MOST 1048576: true; the input reads as it did. -/
def setoutTailsUptoRow : OpenClaim := { program := "ytpljjjcfinpgeaa", sum := "b0a1d77b11cb2a8df572c3bed237e9ac2b69f1a5c3d9ce967a344bdd18e97605", func := "humpyard/humpyardlaw34.SetoutTails", spec := "setoutTails", unfollowed := true, recurses := true, apart := false, narrowed := true }
def SetoutTailsUptoSaid : Prop := setoutTailsUptoRow.holds Try.pinned (OpenSpec.upto setoutTailsSpec)

/-- 'humpyardlaw34.SetoutExact', WHERE WHAT IT READS IS OF BULK AT MOST 1048576: true; the input reads as it did. -/
def setoutExactUptoRow : OpenClaim := { program := "ytpljjjcfinpgeaa", sum := "b0a1d77b11cb2a8df572c3bed237e9ac2b69f1a5c3d9ce967a344bdd18e97605", func := "humpyard/humpyardlaw34.SetoutExact", spec := "setoutExact", unfollowed := true, recurses := true, apart := false, narrowed := true }
def SetoutExactUptoSaid : Prop := setoutExactUptoRow.holds Try.pinned (OpenSpec.upto setoutExactSpec)

/-- 'humpyardlaw34.SetoutAdds', WHERE WHAT IT READS IS OF BULK AT MOST 1048576: true; the input reads as it did. -/
def setoutAddsUptoRow : OpenClaim := { program := "ytpljjjcfinpgeaa", sum := "b0a1d77b11cb2a8df572c3bed237e9ac2b69f1a5c3d9ce967a344bdd18e97605", func := "humpyard/humpyardlaw34.SetoutAdds", spec := "setoutAdds", unfollowed := true, recurses := true, apart := false, narrowed := true }
def SetoutAddsUptoSaid : Prop := setoutAddsUptoRow.holds Try.pinned (OpenSpec.upto setoutAddsSpec)

/-- 'humpyardlaw34.SetoutBests', WHERE WHAT IT READS IS OF BULK AT MOST 1048576: true; the input reads as it did. -/
def setoutBestsUptoRow : OpenClaim := { program := "ytpljjjcfinpgeaa", sum := "b0a1d77b11cb2a8df572c3bed237e9ac2b69f1a5c3d9ce967a344bdd18e97605", func := "humpyard/humpyardlaw34.SetoutBests", spec := "setoutBests", unfollowed := true, recurses := true, apart := false, narrowed := true }
def SetoutBestsUptoSaid : Prop := setoutBestsUptoRow.holds Try.pinned (OpenSpec.upto setoutBestsSpec)

end Rows
end Go.Proofs.Ytpljjjcfinpgeaa
