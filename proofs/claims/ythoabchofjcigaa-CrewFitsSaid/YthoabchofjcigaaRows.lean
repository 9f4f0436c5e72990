/-
  No cell of these rows narrows 'for every input' (looked for: loops, veiled, ifaces, maps, wideKeys, modest, calm, conditions, laid).
  DERIVED. THE GIVEN ROWS OF THIS SEAT. 4 by the template 'for every input the law returns true; each argument reads behind the call as it read before'; 0 by the template 'total and deterministic' (their statements: YthoabchofjcigaaTotals.lean).
  GIVEN WITH THE SEED: the statements are not yours to turn. If you find one false, say at which input.
  Laid BY PROGRAM, IN A SANDBOX (cutbox-rows.mjs): the forced cells as the released guide's own fill.sh prints them over the translation 08088fa54297042e… (all of the seat's roots in one cut). By AI agents, Wed Nov 11 2026. No macro, syntax, notation, axiom, sorry.
-/
import Derived.Test.YthoabchofjcigaaChecked
import GoSem.Claim
import GoSem.ClaimJoined
import GoSem.ClaimMapViews
import Derived.JoinedTies
import Derived.KernelRfl
namespace Go.Proofs.Ythoabchofjcigaa
/- THE CELL 'sum', in the pinned program and in every row, IS THE sha256 OF THE DUMP (.gsa) THAT YthoabchofjcigaaProg.lean LOADS. Nothing in Lean hashes anything: it is a label: what it is worth is what the hold of that sum in a sandbox is worth. -/
noncomputable def Try.pinned : Pinned := { name := "ythoabchofjcigaa", sum := "08088fa54297042e48380e982bd216e99a95c824068f8af14cc21bc344839ce2", checked := Try.checked }
namespace Rows
def none {H : Type} : Left H := { results := [], args := [] }

/-- 'humpyardlaw40.CrewMost': WHATEVER THE INPUT: true; the input reads as it did. -/
def crewMostSpec : ChangeSpec := { name := "crewMost", fn := fun _ => fun
  | [d] => { results := [.lit (.bool true)], args := [d] }
  | _ => none }
def crewMostRow : OpenClaim := { program := "ythoabchofjcigaa", sum := "08088fa54297042e48380e982bd216e99a95c824068f8af14cc21bc344839ce2", func := "humpyard/humpyardlaw40.CrewMost", spec := "crewMost", unfollowed := true, recurses := true, apart := false }
def CrewMostSaid : Prop := crewMostRow.holds Try.pinned (OpenSpec.ofChange crewMostSpec)

/-- ITS FALSE NEIGHBOUR: 'it returns false'. Refute it at one input. -/
def crewMostWrong : ChangeSpec := { name := "crewMost", fn := fun _ => fun
  | [d] => { results := [.lit (.bool false)], args := [d] }
  | _ => none }
def CrewMostWrongFalsely : Prop := crewMostRow.holds Try.pinned (OpenSpec.ofChange crewMostWrong)

/-- 'humpyardlaw40.CrewGrows': WHATEVER THE INPUT: true; the input reads as it did. -/
def crewGrowsSpec : ChangeSpec := { name := "crewGrows", fn := fun _ => fun
  | [d1, d2] => { results := [.lit (.bool true)], args := [d1, d2] }
  | _ => none }
def crewGrowsRow : OpenClaim := { program := "ythoabchofjcigaa", sum := "08088fa54297042e48380e982bd216e99a95c824068f8af14cc21bc344839ce2", func := "humpyard/humpyardlaw40.CrewGrows", spec := "crewGrows", unfollowed := true, recurses := true, apart := false }
def CrewGrowsSaid : Prop := crewGrowsRow.holds Try.pinned (OpenSpec.ofChange crewGrowsSpec)

/-- ITS FALSE NEIGHBOUR: 'it returns false'. Refute it at one input. -/
def crewGrowsWrong : ChangeSpec := { name := "crewGrows", fn := fun _ => fun
  | [d1, d2] => { results := [.lit (.bool false)], args := [d1, d2] }
  | _ => none }
def CrewGrowsWrongFalsely : Prop := crewGrowsRow.holds Try.pinned (OpenSpec.ofChange crewGrowsWrong)

/-- 'humpyardlaw40.CrewFits': WHATEVER THE INPUT: true; the input reads as it did. -/
def crewFitsSpec : ChangeSpec := { name := "crewFits", fn := fun _ => fun
  | [d1, d2, d3, d4] => { results := [.lit (.bool true)], args := [d1, d2, d3, d4] }
  | _ => none }
def crewFitsRow : OpenClaim := { program := "ythoabchofjcigaa", sum := "08088fa54297042e48380e982bd216e99a95c824068f8af14cc21bc344839ce2", func := "humpyard/humpyardlaw40.CrewFits", spec := "crewFits", unfollowed := true, recurses := true, apart := false }
def CrewFitsSaid : Prop := crewFitsRow.holds Try.pinned (OpenSpec.ofChange crewFitsSpec)

/-- ITS FALSE NEIGHBOUR: 'it returns false'. Refute it at one input. -/
def crewFitsWrong : ChangeSpec := { name := "crewFits", fn := fun _ => fun
  | [d1, d2, d3, d4] => { results := [.lit (.bool false)], args := [d1, d2, d3, d4] }
  | _ => none }
def CrewFitsWrongFalsely : Prop := crewFitsRow.holds Try.pinned (OpenSpec.ofChange crewFitsWrong)

/-- 'humpyardlaw40.CrewProves': WHATEVER THE INPUT: true; the input reads as it did. -/
def crewProvesSpec : ChangeSpec := { name := "crewProves", fn := fun _ => fun
  | [d] => { results := [.lit (.bool true)], args := [d] }
  | _ => none }
def crewProvesRow : OpenClaim := { program := "ythoabchofjcigaa", sum := "08088fa54297042e48380e982bd216e99a95c824068f8af14cc21bc344839ce2", func := "humpyard/humpyardlaw40.CrewProves", spec := "crewProves", unfollowed := true, recurses := true, apart := false }
def CrewProvesSaid : Prop := crewProvesRow.holds Try.pinned (OpenSpec.ofChange crewProvesSpec)

/-- ITS FALSE NEIGHBOUR: 'it returns false'. Refute it at one input. -/
def crewProvesWrong : ChangeSpec := { name := "crewProves", fn := fun _ => fun
  | [d] => { results := [.lit (.bool false)], args := [d] }
  | _ => none }
def CrewProvesWrongFalsely : Prop := crewProvesRow.holds Try.pinned (OpenSpec.ofChange crewProvesWrong)

/- THE SECOND FORM. 'bulk': how many values and letters a reading holds, each counted each time it is reached (what is shared counts as often as it is met; a slice's spare places count too). A statement '..UptoSaid' is the law's where the arguments, and the package variables that the reading takes, are together of bulk at most 1048576: NARROWER than '..Said'. Prove '..Said' where nothing that the law and all that it calls make is longer than what came in: it says more and counts as full. Else prove '..UptoSaid'. A law counts once. -/
mutual
def uptoBulk {H : Type} : DataW H → Nat
  | .lit (.string bytes) => bytes.length + 1
  | .lit _ => 1
  | .nil => 1
  | .ptr d => uptoBulk d + 1
  | .slice elems spare => uptoBulkAll elems + uptoBulkAll spare + 1
  | .agg parts => uptoBulkAll parts + 1
  | .iface _ d => uptoBulk d + 1
  | .map entries => uptoBulkEntries entries + 1
  | .held _ => 1
def uptoBulkAll {H : Type} : List (DataW H) → Nat
  | [] => 0
  | d :: r => uptoBulk d + uptoBulkAll r
def uptoBulkEntries {H : Type} : List (Lit × DataW H) → Nat
  | [] => 0
  | x :: r => uptoBulkEntry x + uptoBulkEntries r
def uptoBulkEntry {H : Type} : Lit × DataW H → Nat
  | (.string bytes, d) => bytes.length + uptoBulk d + 1
  | (_, d) => uptoBulk d + 1
 end
def uptoSmall : (H : Type) → List (DataW H) → Bool := fun _ ds => decide (uptoBulkAll ds ≤ 1048576)
def OpenSpec.upto (s : _root_.Go.ChangeSpec) : _root_.Go.OpenSpec := { _root_.Go.OpenSpec.ofChange s with cond := some uptoSmall }

/-- 'humpyardlaw40.CrewMost', WHERE WHAT IT READS IS OF BULK AT MOST 1048576: true; the input reads as it did. -/
def crewMostUptoRow : OpenClaim := { program := "ythoabchofjcigaa", sum := "08088fa54297042e48380e982bd216e99a95c824068f8af14cc21bc344839ce2", func := "humpyard/humpyardlaw40.CrewMost", spec := "crewMost", unfollowed := true, recurses := true, apart := false, narrowed := true }
def CrewMostUptoSaid : Prop := crewMostUptoRow.holds Try.pinned (OpenSpec.upto crewMostSpec)

/-- 'humpyardlaw40.CrewGrows', WHERE WHAT IT READS IS OF BULK AT MOST 1048576: true; the input reads as it did. -/
def crewGrowsUptoRow : OpenClaim := { program := "ythoabchofjcigaa", sum := "08088fa54297042e48380e982bd216e99a95c824068f8af14cc21bc344839ce2", func := "humpyard/humpyardlaw40.CrewGrows", spec := "crewGrows", unfollowed := true, recurses := true, apart := false, narrowed := true }
def CrewGrowsUptoSaid : Prop := crewGrowsUptoRow.holds Try.pinned (OpenSpec.upto crewGrowsSpec)

/-- 'humpyardlaw40.CrewFits', WHERE WHAT IT READS IS OF BULK AT MOST 1048576: true; the input reads as it did. -/
def crewFitsUptoRow : OpenClaim := { program := "ythoabchofjcigaa", sum := "08088fa54297042e48380e982bd216e99a95c824068f8af14cc21bc344839ce2", func := "humpyard/humpyardlaw40.CrewFits", spec := "crewFits", unfollowed := true, recurses := true, apart := false, narrowed := true }
def CrewFitsUptoSaid : Prop := crewFitsUptoRow.holds Try.pinned (OpenSpec.upto crewFitsSpec)

/-- 'humpyardlaw40.CrewProves', WHERE WHAT IT READS IS OF BULK AT MOST 1048576: true; the input reads as it did. -/
def crewProvesUptoRow : OpenClaim := { program := "ythoabchofjcigaa", sum := "08088fa54297042e48380e982bd216e99a95c824068f8af14cc21bc344839ce2", func := "humpyard/humpyardlaw40.CrewProves", spec := "crewProves", unfollowed := true, recurses := true, apart := false, narrowed := true }
def CrewProvesUptoSaid : Prop := crewProvesUptoRow.holds Try.pinned (OpenSpec.upto crewProvesSpec)

end Rows
end Go.Proofs.Ythoabchofjcigaa
