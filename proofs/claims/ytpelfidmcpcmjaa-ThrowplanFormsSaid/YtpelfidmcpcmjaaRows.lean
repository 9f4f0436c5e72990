/-
  No cell of these rows narrows 'for every input' (looked for: loops, veiled, ifaces, maps, wideKeys, modest, calm, conditions, laid).
  DERIVED. THE GIVEN ROWS OF THIS SEAT. 5 by the template 'for every input the law returns true; each argument reads behind the call as it read before'; 0 by the template 'total and deterministic' (their statements: YtpelfidmcpcmjaaTotals.lean).
  GIVEN WITH THE SEED: the statements are not yours to turn. If you find one false, say at which input.
  Laid BY PROGRAM, IN A SANDBOX (cutbox-rows.mjs): the forced cells as the released guide's own fill.sh prints them over the translation 43af934ad49b5d00… (all of the seat's roots in one cut). By AI agents, Wed Nov 11 2026. No macro, syntax, notation, axiom, sorry.
-/
import Derived.Test.YtpelfidmcpcmjaaChecked
import GoSem.Claim
import GoSem.ClaimJoined
import GoSem.ClaimMapViews
import Derived.JoinedTies
import Derived.KernelRfl
namespace Go.Proofs.Ytpelfidmcpcmjaa
/- THE CELL 'sum', in the pinned program and in every row, IS THE sha256 OF THE DUMP (.gsa) THAT YtpelfidmcpcmjaaProg.lean LOADS. Nothing in Lean hashes anything: it is a label: what it is worth is what the hold of that sum in a sandbox is worth. -/
noncomputable def Try.pinned : Pinned := { name := "ytpelfidmcpcmjaa", sum := "43af934ad49b5d003aefb3717cafa301167c24204b97bb8d27ae1538b3ad4e60", checked := Try.checked }
namespace Rows
def none {H : Type} : Left H := { results := [], args := [] }

/-- 'humpyardlaw24.ThrowplanExact': WHATEVER THE INPUT: true; the input reads as it did. -/
def throwplanExactSpec : ChangeSpec := { name := "throwplanExact", fn := fun _ => fun
  | [d1, d2, d3, d4, d5] => { results := [.lit (.bool true)], args := [d1, d2, d3, d4, d5] }
  | _ => none }
def throwplanExactRow : OpenClaim := { program := "ytpelfidmcpcmjaa", sum := "43af934ad49b5d003aefb3717cafa301167c24204b97bb8d27ae1538b3ad4e60", func := "humpyard/humpyardlaw24.ThrowplanExact", spec := "throwplanExact", unfollowed := true, recurses := true, apart := false }
def ThrowplanExactSaid : Prop := throwplanExactRow.holds Try.pinned (OpenSpec.ofChange throwplanExactSpec)

/-- ITS FALSE NEIGHBOUR: 'it returns false'. Refute it at one input. -/
def throwplanExactWrong : ChangeSpec := { name := "throwplanExact", fn := fun _ => fun
  | [d1, d2, d3, d4, d5] => { results := [.lit (.bool false)], args := [d1, d2, d3, d4, d5] }
  | _ => none }
def ThrowplanExactWrongFalsely : Prop := throwplanExactRow.holds Try.pinned (OpenSpec.ofChange throwplanExactWrong)

/-- 'humpyardlaw24.ThrowplanSafe': WHATEVER THE INPUT: true; the input reads as it did. -/
def throwplanSafeSpec : ChangeSpec := { name := "throwplanSafe", fn := fun _ => fun
  | [d] => { results := [.lit (.bool true)], args := [d] }
  | _ => none }
def throwplanSafeRow : OpenClaim := { program := "ytpelfidmcpcmjaa", sum := "43af934ad49b5d003aefb3717cafa301167c24204b97bb8d27ae1538b3ad4e60", func := "humpyard/humpyardlaw24.ThrowplanSafe", spec := "throwplanSafe", unfollowed := true, recurses := true, apart := false }
def ThrowplanSafeSaid : Prop := throwplanSafeRow.holds Try.pinned (OpenSpec.ofChange throwplanSafeSpec)

/-- ITS FALSE NEIGHBOUR: 'it returns false'. Refute it at one input. -/
def throwplanSafeWrong : ChangeSpec := { name := "throwplanSafe", fn := fun _ => fun
  | [d] => { results := [.lit (.bool false)], args := [d] }
  | _ => none }
def ThrowplanSafeWrongFalsely : Prop := throwplanSafeRow.holds Try.pinned (OpenSpec.ofChange throwplanSafeWrong)

/-- 'humpyardlaw24.ThrowplanInside': WHATEVER THE INPUT: true; the input reads as it did. -/
def throwplanInsideSpec : ChangeSpec := { name := "throwplanInside", fn := fun _ => fun
  | [d] => { results := [.lit (.bool true)], args := [d] }
  | _ => none }
def throwplanInsideRow : OpenClaim := { program := "ytpelfidmcpcmjaa", sum := "43af934ad49b5d003aefb3717cafa301167c24204b97bb8d27ae1538b3ad4e60", func := "humpyard/humpyardlaw24.ThrowplanInside", spec := "throwplanInside", unfollowed := true, recurses := true, apart := false }
def ThrowplanInsideSaid : Prop := throwplanInsideRow.holds Try.pinned (OpenSpec.ofChange throwplanInsideSpec)

/-- ITS FALSE NEIGHBOUR: 'it returns false'. Refute it at one input. -/
def throwplanInsideWrong : ChangeSpec := { name := "throwplanInside", fn := fun _ => fun
  | [d] => { results := [.lit (.bool false)], args := [d] }
  | _ => none }
def ThrowplanInsideWrongFalsely : Prop := throwplanInsideRow.holds Try.pinned (OpenSpec.ofChange throwplanInsideWrong)

/-- 'humpyardlaw24.ThrowplanNeeded': WHATEVER THE INPUT: true; the input reads as it did. -/
def throwplanNeededSpec : ChangeSpec := { name := "throwplanNeeded", fn := fun _ => fun
  | [d1, d2] => { results := [.lit (.bool true)], args := [d1, d2] }
  | _ => none }
def throwplanNeededRow : OpenClaim := { program := "ytpelfidmcpcmjaa", sum := "43af934ad49b5d003aefb3717cafa301167c24204b97bb8d27ae1538b3ad4e60", func := "humpyard/humpyardlaw24.ThrowplanNeeded", spec := "throwplanNeeded", unfollowed := true, recurses := true, apart := false }
def ThrowplanNeededSaid : Prop := throwplanNeededRow.holds Try.pinned (OpenSpec.ofChange throwplanNeededSpec)

/-- ITS FALSE NEIGHBOUR: 'it returns false'. Refute it at one input. -/
def throwplanNeededWrong : ChangeSpec := { name := "throwplanNeeded", fn := fun _ => fun
  | [d1, d2] => { results := [.lit (.bool false)], args := [d1, d2] }
  | _ => none }
def ThrowplanNeededWrongFalsely : Prop := throwplanNeededRow.holds Try.pinned (OpenSpec.ofChange throwplanNeededWrong)

/-- 'humpyardlaw24.ThrowplanForms': WHATEVER THE INPUT: true; the input reads as it did. -/
def throwplanFormsSpec : ChangeSpec := { name := "throwplanForms", fn := fun _ => fun
  | [d] => { results := [.lit (.bool true)], args := [d] }
  | _ => none }
def throwplanFormsRow : OpenClaim := { program := "ytpelfidmcpcmjaa", sum := "43af934ad49b5d003aefb3717cafa301167c24204b97bb8d27ae1538b3ad4e60", func := "humpyard/humpyardlaw24.ThrowplanForms", spec := "throwplanForms", unfollowed := true, recurses := true, apart := false }
def ThrowplanFormsSaid : Prop := throwplanFormsRow.holds Try.pinned (OpenSpec.ofChange throwplanFormsSpec)

/-- ITS FALSE NEIGHBOUR: 'it returns false'. Refute it at one input. -/
def throwplanFormsWrong : ChangeSpec := { name := "throwplanForms", fn := fun _ => fun
  | [d] => { results := [.lit (.bool false)], args := [d] }
  | _ => none }
def ThrowplanFormsWrongFalsely : Prop := throwplanFormsRow.holds Try.pinned (OpenSpec.ofChange throwplanFormsWrong)

/- THE SECOND FORM. 'bulk': how many values and letters a reading holds, each counted each time it is reached (what is shared counts as often as it is met; a slice's spare places count too). A statement '..UptoSaid' is the law's where the arguments, and the package variables that the reading takes, are together of bulk at most 1048576: NARROWER than '..Said'. Prove '..Said' where nothing that the law and all that it calls make is longer than what came in: it says more and counts as full. Else prove '..UptoSaid'. A law counts once. -/
mutual
def uptoBulk {H : Type} : DataW H → Nat
  | .lit (.string bytes) => bytes.length + 1
  | .lit _ => 1
  | .nil => 1
  | .ptr d => uptoBulk d + 1
  | .slice elems spare => uptoBulkAll elems + uptoBulkAll spare + 1
  | .agg parts => uptoBulkAll parts + 1
  | .iface _ d => uptoBulk d + 1
  | .map entries => uptoBulkEntries entries + 1
  | .held _ => 1
def uptoBulkAll {H : Type} : List (DataW H) → Nat
  | [] => 0
  | d :: r => uptoBulk d + uptoBulkAll r
def uptoBulkEntries {H : Type} : List (Lit × DataW H) → Nat
  | [] => 0
  | x :: r => uptoBulkEntry x + uptoBulkEntries r
def uptoBulkEntry {H : Type} : Lit × DataW H → Nat
  | (.string bytes, d) => bytes.length + uptoBulk d + 1
  | (_, d) => uptoBulk d + 1
 end
def uptoSmall : (H : Type) → List (DataW H) → Bool := fun _ ds => decide (uptoBulkAll ds ≤ 1048576)
def OpenSpec.upto (s : _root_.Go.ChangeSpec) : _root_.Go.OpenSpec := { _root_.Go.OpenSpec.ofChange s with cond := some uptoSmall }

/-- 'humpyardlaw24.ThrowplanExact', WHERE WHAT IT READS IS OF BULK AT MOST 1048576: true; the input reads as it did. -/
def throwplanExactUptoRow : OpenClaim := { program := "ytpelfidmcpcmjaa", sum := "43af934ad49b5d003aefb3717cafa301167c24204b97bb8d27ae1538b3ad4e60", func := "humpyard/humpyardlaw24.ThrowplanExact", spec := "throwplanExact", unfollowed := true, recurses := true, apart := false, narrowed := true }
def ThrowplanExactUptoSaid : Prop := throwplanExactUptoRow.holds Try.pinned (OpenSpec.upto throwplanExactSpec)

/-- 'humpyardlaw24.ThrowplanSafe', WHERE WHAT IT READS IS OF BULK AT MOST 1048576: true; the input reads as it did. -/
def throwplanSafeUptoRow : OpenClaim := { program := "ytpelfidmcpcmjaa", sum := "43af934ad49b5d003aefb3717cafa301167c24204b97bb8d27ae1538b3ad4e60", func := "humpyard/humpyardlaw24.ThrowplanSafe", spec := "throwplanSafe", unfollowed := true, recurses := true, apart := false, narrowed := true }
def ThrowplanSafeUptoSaid : Prop := throwplanSafeUptoRow.holds Try.pinned (OpenSpec.upto throwplanSafeSpec)

/-- 'humpyardlaw24.ThrowplanInside', WHERE WHAT IT READS IS OF BULK AT MOST 1048576: true; the input reads as it did. -/
def throwplanInsideUptoRow : OpenClaim := { program := "ytpelfidmcpcmjaa", sum := "43af934ad49b5d003aefb3717cafa301167c24204b97bb8d27ae1538b3ad4e60", func := "humpyard/humpyardlaw24.ThrowplanInside", spec := "throwplanInside", unfollowed := true, recurses := true, apart := false, narrowed := true }
def ThrowplanInsideUptoSaid : Prop := throwplanInsideUptoRow.holds Try.pinned (OpenSpec.upto throwplanInsideSpec)

/-- 'humpyardlaw24.ThrowplanNeeded', WHERE WHAT IT READS IS OF BULK AT MOST 1048576: true; the input reads as it did. -/
def throwplanNeededUptoRow : OpenClaim := { program := "ytpelfidmcpcmjaa", sum := "43af934ad49b5d003aefb3717cafa301167c24204b97bb8d27ae1538b3ad4e60", func := "humpyard/humpyardlaw24.ThrowplanNeeded", spec := "throwplanNeeded", unfollowed := true, recurses := true, apart := false, narrowed := true }
def ThrowplanNeededUptoSaid : Prop := throwplanNeededUptoRow.holds Try.pinned (OpenSpec.upto throwplanNeededSpec)

/-- 'humpyardlaw24.ThrowplanForms', WHERE WHAT IT READS IS OF BULK AT MOST 1048576: true; the input reads as it did. -/
def throwplanFormsUptoRow : OpenClaim := { program := "ytpelfidmcpcmjaa", sum := "43af934ad49b5d003aefb3717cafa301167c24204b97bb8d27ae1538b3ad4e60", func := "humpyard/humpyardlaw24.ThrowplanForms", spec := "throwplanForms", unfollowed := true, recurses := true, apart := false, narrowed := true }
def ThrowplanFormsUptoSaid : Prop := throwplanFormsUptoRow.holds Try.pinned (OpenSpec.upto throwplanFormsSpec)

end Rows
end Go.Proofs.Ytpelfidmcpcmjaa
