/-
  No cell of these rows narrows 'for every input' (looked for: loops, veiled, ifaces, maps, wideKeys, modest, calm, conditions, laid).
  DERIVED. THE GIVEN ROWS OF THIS SEAT. 12 by the template 'for every input the law returns true; each argument reads behind the call as it read before'; 0 by the template 'total and deterministic' (their statements: YtdjleplefbmjbaaTotals.lean).
  GIVEN WITH THE SEED: the statements are not yours to turn. If you find one false, say at which input.
  Laid BY PROGRAM, IN A SANDBOX (cutbox-rows.mjs): the forced cells as the released guide's own fill.sh prints them over the translation 7a7e338af435b6ce… (all of the seat's roots in one cut). By AI agents, Wed Nov 11 2026. No macro, syntax, notation, axiom, sorry.
-/
import Derived.Test.YtdjleplefbmjbaaChecked
import GoSem.Claim
import GoSem.ClaimJoined
import GoSem.ClaimMapViews
import Derived.JoinedTies
import Derived.KernelRfl
namespace Go.Proofs.Ytdjleplefbmjbaa
/- THE CELL 'sum', in the pinned program and in every row, IS THE sha256 OF THE DUMP (.gsa) THAT YtdjleplefbmjbaaProg.lean LOADS. Nothing in Lean hashes anything: it is a label: what it is worth is what the hold of that sum in a sandbox is worth. -/
noncomputable def Try.pinned : Pinned := { name := "ytdjleplefbmjbaa", sum := "7a7e338af435b6cee23152da602dade205928ff4ed3e93c025be5400ab766bf7", checked := Try.checked }
namespace Rows
def none {H : Type} : Left H := { results := [], args := [] }

/-- 'lodestarlaw01.NameTexts': WHATEVER THE INPUT: true; the input reads as it did. -/
def nameTextsSpec : ChangeSpec := { name := "nameTexts", fn := fun _ => fun
  | [d1, d2] => { results := [.lit (.bool true)], args := [d1, d2] }
  | _ => none }
def nameTextsRow : OpenClaim := { program := "ytdjleplefbmjbaa", sum := "7a7e338af435b6cee23152da602dade205928ff4ed3e93c025be5400ab766bf7", func := "lodestar/lodestarlaw01.NameTexts", spec := "nameTexts", inPlace := ["internal/abi.NoEscape"], unfollowed := true, recurses := true, apart := false }
def NameTextsSaid : Prop := nameTextsRow.holds Try.pinned (OpenSpec.ofChange nameTextsSpec)

/-- ITS FALSE NEIGHBOUR: 'it returns false'. Refute it at one input. -/
def nameTextsWrong : ChangeSpec := { name := "nameTexts", fn := fun _ => fun
  | [d1, d2] => { results := [.lit (.bool false)], args := [d1, d2] }
  | _ => none }
def NameTextsWrongFalsely : Prop := nameTextsRow.holds Try.pinned (OpenSpec.ofChange nameTextsWrong)

/-- 'lodestarlaw01.NameBack': WHATEVER THE INPUT: true; the input reads as it did. -/
def nameBackSpec : ChangeSpec := { name := "nameBack", fn := fun _ => fun
  | [d1, d2] => { results := [.lit (.bool true)], args := [d1, d2] }
  | _ => none }
def nameBackRow : OpenClaim := { program := "ytdjleplefbmjbaa", sum := "7a7e338af435b6cee23152da602dade205928ff4ed3e93c025be5400ab766bf7", func := "lodestar/lodestarlaw01.NameBack", spec := "nameBack", inPlace := ["internal/abi.NoEscape"], unfollowed := true, recurses := true, apart := false }
def NameBackSaid : Prop := nameBackRow.holds Try.pinned (OpenSpec.ofChange nameBackSpec)

/-- ITS FALSE NEIGHBOUR: 'it returns false'. Refute it at one input. -/
def nameBackWrong : ChangeSpec := { name := "nameBack", fn := fun _ => fun
  | [d1, d2] => { results := [.lit (.bool false)], args := [d1, d2] }
  | _ => none }
def NameBackWrongFalsely : Prop := nameBackRow.holds Try.pinned (OpenSpec.ofChange nameBackWrong)

/-- 'lodestarlaw01.NameTogether': WHATEVER THE INPUT: true; the input reads as it did. -/
def nameTogetherSpec : ChangeSpec := { name := "nameTogether", fn := fun _ => fun
  | [d] => { results := [.lit (.bool true)], args := [d] }
  | _ => none }
def nameTogetherRow : OpenClaim := { program := "ytdjleplefbmjbaa", sum := "7a7e338af435b6cee23152da602dade205928ff4ed3e93c025be5400ab766bf7", func := "lodestar/lodestarlaw01.NameTogether", spec := "nameTogether", inPlace := ["internal/abi.NoEscape"], unfollowed := true, recurses := true, apart := false }
def NameTogetherSaid : Prop := nameTogetherRow.holds Try.pinned (OpenSpec.ofChange nameTogetherSpec)

/-- ITS FALSE NEIGHBOUR: 'it returns false'. Refute it at one input. -/
def nameTogetherWrong : ChangeSpec := { name := "nameTogether", fn := fun _ => fun
  | [d] => { results := [.lit (.bool false)], args := [d] }
  | _ => none }
def NameTogetherWrongFalsely : Prop := nameTogetherRow.holds Try.pinned (OpenSpec.ofChange nameTogetherWrong)

/-- 'lodestarlaw01.NameFolds': WHATEVER THE INPUT: true; the input reads as it did. -/
def nameFoldsSpec : ChangeSpec := { name := "nameFolds", fn := fun _ => fun
  | [d1, d2] => { results := [.lit (.bool true)], args := [d1, d2] }
  | _ => none }
def nameFoldsRow : OpenClaim := { program := "ytdjleplefbmjbaa", sum := "7a7e338af435b6cee23152da602dade205928ff4ed3e93c025be5400ab766bf7", func := "lodestar/lodestarlaw01.NameFolds", spec := "nameFolds", inPlace := ["internal/abi.NoEscape"], unfollowed := true, recurses := true, apart := false }
def NameFoldsSaid : Prop := nameFoldsRow.holds Try.pinned (OpenSpec.ofChange nameFoldsSpec)

/-- ITS FALSE NEIGHBOUR: 'it returns false'. Refute it at one input. -/
def nameFoldsWrong : ChangeSpec := { name := "nameFolds", fn := fun _ => fun
  | [d1, d2] => { results := [.lit (.bool false)], args := [d1, d2] }
  | _ => none }
def NameFoldsWrongFalsely : Prop := nameFoldsRow.holds Try.pinned (OpenSpec.ofChange nameFoldsWrong)

/-- 'lodestarlaw01.NameChecks': WHATEVER THE INPUT: true; the input reads as it did. -/
def nameChecksSpec : ChangeSpec := { name := "nameChecks", fn := fun _ => fun
  | [d] => { results := [.lit (.bool true)], args := [d] }
  | _ => none }
def nameChecksRow : OpenClaim := { program := "ytdjleplefbmjbaa", sum := "7a7e338af435b6cee23152da602dade205928ff4ed3e93c025be5400ab766bf7", func := "lodestar/lodestarlaw01.NameChecks", spec := "nameChecks", inPlace := ["internal/abi.NoEscape"], unfollowed := true, recurses := true, apart := false }
def NameChecksSaid : Prop := nameChecksRow.holds Try.pinned (OpenSpec.ofChange nameChecksSpec)

/-- ITS FALSE NEIGHBOUR: 'it returns false'. Refute it at one input. -/
def nameChecksWrong : ChangeSpec := { name := "nameChecks", fn := fun _ => fun
  | [d] => { results := [.lit (.bool false)], args := [d] }
  | _ => none }
def NameChecksWrongFalsely : Prop := nameChecksRow.holds Try.pinned (OpenSpec.ofChange nameChecksWrong)

/-- 'lodestarlaw01.NameJoins': WHATEVER THE INPUT: true; the input reads as it did. -/
def nameJoinsSpec : ChangeSpec := { name := "nameJoins", fn := fun _ => fun
  | [d] => { results := [.lit (.bool true)], args := [d] }
  | _ => none }
def nameJoinsRow : OpenClaim := { program := "ytdjleplefbmjbaa", sum := "7a7e338af435b6cee23152da602dade205928ff4ed3e93c025be5400ab766bf7", func := "lodestar/lodestarlaw01.NameJoins", spec := "nameJoins", inPlace := ["internal/abi.NoEscape"], unfollowed := true, recurses := true, apart := false }
def NameJoinsSaid : Prop := nameJoinsRow.holds Try.pinned (OpenSpec.ofChange nameJoinsSpec)

/-- ITS FALSE NEIGHBOUR: 'it returns false'. Refute it at one input. -/
def nameJoinsWrong : ChangeSpec := { name := "nameJoins", fn := fun _ => fun
  | [d] => { results := [.lit (.bool false)], args := [d] }
  | _ => none }
def NameJoinsWrongFalsely : Prop := nameJoinsRow.holds Try.pinned (OpenSpec.ofChange nameJoinsWrong)

/-- 'lodestarlaw01.NameParents': WHATEVER THE INPUT: true; the input reads as it did. -/
def nameParentsSpec : ChangeSpec := { name := "nameParents", fn := fun _ => fun
  | [d] => { results := [.lit (.bool true)], args := [d] }
  | _ => none }
def nameParentsRow : OpenClaim := { program := "ytdjleplefbmjbaa", sum := "7a7e338af435b6cee23152da602dade205928ff4ed3e93c025be5400ab766bf7", func := "lodestar/lodestarlaw01.NameParents", spec := "nameParents", inPlace := ["internal/abi.NoEscape"], unfollowed := true, recurses := true, apart := false }
def NameParentsSaid : Prop := nameParentsRow.holds Try.pinned (OpenSpec.ofChange nameParentsSpec)

/-- ITS FALSE NEIGHBOUR: 'it returns false'. Refute it at one input. -/
def nameParentsWrong : ChangeSpec := { name := "nameParents", fn := fun _ => fun
  | [d] => { results := [.lit (.bool false)], args := [d] }
  | _ => none }
def NameParentsWrongFalsely : Prop := nameParentsRow.holds Try.pinned (OpenSpec.ofChange nameParentsWrong)

/-- 'lodestarlaw01.NameJoined': WHATEVER THE INPUT: true; the input reads as it did. -/
def nameJoinedSpec : ChangeSpec := { name := "nameJoined", fn := fun _ => fun
  | [d1, d2] => { results := [.lit (.bool true)], args := [d1, d2] }
  | _ => none }
def nameJoinedRow : OpenClaim := { program := "ytdjleplefbmjbaa", sum := "7a7e338af435b6cee23152da602dade205928ff4ed3e93c025be5400ab766bf7", func := "lodestar/lodestarlaw01.NameJoined", spec := "nameJoined", inPlace := ["internal/abi.NoEscape"], unfollowed := true, recurses := true, apart := false }
def NameJoinedSaid : Prop := nameJoinedRow.holds Try.pinned (OpenSpec.ofChange nameJoinedSpec)

/-- ITS FALSE NEIGHBOUR: 'it returns false'. Refute it at one input. -/
def nameJoinedWrong : ChangeSpec := { name := "nameJoined", fn := fun _ => fun
  | [d1, d2] => { results := [.lit (.bool false)], args := [d1, d2] }
  | _ => none }
def NameJoinedWrongFalsely : Prop := nameJoinedRow.holds Try.pinned (OpenSpec.ofChange nameJoinedWrong)

/-- 'lodestarlaw19.DenialNil': WHATEVER THE INPUT: true; the input reads as it did. -/
def denialNilSpec : ChangeSpec := { name := "denialNil", fn := fun _ => fun
  | [d] => { results := [.lit (.bool true)], args := [d] }
  | _ => none }
def denialNilRow : OpenClaim := { program := "ytdjleplefbmjbaa", sum := "7a7e338af435b6cee23152da602dade205928ff4ed3e93c025be5400ab766bf7", func := "lodestar/lodestarlaw19.DenialNil", spec := "denialNil", inPlace := ["internal/abi.NoEscape"], unfollowed := true, recurses := true, apart := false }
def DenialNilSaid : Prop := denialNilRow.holds Try.pinned (OpenSpec.ofChange denialNilSpec)

/-- ITS FALSE NEIGHBOUR: 'it returns false'. Refute it at one input. -/
def denialNilWrong : ChangeSpec := { name := "denialNil", fn := fun _ => fun
  | [d] => { results := [.lit (.bool false)], args := [d] }
  | _ => none }
def DenialNilWrongFalsely : Prop := denialNilRow.holds Try.pinned (OpenSpec.ofChange denialNilWrong)

/-- 'lodestarlaw19.DenialHolds': WHATEVER THE INPUT: true; the input reads as it did. -/
def denialHoldsSpec : ChangeSpec := { name := "denialHolds", fn := fun _ => fun
  | [d1, d2, d3] => { results := [.lit (.bool true)], args := [d1, d2, d3] }
  | _ => none }
def denialHoldsRow : OpenClaim := { program := "ytdjleplefbmjbaa", sum := "7a7e338af435b6cee23152da602dade205928ff4ed3e93c025be5400ab766bf7", func := "lodestar/lodestarlaw19.DenialHolds", spec := "denialHolds", inPlace := ["internal/abi.NoEscape"], unfollowed := true, recurses := true, apart := false }
def DenialHoldsSaid : Prop := denialHoldsRow.holds Try.pinned (OpenSpec.ofChange denialHoldsSpec)

/-- ITS FALSE NEIGHBOUR: 'it returns false'. Refute it at one input. -/
def denialHoldsWrong : ChangeSpec := { name := "denialHolds", fn := fun _ => fun
  | [d1, d2, d3] => { results := [.lit (.bool false)], args := [d1, d2, d3] }
  | _ => none }
def DenialHoldsWrongFalsely : Prop := denialHoldsRow.holds Try.pinned (OpenSpec.ofChange denialHoldsWrong)

/-- 'lodestarlaw19.DenialBound': WHATEVER THE INPUT: true; the input reads as it did. -/
def denialBoundSpec : ChangeSpec := { name := "denialBound", fn := fun _ => fun
  | [d1, d2] => { results := [.lit (.bool true)], args := [d1, d2] }
  | _ => none }
def denialBoundRow : OpenClaim := { program := "ytdjleplefbmjbaa", sum := "7a7e338af435b6cee23152da602dade205928ff4ed3e93c025be5400ab766bf7", func := "lodestar/lodestarlaw19.DenialBound", spec := "denialBound", inPlace := ["internal/abi.NoEscape"], unfollowed := true, recurses := true, apart := false }
def DenialBoundSaid : Prop := denialBoundRow.holds Try.pinned (OpenSpec.ofChange denialBoundSpec)

/-- ITS FALSE NEIGHBOUR: 'it returns false'. Refute it at one input. -/
def denialBoundWrong : ChangeSpec := { name := "denialBound", fn := fun _ => fun
  | [d1, d2] => { results := [.lit (.bool false)], args := [d1, d2] }
  | _ => none }
def DenialBoundWrongFalsely : Prop := denialBoundRow.holds Try.pinned (OpenSpec.ofChange denialBoundWrong)

/-- 'lodestarlaw19.DenialTime': WHATEVER THE INPUT: true; the input reads as it did. -/
def denialTimeSpec : ChangeSpec := { name := "denialTime", fn := fun _ => fun
  | [d] => { results := [.lit (.bool true)], args := [d] }
  | _ => none }
def denialTimeRow : OpenClaim := { program := "ytdjleplefbmjbaa", sum := "7a7e338af435b6cee23152da602dade205928ff4ed3e93c025be5400ab766bf7", func := "lodestar/lodestarlaw19.DenialTime", spec := "denialTime", inPlace := ["internal/abi.NoEscape"], unfollowed := true, recurses := true, apart := false }
def DenialTimeSaid : Prop := denialTimeRow.holds Try.pinned (OpenSpec.ofChange denialTimeSpec)

/-- ITS FALSE NEIGHBOUR: 'it returns false'. Refute it at one input. -/
def denialTimeWrong : ChangeSpec := { name := "denialTime", fn := fun _ => fun
  | [d] => { results := [.lit (.bool false)], args := [d] }
  | _ => none }
def DenialTimeWrongFalsely : Prop := denialTimeRow.holds Try.pinned (OpenSpec.ofChange denialTimeWrong)

/- THE SECOND FORM. 'bulk': how many values and letters a reading holds, each counted each time it is reached (what is shared counts as often as it is met; a slice's spare places count too). A statement '..UptoSaid' is the law's where the arguments, and the package variables that the reading takes, are together of bulk at most 1048576: NARROWER than '..Said'. Prove '..Said' where nothing that the law and all that it calls make is longer than what came in: it says more and counts as full. Else prove '..UptoSaid'. A law counts once. -/
mutual
def uptoBulk {H : Type} : DataW H → Nat
  | .lit (.string bytes) => bytes.length + 1
  | .lit _ => 1
  | .nil => 1
  | .ptr d => uptoBulk d + 1
  | .slice elems spare => uptoBulkAll elems + uptoBulkAll spare + 1
  | .agg parts => uptoBulkAll parts + 1
  | .iface _ d => uptoBulk d + 1
  | .map entries => uptoBulkEntries entries + 1
  | .held _ => 1
def uptoBulkAll {H : Type} : List (DataW H) → Nat
  | [] => 0
  | d :: r => uptoBulk d + uptoBulkAll r
def uptoBulkEntries {H : Type} : List (Lit × DataW H) → Nat
  | [] => 0
  | x :: r => uptoBulkEntry x + uptoBulkEntries r
def uptoBulkEntry {H : Type} : Lit × DataW H → Nat
  | (.string bytes, d) => bytes.length + uptoBulk d + 1
  | (_, d) => uptoBulk d + 1
 end
def uptoSmall : (H : Type) → List (DataW H) → Bool := fun _ ds => decide (uptoBulkAll ds ≤ 1048576)
def OpenSpec.upto (s : _root_.Go.ChangeSpec) : _root_.Go.OpenSpec := { _root_.Go.OpenSpec.ofChange s with cond := some uptoSmall }

/-- 'lodestarlaw01.NameTexts', WHERE WHAT IT READS IS OF BULK AT MOST 1048576: true; the input reads as it did. -/
def nameTextsUptoRow : OpenClaim := { program := "ytdjleplefbmjbaa", sum := "7a7e338af435b6cee23152da602dade205928ff4ed3e93c025be5400ab766bf7", func := "lodestar/lodestarlaw01.NameTexts", spec := "nameTexts", inPlace := ["internal/abi.NoEscape"], unfollowed := true, recurses := true, apart := false, narrowed := true }
def NameTextsUptoSaid : Prop := nameTextsUptoRow.holds Try.pinned (OpenSpec.upto nameTextsSpec)

/-- 'lodestarlaw01.NameBack', WHERE WHAT IT READS IS OF BULK AT MOST 1048576: true; the input reads as it did. -/
def nameBackUptoRow : OpenClaim := { program := "ytdjleplefbmjbaa", sum := "7a7e338af435b6cee23152da602dade205928ff4ed3e93c025be5400ab766bf7", func := "lodestar/lodestarlaw01.NameBack", spec := "nameBack", inPlace := ["internal/abi.NoEscape"], unfollowed := true, recurses := true, apart := false, narrowed := true }
def NameBackUptoSaid : Prop := nameBackUptoRow.holds Try.pinned (OpenSpec.upto nameBackSpec)

/-- 'lodestarlaw01.NameTogether', WHERE WHAT IT READS IS OF BULK AT MOST 1048576: true; the input reads as it did. -/
def nameTogetherUptoRow : OpenClaim := { program := "ytdjleplefbmjbaa", sum := "7a7e338af435b6cee23152da602dade205928ff4ed3e93c025be5400ab766bf7", func := "lodestar/lodestarlaw01.NameTogether", spec := "nameTogether", inPlace := ["internal/abi.NoEscape"], unfollowed := true, recurses := true, apart := false, narrowed := true }
def NameTogetherUptoSaid : Prop := nameTogetherUptoRow.holds Try.pinned (OpenSpec.upto nameTogetherSpec)

/-- 'lodestarlaw01.NameFolds', WHERE WHAT IT READS IS OF BULK AT MOST 1048576: true; the input reads as it did. -/
def nameFoldsUptoRow : OpenClaim := { program := "ytdjleplefbmjbaa", sum := "7a7e338af435b6cee23152da602dade205928ff4ed3e93c025be5400ab766bf7", func := "lodestar/lodestarlaw01.NameFolds", spec := "nameFolds", inPlace := ["internal/abi.NoEscape"], unfollowed := true, recurses := true, apart := false, narrowed := true }
def NameFoldsUptoSaid : Prop := nameFoldsUptoRow.holds Try.pinned (OpenSpec.upto nameFoldsSpec)

/-- 'lodestarlaw01.NameChecks', WHERE WHAT IT READS IS OF BULK AT MOST 1048576: true; the input reads as it did. -/
def nameChecksUptoRow : OpenClaim := { program := "ytdjleplefbmjbaa", sum := "7a7e338af435b6cee23152da602dade205928ff4ed3e93c025be5400ab766bf7", func := "lodestar/lodestarlaw01.NameChecks", spec := "nameChecks", inPlace := ["internal/abi.NoEscape"], unfollowed := true, recurses := true, apart := false, narrowed := true }
def NameChecksUptoSaid : Prop := nameChecksUptoRow.holds Try.pinned (OpenSpec.upto nameChecksSpec)

/-- 'lodestarlaw01.NameJoins', WHERE WHAT IT READS IS OF BULK AT MOST 1048576: true; the input reads as it did. -/
def nameJoinsUptoRow : OpenClaim := { program := "ytdjleplefbmjbaa", sum := "7a7e338af435b6cee23152da602dade205928ff4ed3e93c025be5400ab766bf7", func := "lodestar/lodestarlaw01.NameJoins", spec := "nameJoins", inPlace := ["internal/abi.NoEscape"], unfollowed := true, recurses := true, apart := false, narrowed := true }
def NameJoinsUptoSaid : Prop := nameJoinsUptoRow.holds Try.pinned (OpenSpec.upto nameJoinsSpec)

/-- 'lodestarlaw01.NameParents', WHERE WHAT IT READS IS OF BULK AT MOST 1048576: true; the input reads as it did. -/
def nameParentsUptoRow : OpenClaim := { program := "ytdjleplefbmjbaa", sum := "7a7e338af435b6cee23152da602dade205928ff4ed3e93c025be5400ab766bf7", func := "lodestar/lodestarlaw01.NameParents", spec := "nameParents", inPlace := ["internal/abi.NoEscape"], unfollowed := true, recurses := true, apart := false, narrowed := true }
def NameParentsUptoSaid : Prop := nameParentsUptoRow.holds Try.pinned (OpenSpec.upto nameParentsSpec)

/-- 'lodestarlaw01.NameJoined', WHERE WHAT IT READS IS OF BULK AT MOST 1048576: true; the input reads as it did. -/
def nameJoinedUptoRow : OpenClaim := { program := "ytdjleplefbmjbaa", sum := "7a7e338af435b6cee23152da602dade205928ff4ed3e93c025be5400ab766bf7", func := "lodestar/lodestarlaw01.NameJoined", spec := "nameJoined", inPlace := ["internal/abi.NoEscape"], unfollowed := true, recurses := true, apart := false, narrowed := true }
def NameJoinedUptoSaid : Prop := nameJoinedUptoRow.holds Try.pinned (OpenSpec.upto nameJoinedSpec)

/-- 'lodestarlaw19.DenialNil', WHERE WHAT IT READS IS OF BULK AT MOST 1048576: true; the input reads as it did. -/
def denialNilUptoRow : OpenClaim := { program := "ytdjleplefbmjbaa", sum := "7a7e338af435b6cee23152da602dade205928ff4ed3e93c025be5400ab766bf7", func := "lodestar/lodestarlaw19.DenialNil", spec := "denialNil", inPlace := ["internal/abi.NoEscape"], unfollowed := true, recurses := true, apart := false, narrowed := true }
def DenialNilUptoSaid : Prop := denialNilUptoRow.holds Try.pinned (OpenSpec.upto denialNilSpec)

/-- 'lodestarlaw19.DenialHolds', WHERE WHAT IT READS IS OF BULK AT MOST 1048576: true; the input reads as it did. -/
def denialHoldsUptoRow : OpenClaim := { program := "ytdjleplefbmjbaa", sum := "7a7e338af435b6cee23152da602dade205928ff4ed3e93c025be5400ab766bf7", func := "lodestar/lodestarlaw19.DenialHolds", spec := "denialHolds", inPlace := ["internal/abi.NoEscape"], unfollowed := true, recurses := true, apart := false, narrowed := true }
def DenialHoldsUptoSaid : Prop := denialHoldsUptoRow.holds Try.pinned (OpenSpec.upto denialHoldsSpec)

/-- 'lodestarlaw19.DenialBound', WHERE WHAT IT READS IS OF BULK AT MOST 1048576: true; the input reads as it did. -/
def denialBoundUptoRow : OpenClaim := { program := "ytdjleplefbmjbaa", sum := "7a7e338af435b6cee23152da602dade205928ff4ed3e93c025be5400ab766bf7", func := "lodestar/lodestarlaw19.DenialBound", spec := "denialBound", inPlace := ["internal/abi.NoEscape"], unfollowed := true, recurses := true, apart := false, narrowed := true }
def DenialBoundUptoSaid : Prop := denialBoundUptoRow.holds Try.pinned (OpenSpec.upto denialBoundSpec)

/-- 'lodestarlaw19.DenialTime', WHERE WHAT IT READS IS OF BULK AT MOST 1048576: true; the input reads as it did. -/
def denialTimeUptoRow : OpenClaim := { program := "ytdjleplefbmjbaa", sum := "7a7e338af435b6cee23152da602dade205928ff4ed3e93c025be5400ab766bf7", func := "lodestar/lodestarlaw19.DenialTime", spec := "denialTime", inPlace := ["internal/abi.NoEscape"], unfollowed := true, recurses := true, apart := false, narrowed := true }
def DenialTimeUptoSaid : Prop := denialTimeUptoRow.holds Try.pinned (OpenSpec.upto denialTimeSpec)

end Rows
end Go.Proofs.Ytdjleplefbmjbaa
