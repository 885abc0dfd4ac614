/-
  No cell of these rows narrows 'for every input' (looked for: loops, veiled, ifaces, maps, wideKeys, modest, calm, conditions, laid).
  DERIVED. THE GIVEN ROWS OF THIS SEAT. 12 by the template 'for every input the law returns true; each argument reads behind the call as it read before'; 0 by the template 'total and deterministic' (their statements: YtgdejgfmhndbhaaTotals.lean).
  GIVEN WITH THE SEED: the statements are not yours to turn. If you find one false, say at which input.
  Laid BY PROGRAM, IN A SANDBOX (cutbox-rows.mjs): the forced cells as the released guide's own fill.sh prints them over the translation 159137236b5f4649… (all of the seat's roots in one cut). By AI agents, Wed Nov 11 2026. No macro, syntax, notation, axiom, sorry.
-/
import Derived.Test.YtgdejgfmhndbhaaChecked
import GoSem.Claim
import GoSem.ClaimJoined
import GoSem.ClaimMapViews
import Derived.JoinedTies
import Derived.KernelRfl
namespace Go.Proofs.Ytgdejgfmhndbhaa
/- THE CELL 'sum', in the pinned program and in every row, IS THE sha256 OF THE DUMP (.gsa) THAT YtgdejgfmhndbhaaProg.lean LOADS. Nothing in Lean hashes anything: it is a label: what it is worth is what the hold of that sum in a sandbox is worth. -/
noncomputable def Try.pinned : Pinned := { name := "ytgdejgfmhndbhaa", sum := "159137236b5f4649418231b9297c646fc1f4c085320ad602ecf04c90404222ca", checked := Try.checked }
namespace Rows
def none {H : Type} : Left H := { results := [], args := [] }

/-- 'lodestarlaw04.WireEncodes': WHATEVER THE INPUT: true; the input reads as it did. -/
def wireEncodesSpec : ChangeSpec := { name := "wireEncodes", fn := fun _ => fun
  | [d] => { results := [.lit (.bool true)], args := [d] }
  | _ => none }
def wireEncodesRow : OpenClaim := { program := "ytgdejgfmhndbhaa", sum := "159137236b5f4649418231b9297c646fc1f4c085320ad602ecf04c90404222ca", func := "lodestar/lodestarlaw04.WireEncodes", spec := "wireEncodes", unfollowed := true, recurses := true, apart := false }
def WireEncodesSaid : Prop := wireEncodesRow.holds Try.pinned (OpenSpec.ofChange wireEncodesSpec)

/-- ITS FALSE NEIGHBOUR: 'it returns false'. Refute it at one input. -/
def wireEncodesWrong : ChangeSpec := { name := "wireEncodes", fn := fun _ => fun
  | [d] => { results := [.lit (.bool false)], args := [d] }
  | _ => none }
def WireEncodesWrongFalsely : Prop := wireEncodesRow.holds Try.pinned (OpenSpec.ofChange wireEncodesWrong)

/-- 'lodestarlaw04.WireBack': WHATEVER THE INPUT: true; the input reads as it did. -/
def wireBackSpec : ChangeSpec := { name := "wireBack", fn := fun _ => fun
  | [d] => { results := [.lit (.bool true)], args := [d] }
  | _ => none }
def wireBackRow : OpenClaim := { program := "ytgdejgfmhndbhaa", sum := "159137236b5f4649418231b9297c646fc1f4c085320ad602ecf04c90404222ca", func := "lodestar/lodestarlaw04.WireBack", spec := "wireBack", unfollowed := true, recurses := true, apart := false }
def WireBackSaid : Prop := wireBackRow.holds Try.pinned (OpenSpec.ofChange wireBackSpec)

/-- ITS FALSE NEIGHBOUR: 'it returns false'. Refute it at one input. -/
def wireBackWrong : ChangeSpec := { name := "wireBack", fn := fun _ => fun
  | [d] => { results := [.lit (.bool false)], args := [d] }
  | _ => none }
def WireBackWrongFalsely : Prop := wireBackRow.holds Try.pinned (OpenSpec.ofChange wireBackWrong)

/-- 'lodestarlaw04.WireAgain': WHATEVER THE INPUT: true; the input reads as it did. -/
def wireAgainSpec : ChangeSpec := { name := "wireAgain", fn := fun _ => fun
  | [d] => { results := [.lit (.bool true)], args := [d] }
  | _ => none }
def wireAgainRow : OpenClaim := { program := "ytgdejgfmhndbhaa", sum := "159137236b5f4649418231b9297c646fc1f4c085320ad602ecf04c90404222ca", func := "lodestar/lodestarlaw04.WireAgain", spec := "wireAgain", unfollowed := true, recurses := true, apart := false }
def WireAgainSaid : Prop := wireAgainRow.holds Try.pinned (OpenSpec.ofChange wireAgainSpec)

/-- ITS FALSE NEIGHBOUR: 'it returns false'. Refute it at one input. -/
def wireAgainWrong : ChangeSpec := { name := "wireAgain", fn := fun _ => fun
  | [d] => { results := [.lit (.bool false)], args := [d] }
  | _ => none }
def WireAgainWrongFalsely : Prop := wireAgainRow.holds Try.pinned (OpenSpec.ofChange wireAgainWrong)

/-- 'lodestarlaw04.WireShort': WHATEVER THE INPUT: true; the input reads as it did. -/
def wireShortSpec : ChangeSpec := { name := "wireShort", fn := fun _ => fun
  | [d1, d2] => { results := [.lit (.bool true)], args := [d1, d2] }
  | _ => none }
def wireShortRow : OpenClaim := { program := "ytgdejgfmhndbhaa", sum := "159137236b5f4649418231b9297c646fc1f4c085320ad602ecf04c90404222ca", func := "lodestar/lodestarlaw04.WireShort", spec := "wireShort", unfollowed := true, recurses := true, apart := false }
def WireShortSaid : Prop := wireShortRow.holds Try.pinned (OpenSpec.ofChange wireShortSpec)

/-- ITS FALSE NEIGHBOUR: 'it returns false'. Refute it at one input. -/
def wireShortWrong : ChangeSpec := { name := "wireShort", fn := fun _ => fun
  | [d1, d2] => { results := [.lit (.bool false)], args := [d1, d2] }
  | _ => none }
def WireShortWrongFalsely : Prop := wireShortRow.holds Try.pinned (OpenSpec.ofChange wireShortWrong)

/-- 'lodestarlaw04.WirePoints': WHATEVER THE INPUT: true; the input reads as it did. -/
def wirePointsSpec : ChangeSpec := { name := "wirePoints", fn := fun _ => fun
  | [d] => { results := [.lit (.bool true)], args := [d] }
  | _ => none }
def wirePointsRow : OpenClaim := { program := "ytgdejgfmhndbhaa", sum := "159137236b5f4649418231b9297c646fc1f4c085320ad602ecf04c90404222ca", func := "lodestar/lodestarlaw04.WirePoints", spec := "wirePoints", unfollowed := true, recurses := true, apart := false }
def WirePointsSaid : Prop := wirePointsRow.holds Try.pinned (OpenSpec.ofChange wirePointsSpec)

/-- ITS FALSE NEIGHBOUR: 'it returns false'. Refute it at one input. -/
def wirePointsWrong : ChangeSpec := { name := "wirePoints", fn := fun _ => fun
  | [d] => { results := [.lit (.bool false)], args := [d] }
  | _ => none }
def WirePointsWrongFalsely : Prop := wirePointsRow.holds Try.pinned (OpenSpec.ofChange wirePointsWrong)

/-- 'lodestarlaw04.WireHead': WHATEVER THE INPUT: true; the input reads as it did. -/
def wireHeadSpec : ChangeSpec := { name := "wireHead", fn := fun _ => fun
  | [d] => { results := [.lit (.bool true)], args := [d] }
  | _ => none }
def wireHeadRow : OpenClaim := { program := "ytgdejgfmhndbhaa", sum := "159137236b5f4649418231b9297c646fc1f4c085320ad602ecf04c90404222ca", func := "lodestar/lodestarlaw04.WireHead", spec := "wireHead", unfollowed := true, recurses := true, apart := false }
def WireHeadSaid : Prop := wireHeadRow.holds Try.pinned (OpenSpec.ofChange wireHeadSpec)

/-- ITS FALSE NEIGHBOUR: 'it returns false'. Refute it at one input. -/
def wireHeadWrong : ChangeSpec := { name := "wireHead", fn := fun _ => fun
  | [d] => { results := [.lit (.bool false)], args := [d] }
  | _ => none }
def WireHeadWrongFalsely : Prop := wireHeadRow.holds Try.pinned (OpenSpec.ofChange wireHeadWrong)

/-- 'lodestarlaw04.WireMore': WHATEVER THE INPUT: true; the input reads as it did. -/
def wireMoreSpec : ChangeSpec := { name := "wireMore", fn := fun _ => fun
  | [d1, d2] => { results := [.lit (.bool true)], args := [d1, d2] }
  | _ => none }
def wireMoreRow : OpenClaim := { program := "ytgdejgfmhndbhaa", sum := "159137236b5f4649418231b9297c646fc1f4c085320ad602ecf04c90404222ca", func := "lodestar/lodestarlaw04.WireMore", spec := "wireMore", unfollowed := true, recurses := true, apart := false }
def WireMoreSaid : Prop := wireMoreRow.holds Try.pinned (OpenSpec.ofChange wireMoreSpec)

/-- ITS FALSE NEIGHBOUR: 'it returns false'. Refute it at one input. -/
def wireMoreWrong : ChangeSpec := { name := "wireMore", fn := fun _ => fun
  | [d1, d2] => { results := [.lit (.bool false)], args := [d1, d2] }
  | _ => none }
def WireMoreWrongFalsely : Prop := wireMoreRow.holds Try.pinned (OpenSpec.ofChange wireMoreWrong)

/-- 'lodestarlaw05.FitLimits': WHATEVER THE INPUT: true; the input reads as it did. -/
def fitLimitsSpec : ChangeSpec := { name := "fitLimits", fn := fun _ => fun
  | [d1, d2] => { results := [.lit (.bool true)], args := [d1, d2] }
  | _ => none }
def fitLimitsRow : OpenClaim := { program := "ytgdejgfmhndbhaa", sum := "159137236b5f4649418231b9297c646fc1f4c085320ad602ecf04c90404222ca", func := "lodestar/lodestarlaw05.FitLimits", spec := "fitLimits", unfollowed := true, recurses := true, apart := false }
def FitLimitsSaid : Prop := fitLimitsRow.holds Try.pinned (OpenSpec.ofChange fitLimitsSpec)

/-- ITS FALSE NEIGHBOUR: 'it returns false'. Refute it at one input. -/
def fitLimitsWrong : ChangeSpec := { name := "fitLimits", fn := fun _ => fun
  | [d1, d2] => { results := [.lit (.bool false)], args := [d1, d2] }
  | _ => none }
def FitLimitsWrongFalsely : Prop := fitLimitsRow.holds Try.pinned (OpenSpec.ofChange fitLimitsWrong)

/-- 'lodestarlaw05.FitAny': WHATEVER THE INPUT: true; the input reads as it did. -/
def fitAnySpec : ChangeSpec := { name := "fitAny", fn := fun _ => fun
  | [d1, d2] => { results := [.lit (.bool true)], args := [d1, d2] }
  | _ => none }
def fitAnyRow : OpenClaim := { program := "ytgdejgfmhndbhaa", sum := "159137236b5f4649418231b9297c646fc1f4c085320ad602ecf04c90404222ca", func := "lodestar/lodestarlaw05.FitAny", spec := "fitAny", unfollowed := true, recurses := true, apart := false }
def FitAnySaid : Prop := fitAnyRow.holds Try.pinned (OpenSpec.ofChange fitAnySpec)

/-- ITS FALSE NEIGHBOUR: 'it returns false'. Refute it at one input. -/
def fitAnyWrong : ChangeSpec := { name := "fitAny", fn := fun _ => fun
  | [d1, d2] => { results := [.lit (.bool false)], args := [d1, d2] }
  | _ => none }
def FitAnyWrongFalsely : Prop := fitAnyRow.holds Try.pinned (OpenSpec.ofChange fitAnyWrong)

/-- 'lodestarlaw05.FitMore': WHATEVER THE INPUT: true; the input reads as it did. -/
def fitMoreSpec : ChangeSpec := { name := "fitMore", fn := fun _ => fun
  | [d1, d2, d3] => { results := [.lit (.bool true)], args := [d1, d2, d3] }
  | _ => none }
def fitMoreRow : OpenClaim := { program := "ytgdejgfmhndbhaa", sum := "159137236b5f4649418231b9297c646fc1f4c085320ad602ecf04c90404222ca", func := "lodestar/lodestarlaw05.FitMore", spec := "fitMore", unfollowed := true, recurses := true, apart := false }
def FitMoreSaid : Prop := fitMoreRow.holds Try.pinned (OpenSpec.ofChange fitMoreSpec)

/-- ITS FALSE NEIGHBOUR: 'it returns false'. Refute it at one input. -/
def fitMoreWrong : ChangeSpec := { name := "fitMore", fn := fun _ => fun
  | [d1, d2, d3] => { results := [.lit (.bool false)], args := [d1, d2, d3] }
  | _ => none }
def FitMoreWrongFalsely : Prop := fitMoreRow.holds Try.pinned (OpenSpec.ofChange fitMoreWrong)

/-- 'lodestarlaw05.FitWhole': WHATEVER THE INPUT: true; the input reads as it did. -/
def fitWholeSpec : ChangeSpec := { name := "fitWhole", fn := fun _ => fun
  | [d1, d2] => { results := [.lit (.bool true)], args := [d1, d2] }
  | _ => none }
def fitWholeRow : OpenClaim := { program := "ytgdejgfmhndbhaa", sum := "159137236b5f4649418231b9297c646fc1f4c085320ad602ecf04c90404222ca", func := "lodestar/lodestarlaw05.FitWhole", spec := "fitWhole", unfollowed := true, recurses := true, apart := false }
def FitWholeSaid : Prop := fitWholeRow.holds Try.pinned (OpenSpec.ofChange fitWholeSpec)

/-- ITS FALSE NEIGHBOUR: 'it returns false'. Refute it at one input. -/
def fitWholeWrong : ChangeSpec := { name := "fitWhole", fn := fun _ => fun
  | [d1, d2] => { results := [.lit (.bool false)], args := [d1, d2] }
  | _ => none }
def FitWholeWrongFalsely : Prop := fitWholeRow.holds Try.pinned (OpenSpec.ofChange fitWholeWrong)

/-- 'lodestarlaw05.FitFits': WHATEVER THE INPUT: true; the input reads as it did. -/
def fitFitsSpec : ChangeSpec := { name := "fitFits", fn := fun _ => fun
  | [d1, d2] => { results := [.lit (.bool true)], args := [d1, d2] }
  | _ => none }
def fitFitsRow : OpenClaim := { program := "ytgdejgfmhndbhaa", sum := "159137236b5f4649418231b9297c646fc1f4c085320ad602ecf04c90404222ca", func := "lodestar/lodestarlaw05.FitFits", spec := "fitFits", unfollowed := true, recurses := true, apart := false }
def FitFitsSaid : Prop := fitFitsRow.holds Try.pinned (OpenSpec.ofChange fitFitsSpec)

/-- ITS FALSE NEIGHBOUR: 'it returns false'. Refute it at one input. -/
def fitFitsWrong : ChangeSpec := { name := "fitFits", fn := fun _ => fun
  | [d1, d2] => { results := [.lit (.bool false)], args := [d1, d2] }
  | _ => none }
def FitFitsWrongFalsely : Prop := fitFitsRow.holds Try.pinned (OpenSpec.ofChange fitFitsWrong)

/- THE SECOND FORM. 'bulk': how many values and letters a reading holds, each counted each time it is reached (what is shared counts as often as it is met; a slice's spare places count too). A statement '..UptoSaid' is the law's where the arguments, and the package variables that the reading takes, are together of bulk at most 1048576: NARROWER than '..Said'. Prove '..Said' where nothing that the law and all that it calls make is longer than what came in: it says more and counts as full. Else prove '..UptoSaid'. A law counts once. -/
mutual
def uptoBulk {H : Type} : DataW H → Nat
  | .lit (.string bytes) => bytes.length + 1
  | .lit _ => 1
  | .nil => 1
  | .ptr d => uptoBulk d + 1
  | .slice elems spare => uptoBulkAll elems + uptoBulkAll spare + 1
  | .agg parts => uptoBulkAll parts + 1
  | .iface _ d => uptoBulk d + 1
  | .map entries => uptoBulkEntries entries + 1
  | .held _ => 1
def uptoBulkAll {H : Type} : List (DataW H) → Nat
  | [] => 0
  | d :: r => uptoBulk d + uptoBulkAll r
def uptoBulkEntries {H : Type} : List (Lit × DataW H) → Nat
  | [] => 0
  | x :: r => uptoBulkEntry x + uptoBulkEntries r
def uptoBulkEntry {H : Type} : Lit × DataW H → Nat
  | (.string bytes, d) => bytes.length + uptoBulk d + 1
  | (_, d) => uptoBulk d + 1
 end
def uptoSmall : (H : Type) → List (DataW H) → Bool := fun _ ds => decide (uptoBulkAll ds ≤ 1048576)
def OpenSpec.upto (s : _root_.Go.ChangeSpec) : _root_.Go.OpenSpec := { _root_.Go.OpenSpec.ofChange s with cond := some uptoSmall }

/-- 'lodestarlaw04.WireEncodes', WHERE WHAT IT READS IS OF BULK AT MOST 1048576: true; the input reads as it did. -/
def wireEncodesUptoRow : OpenClaim := { program := "ytgdejgfmhndbhaa", sum := "159137236b5f4649418231b9297c646fc1f4c085320ad602ecf04c90404222ca", func := "lodestar/lodestarlaw04.WireEncodes", spec := "wireEncodes", unfollowed := true, recurses := true, apart := false, narrowed := true }
def WireEncodesUptoSaid : Prop := wireEncodesUptoRow.holds Try.pinned (OpenSpec.upto wireEncodesSpec)

/-- 'lodestarlaw04.WireBack', WHERE WHAT IT READS IS OF BULK AT MOST 1048576: true; the input reads as it did. -/
def wireBackUptoRow : OpenClaim := { program := "ytgdejgfmhndbhaa", sum := "159137236b5f4649418231b9297c646fc1f4c085320ad602ecf04c90404222ca", func := "lodestar/lodestarlaw04.WireBack", spec := "wireBack", unfollowed := true, recurses := true, apart := false, narrowed := true }
def WireBackUptoSaid : Prop := wireBackUptoRow.holds Try.pinned (OpenSpec.upto wireBackSpec)

/-- 'lodestarlaw04.WireAgain', WHERE WHAT IT READS IS OF BULK AT MOST 1048576: true; the input reads as it did. -/
def wireAgainUptoRow : OpenClaim := { program := "ytgdejgfmhndbhaa", sum := "159137236b5f4649418231b9297c646fc1f4c085320ad602ecf04c90404222ca", func := "lodestar/lodestarlaw04.WireAgain", spec := "wireAgain", unfollowed := true, recurses := true, apart := false, narrowed := true }
def WireAgainUptoSaid : Prop := wireAgainUptoRow.holds Try.pinned (OpenSpec.upto wireAgainSpec)

/-- 'lodestarlaw04.WireShort', WHERE WHAT IT READS IS OF BULK AT MOST 1048576: true; the input reads as it did. -/
def wireShortUptoRow : OpenClaim := { program := "ytgdejgfmhndbhaa", sum := "159137236b5f4649418231b9297c646fc1f4c085320ad602ecf04c90404222ca", func := "lodestar/lodestarlaw04.WireShort", spec := "wireShort", unfollowed := true, recurses := true, apart := false, narrowed := true }
def WireShortUptoSaid : Prop := wireShortUptoRow.holds Try.pinned (OpenSpec.upto wireShortSpec)

/-- 'lodestarlaw04.WirePoints', WHERE WHAT IT READS IS OF BULK AT MOST 1048576: true; the input reads as it did. -/
def wirePointsUptoRow : OpenClaim := { program := "ytgdejgfmhndbhaa", sum := "159137236b5f4649418231b9297c646fc1f4c085320ad602ecf04c90404222ca", func := "lodestar/lodestarlaw04.WirePoints", spec := "wirePoints", unfollowed := true, recurses := true, apart := false, narrowed := true }
def WirePointsUptoSaid : Prop := wirePointsUptoRow.holds Try.pinned (OpenSpec.upto wirePointsSpec)

/-- 'lodestarlaw04.WireHead', WHERE WHAT IT READS IS OF BULK AT MOST 1048576: true; the input reads as it did. -/
def wireHeadUptoRow : OpenClaim := { program := "ytgdejgfmhndbhaa", sum := "159137236b5f4649418231b9297c646fc1f4c085320ad602ecf04c90404222ca", func := "lodestar/lodestarlaw04.WireHead", spec := "wireHead", unfollowed := true, recurses := true, apart := false, narrowed := true }
def WireHeadUptoSaid : Prop := wireHeadUptoRow.holds Try.pinned (OpenSpec.upto wireHeadSpec)

/-- 'lodestarlaw04.WireMore', WHERE WHAT IT READS IS OF BULK AT MOST 1048576: true; the input reads as it did. -/
def wireMoreUptoRow : OpenClaim := { program := "ytgdejgfmhndbhaa", sum := "159137236b5f4649418231b9297c646fc1f4c085320ad602ecf04c90404222ca", func := "lodestar/lodestarlaw04.WireMore", spec := "wireMore", unfollowed := true, recurses := true, apart := false, narrowed := true }
def WireMoreUptoSaid : Prop := wireMoreUptoRow.holds Try.pinned (OpenSpec.upto wireMoreSpec)

/-- 'lodestarlaw05.FitLimits', WHERE WHAT IT READS IS OF BULK AT MOST 1048576: true; the input reads as it did. -/
def fitLimitsUptoRow : OpenClaim := { program := "ytgdejgfmhndbhaa", sum := "159137236b5f4649418231b9297c646fc1f4c085320ad602ecf04c90404222ca", func := "lodestar/lodestarlaw05.FitLimits", spec := "fitLimits", unfollowed := true, recurses := true, apart := false, narrowed := true }
def FitLimitsUptoSaid : Prop := fitLimitsUptoRow.holds Try.pinned (OpenSpec.upto fitLimitsSpec)

/-- 'lodestarlaw05.FitAny', WHERE WHAT IT READS IS OF BULK AT MOST 1048576: true; the input reads as it did. -/
def fitAnyUptoRow : OpenClaim := { program := "ytgdejgfmhndbhaa", sum := "159137236b5f4649418231b9297c646fc1f4c085320ad602ecf04c90404222ca", func := "lodestar/lodestarlaw05.FitAny", spec := "fitAny", unfollowed := true, recurses := true, apart := false, narrowed := true }
def FitAnyUptoSaid : Prop := fitAnyUptoRow.holds Try.pinned (OpenSpec.upto fitAnySpec)

/-- 'lodestarlaw05.FitMore', WHERE WHAT IT READS IS OF BULK AT MOST 1048576: true; the input reads as it did. -/
def fitMoreUptoRow : OpenClaim := { program := "ytgdejgfmhndbhaa", sum := "159137236b5f4649418231b9297c646fc1f4c085320ad602ecf04c90404222ca", func := "lodestar/lodestarlaw05.FitMore", spec := "fitMore", unfollowed := true, recurses := true, apart := false, narrowed := true }
def FitMoreUptoSaid : Prop := fitMoreUptoRow.holds Try.pinned (OpenSpec.upto fitMoreSpec)

/-- 'lodestarlaw05.FitWhole', WHERE WHAT IT READS IS OF BULK AT MOST 1048576: true; the input reads as it did. -/
def fitWholeUptoRow : OpenClaim := { program := "ytgdejgfmhndbhaa", sum := "159137236b5f4649418231b9297c646fc1f4c085320ad602ecf04c90404222ca", func := "lodestar/lodestarlaw05.FitWhole", spec := "fitWhole", unfollowed := true, recurses := true, apart := false, narrowed := true }
def FitWholeUptoSaid : Prop := fitWholeUptoRow.holds Try.pinned (OpenSpec.upto fitWholeSpec)

/-- 'lodestarlaw05.FitFits', WHERE WHAT IT READS IS OF BULK AT MOST 1048576: true; the input reads as it did. -/
def fitFitsUptoRow : OpenClaim := { program := "ytgdejgfmhndbhaa", sum := "159137236b5f4649418231b9297c646fc1f4c085320ad602ecf04c90404222ca", func := "lodestar/lodestarlaw05.FitFits", spec := "fitFits", unfollowed := true, recurses := true, apart := false, narrowed := true }
def FitFitsUptoSaid : Prop := fitFitsUptoRow.holds Try.pinned (OpenSpec.upto fitFitsSpec)

end Rows
end Go.Proofs.Ytgdejgfmhndbhaa
