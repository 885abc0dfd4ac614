/-
  No cell of these rows narrows 'for every input' (looked for: loops, veiled, ifaces, maps, wideKeys, modest, calm, conditions, laid).
  DERIVED. THE GIVEN ROWS OF THIS SEAT. 11 by the template 'for every input the law returns true; each argument reads behind the call as it read before'; 0 by the template 'total and deterministic' (their statements: YtebnilkcpklnmaaTotals.lean).
  GIVEN WITH THE SEED: the statements are not yours to turn. If you find one false, say at which input.
  Laid BY PROGRAM, IN A SANDBOX (cutbox-rows.mjs): the forced cells as the released guide's own fill.sh prints them over the translation a72722fcc9745b93… (all of the seat's roots in one cut). By AI agents, Wed Nov 11 2026. No macro, syntax, notation, axiom, sorry.
-/
import Derived.Test.YtebnilkcpklnmaaChecked
import GoSem.Claim
import GoSem.ClaimJoined
import GoSem.ClaimMapViews
import Derived.JoinedTies
import Derived.KernelRfl
namespace Go.Proofs.Ytebnilkcpklnmaa
/- THE CELL 'sum', in the pinned program and in every row, IS THE sha256 OF THE DUMP (.gsa) THAT YtebnilkcpklnmaaProg.lean LOADS. Nothing in Lean hashes anything: it is a label: what it is worth is what the hold of that sum in a sandbox is worth. -/
noncomputable def Try.pinned : Pinned := { name := "ytebnilkcpklnmaa", sum := "a72722fcc9745b936fa785ca17a2a654591a31e9c98b09caa1325e000e70ed28", checked := Try.checked }
namespace Rows
def none {H : Type} : Left H := { results := [], args := [] }

/-- 'lodestarlaw22.CoalScripts': WHATEVER THE INPUT: true; the input reads as it did. -/
def coalScriptsSpec : ChangeSpec := { name := "coalScripts", fn := fun _ => fun
  | [d1, d2, d3] => { results := [.lit (.bool true)], args := [d1, d2, d3] }
  | _ => none }
def coalScriptsRow : OpenClaim := { program := "ytebnilkcpklnmaa", sum := "a72722fcc9745b936fa785ca17a2a654591a31e9c98b09caa1325e000e70ed28", func := "lodestar/lodestarlaw22.CoalScripts", spec := "coalScripts", inPlace := ["internal/abi.NoEscape"], unfollowed := true, recurses := true, apart := false }
def CoalScriptsSaid : Prop := coalScriptsRow.holds Try.pinned (OpenSpec.ofChange coalScriptsSpec)

/-- ITS FALSE NEIGHBOUR: 'it returns false'. Refute it at one input. -/
def coalScriptsWrong : ChangeSpec := { name := "coalScripts", fn := fun _ => fun
  | [d1, d2, d3] => { results := [.lit (.bool false)], args := [d1, d2, d3] }
  | _ => none }
def CoalScriptsWrongFalsely : Prop := coalScriptsRow.holds Try.pinned (OpenSpec.ofChange coalScriptsWrong)

/-- 'lodestarlaw22.CoalNil': WHATEVER THE INPUT: true; the input reads as it did. -/
def coalNilSpec : ChangeSpec := { name := "coalNil", fn := fun _ => fun
  | [d] => { results := [.lit (.bool true)], args := [d] }
  | _ => none }
def coalNilRow : OpenClaim := { program := "ytebnilkcpklnmaa", sum := "a72722fcc9745b936fa785ca17a2a654591a31e9c98b09caa1325e000e70ed28", func := "lodestar/lodestarlaw22.CoalNil", spec := "coalNil", inPlace := ["internal/abi.NoEscape"], unfollowed := true, recurses := true, apart := false }
def CoalNilSaid : Prop := coalNilRow.holds Try.pinned (OpenSpec.ofChange coalNilSpec)

/-- ITS FALSE NEIGHBOUR: 'it returns false'. Refute it at one input. -/
def coalNilWrong : ChangeSpec := { name := "coalNil", fn := fun _ => fun
  | [d] => { results := [.lit (.bool false)], args := [d] }
  | _ => none }
def CoalNilWrongFalsely : Prop := coalNilRow.holds Try.pinned (OpenSpec.ofChange coalNilWrong)

/-- 'lodestarlaw22.CoalOnce': WHATEVER THE INPUT: true; the input reads as it did. -/
def coalOnceSpec : ChangeSpec := { name := "coalOnce", fn := fun _ => fun
  | [d] => { results := [.lit (.bool true)], args := [d] }
  | _ => none }
def coalOnceRow : OpenClaim := { program := "ytebnilkcpklnmaa", sum := "a72722fcc9745b936fa785ca17a2a654591a31e9c98b09caa1325e000e70ed28", func := "lodestar/lodestarlaw22.CoalOnce", spec := "coalOnce", inPlace := ["internal/abi.NoEscape"], unfollowed := true, recurses := true, apart := false }
def CoalOnceSaid : Prop := coalOnceRow.holds Try.pinned (OpenSpec.ofChange coalOnceSpec)

/-- ITS FALSE NEIGHBOUR: 'it returns false'. Refute it at one input. -/
def coalOnceWrong : ChangeSpec := { name := "coalOnce", fn := fun _ => fun
  | [d] => { results := [.lit (.bool false)], args := [d] }
  | _ => none }
def CoalOnceWrongFalsely : Prop := coalOnceRow.holds Try.pinned (OpenSpec.ofChange coalOnceWrong)

/-- 'lodestarlaw22.CoalLetters': WHATEVER THE INPUT: true; the input reads as it did. -/
def coalLettersSpec : ChangeSpec := { name := "coalLetters", fn := fun _ => fun
  | [d1, d2, d3] => { results := [.lit (.bool true)], args := [d1, d2, d3] }
  | _ => none }
def coalLettersRow : OpenClaim := { program := "ytebnilkcpklnmaa", sum := "a72722fcc9745b936fa785ca17a2a654591a31e9c98b09caa1325e000e70ed28", func := "lodestar/lodestarlaw22.CoalLetters", spec := "coalLetters", inPlace := ["internal/abi.NoEscape"], unfollowed := true, recurses := true, apart := false }
def CoalLettersSaid : Prop := coalLettersRow.holds Try.pinned (OpenSpec.ofChange coalLettersSpec)

/-- ITS FALSE NEIGHBOUR: 'it returns false'. Refute it at one input. -/
def coalLettersWrong : ChangeSpec := { name := "coalLetters", fn := fun _ => fun
  | [d1, d2, d3] => { results := [.lit (.bool false)], args := [d1, d2, d3] }
  | _ => none }
def CoalLettersWrongFalsely : Prop := coalLettersRow.holds Try.pinned (OpenSpec.ofChange coalLettersWrong)

/-- 'lodestarlaw22.CoalRoom': WHATEVER THE INPUT: true; the input reads as it did. -/
def coalRoomSpec : ChangeSpec := { name := "coalRoom", fn := fun _ => fun
  | [d1, d2] => { results := [.lit (.bool true)], args := [d1, d2] }
  | _ => none }
def coalRoomRow : OpenClaim := { program := "ytebnilkcpklnmaa", sum := "a72722fcc9745b936fa785ca17a2a654591a31e9c98b09caa1325e000e70ed28", func := "lodestar/lodestarlaw22.CoalRoom", spec := "coalRoom", inPlace := ["internal/abi.NoEscape"], unfollowed := true, recurses := true, apart := false }
def CoalRoomSaid : Prop := coalRoomRow.holds Try.pinned (OpenSpec.ofChange coalRoomSpec)

/-- ITS FALSE NEIGHBOUR: 'it returns false'. Refute it at one input. -/
def coalRoomWrong : ChangeSpec := { name := "coalRoom", fn := fun _ => fun
  | [d1, d2] => { results := [.lit (.bool false)], args := [d1, d2] }
  | _ => none }
def CoalRoomWrongFalsely : Prop := coalRoomRow.holds Try.pinned (OpenSpec.ofChange coalRoomWrong)

/-- 'lodestarlaw03.RdataChecks': WHATEVER THE INPUT: true; the input reads as it did. -/
def rdataChecksSpec : ChangeSpec := { name := "rdataChecks", fn := fun _ => fun
  | [d] => { results := [.lit (.bool true)], args := [d] }
  | _ => none }
def rdataChecksRow : OpenClaim := { program := "ytebnilkcpklnmaa", sum := "a72722fcc9745b936fa785ca17a2a654591a31e9c98b09caa1325e000e70ed28", func := "lodestar/lodestarlaw03.RdataChecks", spec := "rdataChecks", unfollowed := true, recurses := true, apart := false }
def RdataChecksSaid : Prop := rdataChecksRow.holds Try.pinned (OpenSpec.ofChange rdataChecksSpec)

/-- ITS FALSE NEIGHBOUR: 'it returns false'. Refute it at one input. -/
def rdataChecksWrong : ChangeSpec := { name := "rdataChecks", fn := fun _ => fun
  | [d] => { results := [.lit (.bool false)], args := [d] }
  | _ => none }
def RdataChecksWrongFalsely : Prop := rdataChecksRow.holds Try.pinned (OpenSpec.ofChange rdataChecksWrong)

/-- 'lodestarlaw03.RdataSoas': WHATEVER THE INPUT: true; the input reads as it did. -/
def rdataSoasSpec : ChangeSpec := { name := "rdataSoas", fn := fun _ => fun
  | [d1, d2] => { results := [.lit (.bool true)], args := [d1, d2] }
  | _ => none }
def rdataSoasRow : OpenClaim := { program := "ytebnilkcpklnmaa", sum := "a72722fcc9745b936fa785ca17a2a654591a31e9c98b09caa1325e000e70ed28", func := "lodestar/lodestarlaw03.RdataSoas", spec := "rdataSoas", unfollowed := true, recurses := true, apart := false }
def RdataSoasSaid : Prop := rdataSoasRow.holds Try.pinned (OpenSpec.ofChange rdataSoasSpec)

/-- ITS FALSE NEIGHBOUR: 'it returns false'. Refute it at one input. -/
def rdataSoasWrong : ChangeSpec := { name := "rdataSoas", fn := fun _ => fun
  | [d1, d2] => { results := [.lit (.bool false)], args := [d1, d2] }
  | _ => none }
def RdataSoasWrongFalsely : Prop := rdataSoasRow.holds Try.pinned (OpenSpec.ofChange rdataSoasWrong)

/-- 'lodestarlaw03.RdataHosts': WHATEVER THE INPUT: true; the input reads as it did. -/
def rdataHostsSpec : ChangeSpec := { name := "rdataHosts", fn := fun _ => fun
  | [d1, d2, d3] => { results := [.lit (.bool true)], args := [d1, d2, d3] }
  | _ => none }
def rdataHostsRow : OpenClaim := { program := "ytebnilkcpklnmaa", sum := "a72722fcc9745b936fa785ca17a2a654591a31e9c98b09caa1325e000e70ed28", func := "lodestar/lodestarlaw03.RdataHosts", spec := "rdataHosts", unfollowed := true, recurses := true, apart := false }
def RdataHostsSaid : Prop := rdataHostsRow.holds Try.pinned (OpenSpec.ofChange rdataHostsSpec)

/-- ITS FALSE NEIGHBOUR: 'it returns false'. Refute it at one input. -/
def rdataHostsWrong : ChangeSpec := { name := "rdataHosts", fn := fun _ => fun
  | [d1, d2, d3] => { results := [.lit (.bool false)], args := [d1, d2, d3] }
  | _ => none }
def RdataHostsWrongFalsely : Prop := rdataHostsRow.holds Try.pinned (OpenSpec.ofChange rdataHostsWrong)

/-- 'lodestarlaw03.RdataBack': WHATEVER THE INPUT: true; the input reads as it did. -/
def rdataBackSpec : ChangeSpec := { name := "rdataBack", fn := fun _ => fun
  | [d1, d2, d3] => { results := [.lit (.bool true)], args := [d1, d2, d3] }
  | _ => none }
def rdataBackRow : OpenClaim := { program := "ytebnilkcpklnmaa", sum := "a72722fcc9745b936fa785ca17a2a654591a31e9c98b09caa1325e000e70ed28", func := "lodestar/lodestarlaw03.RdataBack", spec := "rdataBack", unfollowed := true, recurses := true, apart := false }
def RdataBackSaid : Prop := rdataBackRow.holds Try.pinned (OpenSpec.ofChange rdataBackSpec)

/-- ITS FALSE NEIGHBOUR: 'it returns false'. Refute it at one input. -/
def rdataBackWrong : ChangeSpec := { name := "rdataBack", fn := fun _ => fun
  | [d1, d2, d3] => { results := [.lit (.bool false)], args := [d1, d2, d3] }
  | _ => none }
def RdataBackWrongFalsely : Prop := rdataBackRow.holds Try.pinned (OpenSpec.ofChange rdataBackWrong)

/-- 'lodestarlaw03.RdataSizes': WHATEVER THE INPUT: true; the input reads as it did. -/
def rdataSizesSpec : ChangeSpec := { name := "rdataSizes", fn := fun _ => fun
  | [d] => { results := [.lit (.bool true)], args := [d] }
  | _ => none }
def rdataSizesRow : OpenClaim := { program := "ytebnilkcpklnmaa", sum := "a72722fcc9745b936fa785ca17a2a654591a31e9c98b09caa1325e000e70ed28", func := "lodestar/lodestarlaw03.RdataSizes", spec := "rdataSizes", unfollowed := true, recurses := true, apart := false }
def RdataSizesSaid : Prop := rdataSizesRow.holds Try.pinned (OpenSpec.ofChange rdataSizesSpec)

/-- ITS FALSE NEIGHBOUR: 'it returns false'. Refute it at one input. -/
def rdataSizesWrong : ChangeSpec := { name := "rdataSizes", fn := fun _ => fun
  | [d] => { results := [.lit (.bool false)], args := [d] }
  | _ => none }
def RdataSizesWrongFalsely : Prop := rdataSizesRow.holds Try.pinned (OpenSpec.ofChange rdataSizesWrong)

/-- 'lodestarlaw03.RdataHostKinds': WHATEVER THE INPUT: true; the input reads as it did. -/
def rdataHostKindsSpec : ChangeSpec := { name := "rdataHostKinds", fn := fun _ => fun
  | [d] => { results := [.lit (.bool true)], args := [d] }
  | _ => none }
def rdataHostKindsRow : OpenClaim := { program := "ytebnilkcpklnmaa", sum := "a72722fcc9745b936fa785ca17a2a654591a31e9c98b09caa1325e000e70ed28", func := "lodestar/lodestarlaw03.RdataHostKinds", spec := "rdataHostKinds", unfollowed := true, recurses := true, apart := false }
def RdataHostKindsSaid : Prop := rdataHostKindsRow.holds Try.pinned (OpenSpec.ofChange rdataHostKindsSpec)

/-- ITS FALSE NEIGHBOUR: 'it returns false'. Refute it at one input. -/
def rdataHostKindsWrong : ChangeSpec := { name := "rdataHostKinds", fn := fun _ => fun
  | [d] => { results := [.lit (.bool false)], args := [d] }
  | _ => none }
def RdataHostKindsWrongFalsely : Prop := rdataHostKindsRow.holds Try.pinned (OpenSpec.ofChange rdataHostKindsWrong)

/- THE SECOND FORM. 'bulk': how many values and letters a reading holds, each counted each time it is reached (what is shared counts as often as it is met; a slice's spare places count too). A statement '..UptoSaid' is the law's where the arguments, and the package variables that the reading takes, are together of bulk at most 1048576: NARROWER than '..Said'. Prove '..Said' where nothing that the law and all that it calls make is longer than what came in: it says more and counts as full. Else prove '..UptoSaid'. A law counts once. -/
mutual
def uptoBulk {H : Type} : DataW H → Nat
  | .lit (.string bytes) => bytes.length + 1
  | .lit _ => 1
  | .nil => 1
  | .ptr d => uptoBulk d + 1
  | .slice elems spare => uptoBulkAll elems + uptoBulkAll spare + 1
  | .agg parts => uptoBulkAll parts + 1
  | .iface _ d => uptoBulk d + 1
  | .map entries => uptoBulkEntries entries + 1
  | .held _ => 1
def uptoBulkAll {H : Type} : List (DataW H) → Nat
  | [] => 0
  | d :: r => uptoBulk d + uptoBulkAll r
def uptoBulkEntries {H : Type} : List (Lit × DataW H) → Nat
  | [] => 0
  | x :: r => uptoBulkEntry x + uptoBulkEntries r
def uptoBulkEntry {H : Type} : Lit × DataW H → Nat
  | (.string bytes, d) => bytes.length + uptoBulk d + 1
  | (_, d) => uptoBulk d + 1
 end
def uptoSmall : (H : Type) → List (DataW H) → Bool := fun _ ds => decide (uptoBulkAll ds ≤ 1048576)
def OpenSpec.upto (s : _root_.Go.ChangeSpec) : _root_.Go.OpenSpec := { _root_.Go.OpenSpec.ofChange s with cond := some uptoSmall }

/-- 'lodestarlaw22.CoalScripts', WHERE WHAT IT READS IS OF BULK AT MOST 1048576: true; the input reads as it did. -/
def coalScriptsUptoRow : OpenClaim := { program := "ytebnilkcpklnmaa", sum := "a72722fcc9745b936fa785ca17a2a654591a31e9c98b09caa1325e000e70ed28", func := "lodestar/lodestarlaw22.CoalScripts", spec := "coalScripts", inPlace := ["internal/abi.NoEscape"], unfollowed := true, recurses := true, apart := false, narrowed := true }
def CoalScriptsUptoSaid : Prop := coalScriptsUptoRow.holds Try.pinned (OpenSpec.upto coalScriptsSpec)

/-- 'lodestarlaw22.CoalNil', WHERE WHAT IT READS IS OF BULK AT MOST 1048576: true; the input reads as it did. -/
def coalNilUptoRow : OpenClaim := { program := "ytebnilkcpklnmaa", sum := "a72722fcc9745b936fa785ca17a2a654591a31e9c98b09caa1325e000e70ed28", func := "lodestar/lodestarlaw22.CoalNil", spec := "coalNil", inPlace := ["internal/abi.NoEscape"], unfollowed := true, recurses := true, apart := false, narrowed := true }
def CoalNilUptoSaid : Prop := coalNilUptoRow.holds Try.pinned (OpenSpec.upto coalNilSpec)

/-- 'lodestarlaw22.CoalOnce', WHERE WHAT IT READS IS OF BULK AT MOST 1048576: true; the input reads as it did. -/
def coalOnceUptoRow : OpenClaim := { program := "ytebnilkcpklnmaa", sum := "a72722fcc9745b936fa785ca17a2a654591a31e9c98b09caa1325e000e70ed28", func := "lodestar/lodestarlaw22.CoalOnce", spec := "coalOnce", inPlace := ["internal/abi.NoEscape"], unfollowed := true, recurses := true, apart := false, narrowed := true }
def CoalOnceUptoSaid : Prop := coalOnceUptoRow.holds Try.pinned (OpenSpec.upto coalOnceSpec)

/-- 'lodestarlaw22.CoalLetters', WHERE WHAT IT READS IS OF BULK AT MOST 1048576: true; the input reads as it did. -/
def coalLettersUptoRow : OpenClaim := { program := "ytebnilkcpklnmaa", sum := "a72722fcc9745b936fa785ca17a2a654591a31e9c98b09caa1325e000e70ed28", func := "lodestar/lodestarlaw22.CoalLetters", spec := "coalLetters", inPlace := ["internal/abi.NoEscape"], unfollowed := true, recurses := true, apart := false, narrowed := true }
def CoalLettersUptoSaid : Prop := coalLettersUptoRow.holds Try.pinned (OpenSpec.upto coalLettersSpec)

/-- 'lodestarlaw22.CoalRoom', WHERE WHAT IT READS IS OF BULK AT MOST 1048576: true; the input reads as it did. -/
def coalRoomUptoRow : OpenClaim := { program := "ytebnilkcpklnmaa", sum := "a72722fcc9745b936fa785ca17a2a654591a31e9c98b09caa1325e000e70ed28", func := "lodestar/lodestarlaw22.CoalRoom", spec := "coalRoom", inPlace := ["internal/abi.NoEscape"], unfollowed := true, recurses := true, apart := false, narrowed := true }
def CoalRoomUptoSaid : Prop := coalRoomUptoRow.holds Try.pinned (OpenSpec.upto coalRoomSpec)

/-- 'lodestarlaw03.RdataChecks', WHERE WHAT IT READS IS OF BULK AT MOST 1048576: true; the input reads as it did. -/
def rdataChecksUptoRow : OpenClaim := { program := "ytebnilkcpklnmaa", sum := "a72722fcc9745b936fa785ca17a2a654591a31e9c98b09caa1325e000e70ed28", func := "lodestar/lodestarlaw03.RdataChecks", spec := "rdataChecks", unfollowed := true, recurses := true, apart := false, narrowed := true }
def RdataChecksUptoSaid : Prop := rdataChecksUptoRow.holds Try.pinned (OpenSpec.upto rdataChecksSpec)

/-- 'lodestarlaw03.RdataSoas', WHERE WHAT IT READS IS OF BULK AT MOST 1048576: true; the input reads as it did. -/
def rdataSoasUptoRow : OpenClaim := { program := "ytebnilkcpklnmaa", sum := "a72722fcc9745b936fa785ca17a2a654591a31e9c98b09caa1325e000e70ed28", func := "lodestar/lodestarlaw03.RdataSoas", spec := "rdataSoas", unfollowed := true, recurses := true, apart := false, narrowed := true }
def RdataSoasUptoSaid : Prop := rdataSoasUptoRow.holds Try.pinned (OpenSpec.upto rdataSoasSpec)

/-- 'lodestarlaw03.RdataHosts', WHERE WHAT IT READS IS OF BULK AT MOST 1048576: true; the input reads as it did. -/
def rdataHostsUptoRow : OpenClaim := { program := "ytebnilkcpklnmaa", sum := "a72722fcc9745b936fa785ca17a2a654591a31e9c98b09caa1325e000e70ed28", func := "lodestar/lodestarlaw03.RdataHosts", spec := "rdataHosts", unfollowed := true, recurses := true, apart := false, narrowed := true }
def RdataHostsUptoSaid : Prop := rdataHostsUptoRow.holds Try.pinned (OpenSpec.upto rdataHostsSpec)

/-- 'lodestarlaw03.RdataBack', WHERE WHAT IT READS IS OF BULK AT MOST 1048576: true; the input reads as it did. -/
def rdataBackUptoRow : OpenClaim := { program := "ytebnilkcpklnmaa", sum := "a72722fcc9745b936fa785ca17a2a654591a31e9c98b09caa1325e000e70ed28", func := "lodestar/lodestarlaw03.RdataBack", spec := "rdataBack", unfollowed := true, recurses := true, apart := false, narrowed := true }
def RdataBackUptoSaid : Prop := rdataBackUptoRow.holds Try.pinned (OpenSpec.upto rdataBackSpec)

/-- 'lodestarlaw03.RdataSizes', WHERE WHAT IT READS IS OF BULK AT MOST 1048576: true; the input reads as it did. -/
def rdataSizesUptoRow : OpenClaim := { program := "ytebnilkcpklnmaa", sum := "a72722fcc9745b936fa785ca17a2a654591a31e9c98b09caa1325e000e70ed28", func := "lodestar/lodestarlaw03.RdataSizes", spec := "rdataSizes", unfollowed := true, recurses := true, apart := false, narrowed := true }
def RdataSizesUptoSaid : Prop := rdataSizesUptoRow.holds Try.pinned (OpenSpec.upto rdataSizesSpec)

/-- 'lodestarlaw03.RdataHostKinds', WHERE WHAT IT READS IS OF BULK AT MOST 1048576: true; the input reads as it did. -/
def rdataHostKindsUptoRow : OpenClaim := { program := "ytebnilkcpklnmaa", sum := "a72722fcc9745b936fa785ca17a2a654591a31e9c98b09caa1325e000e70ed28", func := "lodestar/lodestarlaw03.RdataHostKinds", spec := "rdataHostKinds", unfollowed := true, recurses := true, apart := false, narrowed := true }
def RdataHostKindsUptoSaid : Prop := rdataHostKindsUptoRow.holds Try.pinned (OpenSpec.upto rdataHostKindsSpec)

end Rows
end Go.Proofs.Ytebnilkcpklnmaa
