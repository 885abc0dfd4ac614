/-
  No cell of these rows narrows 'for every input' (looked for: loops, veiled, ifaces, maps, wideKeys, modest, calm, conditions, laid).
  DERIVED. THE GIVEN ROWS OF THIS SEAT. 5 by the template 'for every input the law returns true; each argument reads behind the call as it read before'; 0 by the template 'total and deterministic' (their statements: YtfhaehkofeiobaaTotals.lean).
  GIVEN WITH THE SEED: the statements are not yours to turn. If you find one false, say at which input.
  Laid BY PROGRAM, IN A SANDBOX (cutbox-rows.mjs): the forced cells as the released guide's own fill.sh prints them over the translation e30337f9026fcc45… (all of the seat's roots in one cut). By AI agents, Wed Nov 11 2026. No macro, syntax, notation, axiom, sorry.
-/
import Derived.Test.YtfhaehkofeiobaaChecked
import GoSem.Claim
import GoSem.ClaimJoined
import GoSem.ClaimMapViews
import Derived.JoinedTies
import Derived.KernelRfl
namespace Go.Proofs.Ytfhaehkofeiobaa
/- THE CELL 'sum', in the pinned program and in every row, IS THE sha256 OF THE DUMP (.gsa) THAT YtfhaehkofeiobaaProg.lean LOADS. Nothing in Lean hashes anything: it is a label: what it is worth is what the hold of that sum in a sandbox is worth. -/
noncomputable def Try.pinned : Pinned := { name := "ytfhaehkofeiobaa", sum := "e30337f9026fcc45cfea4ed60f39ab5607b35bea31938a1a89a98998396de588", checked := Try.checked }
namespace Rows
def none {H : Type} : Left H := { results := [], args := [] }

/-- 'lodestarlaw14.NetScripts': WHATEVER THE INPUT: true; the input reads as it did. -/
def netScriptsSpec : ChangeSpec := { name := "netScripts", fn := fun _ => fun
  | [d1, d2, d3] => { results := [.lit (.bool true)], args := [d1, d2, d3] }
  | _ => none }
def netScriptsRow : OpenClaim := { program := "ytfhaehkofeiobaa", sum := "e30337f9026fcc45cfea4ed60f39ab5607b35bea31938a1a89a98998396de588", func := "lodestar/lodestarlaw14.NetScripts", spec := "netScripts", unfollowed := true, recurses := true, apart := false }
def NetScriptsSaid : Prop := netScriptsRow.holds Try.pinned (OpenSpec.ofChange netScriptsSpec)

/-- ITS FALSE NEIGHBOUR: 'it returns false'. Refute it at one input. -/
def netScriptsWrong : ChangeSpec := { name := "netScripts", fn := fun _ => fun
  | [d1, d2, d3] => { results := [.lit (.bool false)], args := [d1, d2, d3] }
  | _ => none }
def NetScriptsWrongFalsely : Prop := netScriptsRow.holds Try.pinned (OpenSpec.ofChange netScriptsWrong)

/-- 'lodestarlaw14.NetNil': WHATEVER THE INPUT: true; the input reads as it did. -/
def netNilSpec : ChangeSpec := { name := "netNil", fn := fun _ => fun
  | [d] => { results := [.lit (.bool true)], args := [d] }
  | _ => none }
def netNilRow : OpenClaim := { program := "ytfhaehkofeiobaa", sum := "e30337f9026fcc45cfea4ed60f39ab5607b35bea31938a1a89a98998396de588", func := "lodestar/lodestarlaw14.NetNil", spec := "netNil", unfollowed := true, recurses := true, apart := false }
def NetNilSaid : Prop := netNilRow.holds Try.pinned (OpenSpec.ofChange netNilSpec)

/-- ITS FALSE NEIGHBOUR: 'it returns false'. Refute it at one input. -/
def netNilWrong : ChangeSpec := { name := "netNil", fn := fun _ => fun
  | [d] => { results := [.lit (.bool false)], args := [d] }
  | _ => none }
def NetNilWrongFalsely : Prop := netNilRow.holds Try.pinned (OpenSpec.ofChange netNilWrong)

/-- 'lodestarlaw14.NetOrder': WHATEVER THE INPUT: true; the input reads as it did. -/
def netOrderSpec : ChangeSpec := { name := "netOrder", fn := fun _ => fun
  | [d1, d2] => { results := [.lit (.bool true)], args := [d1, d2] }
  | _ => none }
def netOrderRow : OpenClaim := { program := "ytfhaehkofeiobaa", sum := "e30337f9026fcc45cfea4ed60f39ab5607b35bea31938a1a89a98998396de588", func := "lodestar/lodestarlaw14.NetOrder", spec := "netOrder", unfollowed := true, recurses := true, apart := false }
def NetOrderSaid : Prop := netOrderRow.holds Try.pinned (OpenSpec.ofChange netOrderSpec)

/-- ITS FALSE NEIGHBOUR: 'it returns false'. Refute it at one input. -/
def netOrderWrong : ChangeSpec := { name := "netOrder", fn := fun _ => fun
  | [d1, d2] => { results := [.lit (.bool false)], args := [d1, d2] }
  | _ => none }
def NetOrderWrongFalsely : Prop := netOrderRow.holds Try.pinned (OpenSpec.ofChange netOrderWrong)

/-- 'lodestarlaw14.NetClears': WHATEVER THE INPUT: true; the input reads as it did. -/
def netClearsSpec : ChangeSpec := { name := "netClears", fn := fun _ => fun
  | [d1, d2] => { results := [.lit (.bool true)], args := [d1, d2] }
  | _ => none }
def netClearsRow : OpenClaim := { program := "ytfhaehkofeiobaa", sum := "e30337f9026fcc45cfea4ed60f39ab5607b35bea31938a1a89a98998396de588", func := "lodestar/lodestarlaw14.NetClears", spec := "netClears", unfollowed := true, recurses := true, apart := false }
def NetClearsSaid : Prop := netClearsRow.holds Try.pinned (OpenSpec.ofChange netClearsSpec)

/-- ITS FALSE NEIGHBOUR: 'it returns false'. Refute it at one input. -/
def netClearsWrong : ChangeSpec := { name := "netClears", fn := fun _ => fun
  | [d1, d2] => { results := [.lit (.bool false)], args := [d1, d2] }
  | _ => none }
def NetClearsWrongFalsely : Prop := netClearsRow.holds Try.pinned (OpenSpec.ofChange netClearsWrong)

/-- 'lodestarlaw14.NetDoubles': WHATEVER THE INPUT: true; the input reads as it did. -/
def netDoublesSpec : ChangeSpec := { name := "netDoubles", fn := fun _ => fun
  | [d1, d2] => { results := [.lit (.bool true)], args := [d1, d2] }
  | _ => none }
def netDoublesRow : OpenClaim := { program := "ytfhaehkofeiobaa", sum := "e30337f9026fcc45cfea4ed60f39ab5607b35bea31938a1a89a98998396de588", func := "lodestar/lodestarlaw14.NetDoubles", spec := "netDoubles", unfollowed := true, recurses := true, apart := false }
def NetDoublesSaid : Prop := netDoublesRow.holds Try.pinned (OpenSpec.ofChange netDoublesSpec)

/-- ITS FALSE NEIGHBOUR: 'it returns false'. Refute it at one input. -/
def netDoublesWrong : ChangeSpec := { name := "netDoubles", fn := fun _ => fun
  | [d1, d2] => { results := [.lit (.bool false)], args := [d1, d2] }
  | _ => none }
def NetDoublesWrongFalsely : Prop := netDoublesRow.holds Try.pinned (OpenSpec.ofChange netDoublesWrong)

/- THE SECOND FORM. 'bulk': how many values and letters a reading holds, each counted each time it is reached (what is shared counts as often as it is met; a slice's spare places count too). A statement '..UptoSaid' is the law's where the arguments, and the package variables that the reading takes, are together of bulk at most 1048576: NARROWER than '..Said'. Prove '..Said' where nothing that the law and all that it calls make is longer than what came in: it says more and counts as full. Else prove '..UptoSaid'. A law counts once. -/
mutual
def uptoBulk {H : Type} : DataW H → Nat
  | .lit (.string bytes) => bytes.length + 1
  | .lit _ => 1
  | .nil => 1
  | .ptr d => uptoBulk d + 1
  | .slice elems spare => uptoBulkAll elems + uptoBulkAll spare + 1
  | .agg parts => uptoBulkAll parts + 1
  | .iface _ d => uptoBulk d + 1
  | .map entries => uptoBulkEntries entries + 1
  | .held _ => 1
def uptoBulkAll {H : Type} : List (DataW H) → Nat
  | [] => 0
  | d :: r => uptoBulk d + uptoBulkAll r
def uptoBulkEntries {H : Type} : List (Lit × DataW H) → Nat
  | [] => 0
  | x :: r => uptoBulkEntry x + uptoBulkEntries r
def uptoBulkEntry {H : Type} : Lit × DataW H → Nat
  | (.string bytes, d) => bytes.length + uptoBulk d + 1
  | (_, d) => uptoBulk d + 1
 end
def uptoSmall : (H : Type) → List (DataW H) → Bool := fun _ ds => decide (uptoBulkAll ds ≤ 1048576)
def OpenSpec.upto (s : _root_.Go.ChangeSpec) : _root_.Go.OpenSpec := { _root_.Go.OpenSpec.ofChange s with cond := some uptoSmall }

/-- 'lodestarlaw14.NetScripts', WHERE WHAT IT READS IS OF BULK AT MOST 1048576: true; the input reads as it did. -/
def netScriptsUptoRow : OpenClaim := { program := "ytfhaehkofeiobaa", sum := "e30337f9026fcc45cfea4ed60f39ab5607b35bea31938a1a89a98998396de588", func := "lodestar/lodestarlaw14.NetScripts", spec := "netScripts", unfollowed := true, recurses := true, apart := false, narrowed := true }
def NetScriptsUptoSaid : Prop := netScriptsUptoRow.holds Try.pinned (OpenSpec.upto netScriptsSpec)

/-- 'lodestarlaw14.NetNil', WHERE WHAT IT READS IS OF BULK AT MOST 1048576: true; the input reads as it did. -/
def netNilUptoRow : OpenClaim := { program := "ytfhaehkofeiobaa", sum := "e30337f9026fcc45cfea4ed60f39ab5607b35bea31938a1a89a98998396de588", func := "lodestar/lodestarlaw14.NetNil", spec := "netNil", unfollowed := true, recurses := true, apart := false, narrowed := true }
def NetNilUptoSaid : Prop := netNilUptoRow.holds Try.pinned (OpenSpec.upto netNilSpec)

/-- 'lodestarlaw14.NetOrder', WHERE WHAT IT READS IS OF BULK AT MOST 1048576: true; the input reads as it did. -/
def netOrderUptoRow : OpenClaim := { program := "ytfhaehkofeiobaa", sum := "e30337f9026fcc45cfea4ed60f39ab5607b35bea31938a1a89a98998396de588", func := "lodestar/lodestarlaw14.NetOrder", spec := "netOrder", unfollowed := true, recurses := true, apart := false, narrowed := true }
def NetOrderUptoSaid : Prop := netOrderUptoRow.holds Try.pinned (OpenSpec.upto netOrderSpec)

/-- 'lodestarlaw14.NetClears', WHERE WHAT IT READS IS OF BULK AT MOST 1048576: true; the input reads as it did. -/
def netClearsUptoRow : OpenClaim := { program := "ytfhaehkofeiobaa", sum := "e30337f9026fcc45cfea4ed60f39ab5607b35bea31938a1a89a98998396de588", func := "lodestar/lodestarlaw14.NetClears", spec := "netClears", unfollowed := true, recurses := true, apart := false, narrowed := true }
def NetClearsUptoSaid : Prop := netClearsUptoRow.holds Try.pinned (OpenSpec.upto netClearsSpec)

/-- 'lodestarlaw14.NetDoubles', WHERE WHAT IT READS IS OF BULK AT MOST 1048576: true; the input reads as it did. -/
def netDoublesUptoRow : OpenClaim := { program := "ytfhaehkofeiobaa", sum := "e30337f9026fcc45cfea4ed60f39ab5607b35bea31938a1a89a98998396de588", func := "lodestar/lodestarlaw14.NetDoubles", spec := "netDoubles", unfollowed := true, recurses := true, apart := false, narrowed := true }
def NetDoublesUptoSaid : Prop := netDoublesUptoRow.holds Try.pinned (OpenSpec.upto netDoublesSpec)

end Rows
end Go.Proofs.Ytfhaehkofeiobaa
