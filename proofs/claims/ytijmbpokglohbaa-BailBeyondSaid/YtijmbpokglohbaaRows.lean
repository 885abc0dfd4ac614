/-
  No cell of these rows narrows 'for every input' (looked for: loops, veiled, ifaces, maps, wideKeys, modest, calm, conditions, laid).
  DERIVED. THE GIVEN ROWS OF THIS SEAT. 12 by the template 'for every input the law returns true; each argument reads behind the call as it read before'; 0 by the template 'total and deterministic' (their statements: YtijmbpokglohbaaTotals.lean).
  GIVEN WITH THE SEED: the statements are not yours to turn. If you find one false, say at which input.
  Laid BY PROGRAM, IN A SANDBOX (cutbox-rows.mjs): the forced cells as the released guide's own fill.sh prints them over the translation b96eab249197d547… (all of the seat's roots in one cut). By AI agents, Wed Nov 11 2026. No macro, syntax, notation, axiom, sorry.
-/
import Derived.Test.YtijmbpokglohbaaChecked
import GoSem.Claim
import GoSem.ClaimJoined
import GoSem.ClaimMapViews
import Derived.JoinedTies
import Derived.KernelRfl
namespace Go.Proofs.Ytijmbpokglohbaa
/- THE CELL 'sum', in the pinned program and in every row, IS THE sha256 OF THE DUMP (.gsa) THAT YtijmbpokglohbaaProg.lean LOADS. Nothing in Lean hashes anything: it is a label: what it is worth is what the hold of that sum in a sandbox is worth. -/
noncomputable def Try.pinned : Pinned := { name := "ytijmbpokglohbaa", sum := "b96eab249197d5474b47b8e3af5773be50fd908743ac9114507aace131138523", checked := Try.checked }
namespace Rows
def none {H : Type} : Left H := { results := [], args := [] }

/-- 'lodestarlaw20.BailMatches': WHATEVER THE INPUT: true; the input reads as it did. -/
def bailMatchesSpec : ChangeSpec := { name := "bailMatches", fn := fun _ => fun
  | [d1, d2] => { results := [.lit (.bool true)], args := [d1, d2] }
  | _ => none }
def bailMatchesRow : OpenClaim := { program := "ytijmbpokglohbaa", sum := "b96eab249197d5474b47b8e3af5773be50fd908743ac9114507aace131138523", func := "lodestar/lodestarlaw20.BailMatches", spec := "bailMatches", inPlace := ["internal/abi.NoEscape"], unfollowed := true, recurses := true, plainKeys := false, apart := false }
def BailMatchesSaid : Prop := bailMatchesRow.holds Try.pinned (OpenSpec.ofChange bailMatchesSpec)

/-- ITS FALSE NEIGHBOUR: 'it returns false'. Refute it at one input. -/
def bailMatchesWrong : ChangeSpec := { name := "bailMatches", fn := fun _ => fun
  | [d1, d2] => { results := [.lit (.bool false)], args := [d1, d2] }
  | _ => none }
def BailMatchesWrongFalsely : Prop := bailMatchesRow.holds Try.pinned (OpenSpec.ofChange bailMatchesWrong)

/-- 'lodestarlaw20.BailJudges': WHATEVER THE INPUT: true; the input reads as it did. -/
def bailJudgesSpec : ChangeSpec := { name := "bailJudges", fn := fun _ => fun
  | [d1, d2, d3] => { results := [.lit (.bool true)], args := [d1, d2, d3] }
  | _ => none }
def bailJudgesRow : OpenClaim := { program := "ytijmbpokglohbaa", sum := "b96eab249197d5474b47b8e3af5773be50fd908743ac9114507aace131138523", func := "lodestar/lodestarlaw20.BailJudges", spec := "bailJudges", inPlace := ["internal/abi.NoEscape"], unfollowed := true, recurses := true, plainKeys := false, apart := false }
def BailJudgesSaid : Prop := bailJudgesRow.holds Try.pinned (OpenSpec.ofChange bailJudgesSpec)

/-- ITS FALSE NEIGHBOUR: 'it returns false'. Refute it at one input. -/
def bailJudgesWrong : ChangeSpec := { name := "bailJudges", fn := fun _ => fun
  | [d1, d2, d3] => { results := [.lit (.bool false)], args := [d1, d2, d3] }
  | _ => none }
def BailJudgesWrongFalsely : Prop := bailJudgesRow.holds Try.pinned (OpenSpec.ofChange bailJudgesWrong)

/-- 'lodestarlaw20.BailBeyond': WHATEVER THE INPUT: true; the input reads as it did. -/
def bailBeyondSpec : ChangeSpec := { name := "bailBeyond", fn := fun _ => fun
  | [d] => { results := [.lit (.bool true)], args := [d] }
  | _ => none }
def bailBeyondRow : OpenClaim := { program := "ytijmbpokglohbaa", sum := "b96eab249197d5474b47b8e3af5773be50fd908743ac9114507aace131138523", func := "lodestar/lodestarlaw20.BailBeyond", spec := "bailBeyond", inPlace := ["internal/abi.NoEscape"], unfollowed := true, recurses := true, plainKeys := false, apart := false }
def BailBeyondSaid : Prop := bailBeyondRow.holds Try.pinned (OpenSpec.ofChange bailBeyondSpec)

/-- ITS FALSE NEIGHBOUR: 'it returns false'. Refute it at one input. -/
def bailBeyondWrong : ChangeSpec := { name := "bailBeyond", fn := fun _ => fun
  | [d] => { results := [.lit (.bool false)], args := [d] }
  | _ => none }
def BailBeyondWrongFalsely : Prop := bailBeyondRow.holds Try.pinned (OpenSpec.ofChange bailBeyondWrong)

/-- 'lodestarlaw20.BailDown': WHATEVER THE INPUT: true; the input reads as it did. -/
def bailDownSpec : ChangeSpec := { name := "bailDown", fn := fun _ => fun
  | [d1, d2, d3] => { results := [.lit (.bool true)], args := [d1, d2, d3] }
  | _ => none }
def bailDownRow : OpenClaim := { program := "ytijmbpokglohbaa", sum := "b96eab249197d5474b47b8e3af5773be50fd908743ac9114507aace131138523", func := "lodestar/lodestarlaw20.BailDown", spec := "bailDown", inPlace := ["internal/abi.NoEscape"], unfollowed := true, recurses := true, plainKeys := false, apart := false }
def BailDownSaid : Prop := bailDownRow.holds Try.pinned (OpenSpec.ofChange bailDownSpec)

/-- ITS FALSE NEIGHBOUR: 'it returns false'. Refute it at one input. -/
def bailDownWrong : ChangeSpec := { name := "bailDown", fn := fun _ => fun
  | [d1, d2, d3] => { results := [.lit (.bool false)], args := [d1, d2, d3] }
  | _ => none }
def BailDownWrongFalsely : Prop := bailDownRow.holds Try.pinned (OpenSpec.ofChange bailDownWrong)

/-- 'lodestarlaw20.BailLetters': WHATEVER THE INPUT: true; the input reads as it did. -/
def bailLettersSpec : ChangeSpec := { name := "bailLetters", fn := fun _ => fun
  | [d1, d2, d3] => { results := [.lit (.bool true)], args := [d1, d2, d3] }
  | _ => none }
def bailLettersRow : OpenClaim := { program := "ytijmbpokglohbaa", sum := "b96eab249197d5474b47b8e3af5773be50fd908743ac9114507aace131138523", func := "lodestar/lodestarlaw20.BailLetters", spec := "bailLetters", inPlace := ["internal/abi.NoEscape"], unfollowed := true, recurses := true, plainKeys := false, apart := false }
def BailLettersSaid : Prop := bailLettersRow.holds Try.pinned (OpenSpec.ofChange bailLettersSpec)

/-- ITS FALSE NEIGHBOUR: 'it returns false'. Refute it at one input. -/
def bailLettersWrong : ChangeSpec := { name := "bailLetters", fn := fun _ => fun
  | [d1, d2, d3] => { results := [.lit (.bool false)], args := [d1, d2, d3] }
  | _ => none }
def BailLettersWrongFalsely : Prop := bailLettersRow.holds Try.pinned (OpenSpec.ofChange bailLettersWrong)

/-- 'lodestarlaw20.BailTwice': WHATEVER THE INPUT: true; the input reads as it did. -/
def bailTwiceSpec : ChangeSpec := { name := "bailTwice", fn := fun _ => fun
  | [d1, d2] => { results := [.lit (.bool true)], args := [d1, d2] }
  | _ => none }
def bailTwiceRow : OpenClaim := { program := "ytijmbpokglohbaa", sum := "b96eab249197d5474b47b8e3af5773be50fd908743ac9114507aace131138523", func := "lodestar/lodestarlaw20.BailTwice", spec := "bailTwice", inPlace := ["internal/abi.NoEscape"], unfollowed := true, recurses := true, plainKeys := false, apart := false }
def BailTwiceSaid : Prop := bailTwiceRow.holds Try.pinned (OpenSpec.ofChange bailTwiceSpec)

/-- ITS FALSE NEIGHBOUR: 'it returns false'. Refute it at one input. -/
def bailTwiceWrong : ChangeSpec := { name := "bailTwice", fn := fun _ => fun
  | [d1, d2] => { results := [.lit (.bool false)], args := [d1, d2] }
  | _ => none }
def BailTwiceWrongFalsely : Prop := bailTwiceRow.holds Try.pinned (OpenSpec.ofChange bailTwiceWrong)

/-- 'lodestarlaw18.CacheScripts': WHATEVER THE INPUT: true; the input reads as it did. -/
def cacheScriptsSpec : ChangeSpec := { name := "cacheScripts", fn := fun _ => fun
  | [d1, d2, d3] => { results := [.lit (.bool true)], args := [d1, d2, d3] }
  | _ => none }
def cacheScriptsRow : OpenClaim := { program := "ytijmbpokglohbaa", sum := "b96eab249197d5474b47b8e3af5773be50fd908743ac9114507aace131138523", func := "lodestar/lodestarlaw18.CacheScripts", spec := "cacheScripts", inPlace := ["internal/abi.NoEscape"], unfollowed := true, recurses := true, plainKeys := false, apart := false }
def CacheScriptsSaid : Prop := cacheScriptsRow.holds Try.pinned (OpenSpec.ofChange cacheScriptsSpec)

/-- ITS FALSE NEIGHBOUR: 'it returns false'. Refute it at one input. -/
def cacheScriptsWrong : ChangeSpec := { name := "cacheScripts", fn := fun _ => fun
  | [d1, d2, d3] => { results := [.lit (.bool false)], args := [d1, d2, d3] }
  | _ => none }
def CacheScriptsWrongFalsely : Prop := cacheScriptsRow.holds Try.pinned (OpenSpec.ofChange cacheScriptsWrong)

/-- 'lodestarlaw18.CacheNil': WHATEVER THE INPUT: true; the input reads as it did. -/
def cacheNilSpec : ChangeSpec := { name := "cacheNil", fn := fun _ => fun
  | [d] => { results := [.lit (.bool true)], args := [d] }
  | _ => none }
def cacheNilRow : OpenClaim := { program := "ytijmbpokglohbaa", sum := "b96eab249197d5474b47b8e3af5773be50fd908743ac9114507aace131138523", func := "lodestar/lodestarlaw18.CacheNil", spec := "cacheNil", inPlace := ["internal/abi.NoEscape"], unfollowed := true, recurses := true, plainKeys := false, apart := false }
def CacheNilSaid : Prop := cacheNilRow.holds Try.pinned (OpenSpec.ofChange cacheNilSpec)

/-- ITS FALSE NEIGHBOUR: 'it returns false'. Refute it at one input. -/
def cacheNilWrong : ChangeSpec := { name := "cacheNil", fn := fun _ => fun
  | [d] => { results := [.lit (.bool false)], args := [d] }
  | _ => none }
def CacheNilWrongFalsely : Prop := cacheNilRow.holds Try.pinned (OpenSpec.ofChange cacheNilWrong)

/-- 'lodestarlaw18.CachePuts': WHATEVER THE INPUT: true; the input reads as it did. -/
def cachePutsSpec : ChangeSpec := { name := "cachePuts", fn := fun _ => fun
  | [d] => { results := [.lit (.bool true)], args := [d] }
  | _ => none }
def cachePutsRow : OpenClaim := { program := "ytijmbpokglohbaa", sum := "b96eab249197d5474b47b8e3af5773be50fd908743ac9114507aace131138523", func := "lodestar/lodestarlaw18.CachePuts", spec := "cachePuts", inPlace := ["internal/abi.NoEscape"], unfollowed := true, recurses := true, plainKeys := false, apart := false }
def CachePutsSaid : Prop := cachePutsRow.holds Try.pinned (OpenSpec.ofChange cachePutsSpec)

/-- ITS FALSE NEIGHBOUR: 'it returns false'. Refute it at one input. -/
def cachePutsWrong : ChangeSpec := { name := "cachePuts", fn := fun _ => fun
  | [d] => { results := [.lit (.bool false)], args := [d] }
  | _ => none }
def CachePutsWrongFalsely : Prop := cachePutsRow.holds Try.pinned (OpenSpec.ofChange cachePutsWrong)

/-- 'lodestarlaw18.CacheBound': WHATEVER THE INPUT: true; the input reads as it did. -/
def cacheBoundSpec : ChangeSpec := { name := "cacheBound", fn := fun _ => fun
  | [d1, d2] => { results := [.lit (.bool true)], args := [d1, d2] }
  | _ => none }
def cacheBoundRow : OpenClaim := { program := "ytijmbpokglohbaa", sum := "b96eab249197d5474b47b8e3af5773be50fd908743ac9114507aace131138523", func := "lodestar/lodestarlaw18.CacheBound", spec := "cacheBound", inPlace := ["internal/abi.NoEscape"], unfollowed := true, recurses := true, plainKeys := false, apart := false }
def CacheBoundSaid : Prop := cacheBoundRow.holds Try.pinned (OpenSpec.ofChange cacheBoundSpec)

/-- ITS FALSE NEIGHBOUR: 'it returns false'. Refute it at one input. -/
def cacheBoundWrong : ChangeSpec := { name := "cacheBound", fn := fun _ => fun
  | [d1, d2] => { results := [.lit (.bool false)], args := [d1, d2] }
  | _ => none }
def CacheBoundWrongFalsely : Prop := cacheBoundRow.holds Try.pinned (OpenSpec.ofChange cacheBoundWrong)

/-- 'lodestarlaw18.CacheApart': WHATEVER THE INPUT: true; the input reads as it did. -/
def cacheApartSpec : ChangeSpec := { name := "cacheApart", fn := fun _ => fun
  | [d1, d2] => { results := [.lit (.bool true)], args := [d1, d2] }
  | _ => none }
def cacheApartRow : OpenClaim := { program := "ytijmbpokglohbaa", sum := "b96eab249197d5474b47b8e3af5773be50fd908743ac9114507aace131138523", func := "lodestar/lodestarlaw18.CacheApart", spec := "cacheApart", inPlace := ["internal/abi.NoEscape"], unfollowed := true, recurses := true, plainKeys := false, apart := false }
def CacheApartSaid : Prop := cacheApartRow.holds Try.pinned (OpenSpec.ofChange cacheApartSpec)

/-- ITS FALSE NEIGHBOUR: 'it returns false'. Refute it at one input. -/
def cacheApartWrong : ChangeSpec := { name := "cacheApart", fn := fun _ => fun
  | [d1, d2] => { results := [.lit (.bool false)], args := [d1, d2] }
  | _ => none }
def CacheApartWrongFalsely : Prop := cacheApartRow.holds Try.pinned (OpenSpec.ofChange cacheApartWrong)

/-- 'lodestarlaw18.CacheRanks': WHATEVER THE INPUT: true; the input reads as it did. -/
def cacheRanksSpec : ChangeSpec := { name := "cacheRanks", fn := fun _ => fun
  | [d1, d2] => { results := [.lit (.bool true)], args := [d1, d2] }
  | _ => none }
def cacheRanksRow : OpenClaim := { program := "ytijmbpokglohbaa", sum := "b96eab249197d5474b47b8e3af5773be50fd908743ac9114507aace131138523", func := "lodestar/lodestarlaw18.CacheRanks", spec := "cacheRanks", inPlace := ["internal/abi.NoEscape"], unfollowed := true, recurses := true, plainKeys := false, apart := false }
def CacheRanksSaid : Prop := cacheRanksRow.holds Try.pinned (OpenSpec.ofChange cacheRanksSpec)

/-- ITS FALSE NEIGHBOUR: 'it returns false'. Refute it at one input. -/
def cacheRanksWrong : ChangeSpec := { name := "cacheRanks", fn := fun _ => fun
  | [d1, d2] => { results := [.lit (.bool false)], args := [d1, d2] }
  | _ => none }
def CacheRanksWrongFalsely : Prop := cacheRanksRow.holds Try.pinned (OpenSpec.ofChange cacheRanksWrong)

/- THE SECOND FORM. 'bulk': how many values and letters a reading holds, each counted each time it is reached (what is shared counts as often as it is met; a slice's spare places count too). A statement '..UptoSaid' is the law's where the arguments, and the package variables that the reading takes, are together of bulk at most 1048576: NARROWER than '..Said'. Prove '..Said' where nothing that the law and all that it calls make is longer than what came in: it says more and counts as full. Else prove '..UptoSaid'. A law counts once. -/
mutual
def uptoBulk {H : Type} : DataW H → Nat
  | .lit (.string bytes) => bytes.length + 1
  | .lit _ => 1
  | .nil => 1
  | .ptr d => uptoBulk d + 1
  | .slice elems spare => uptoBulkAll elems + uptoBulkAll spare + 1
  | .agg parts => uptoBulkAll parts + 1
  | .iface _ d => uptoBulk d + 1
  | .map entries => uptoBulkEntries entries + 1
  | .held _ => 1
def uptoBulkAll {H : Type} : List (DataW H) → Nat
  | [] => 0
  | d :: r => uptoBulk d + uptoBulkAll r
def uptoBulkEntries {H : Type} : List (Lit × DataW H) → Nat
  | [] => 0
  | x :: r => uptoBulkEntry x + uptoBulkEntries r
def uptoBulkEntry {H : Type} : Lit × DataW H → Nat
  | (.string bytes, d) => bytes.length + uptoBulk d + 1
  | (_, d) => uptoBulk d + 1
 end
def uptoSmall : (H : Type) → List (DataW H) → Bool := fun _ ds => decide (uptoBulkAll ds ≤ 1048576)
def OpenSpec.upto (s : _root_.Go.ChangeSpec) : _root_.Go.OpenSpec := { _root_.Go.OpenSpec.ofChange s with cond := some uptoSmall }

/-- 'lodestarlaw20.BailMatches', WHERE WHAT IT READS IS OF BULK AT MOST 1048576: true; the input reads as it did. -/
def bailMatchesUptoRow : OpenClaim := { program := "ytijmbpokglohbaa", sum := "b96eab249197d5474b47b8e3af5773be50fd908743ac9114507aace131138523", func := "lodestar/lodestarlaw20.BailMatches", spec := "bailMatches", inPlace := ["internal/abi.NoEscape"], unfollowed := true, recurses := true, plainKeys := false, apart := false, narrowed := true }
def BailMatchesUptoSaid : Prop := bailMatchesUptoRow.holds Try.pinned (OpenSpec.upto bailMatchesSpec)

/-- 'lodestarlaw20.BailJudges', WHERE WHAT IT READS IS OF BULK AT MOST 1048576: true; the input reads as it did. -/
def bailJudgesUptoRow : OpenClaim := { program := "ytijmbpokglohbaa", sum := "b96eab249197d5474b47b8e3af5773be50fd908743ac9114507aace131138523", func := "lodestar/lodestarlaw20.BailJudges", spec := "bailJudges", inPlace := ["internal/abi.NoEscape"], unfollowed := true, recurses := true, plainKeys := false, apart := false, narrowed := true }
def BailJudgesUptoSaid : Prop := bailJudgesUptoRow.holds Try.pinned (OpenSpec.upto bailJudgesSpec)

/-- 'lodestarlaw20.BailBeyond', WHERE WHAT IT READS IS OF BULK AT MOST 1048576: true; the input reads as it did. -/
def bailBeyondUptoRow : OpenClaim := { program := "ytijmbpokglohbaa", sum := "b96eab249197d5474b47b8e3af5773be50fd908743ac9114507aace131138523", func := "lodestar/lodestarlaw20.BailBeyond", spec := "bailBeyond", inPlace := ["internal/abi.NoEscape"], unfollowed := true, recurses := true, plainKeys := false, apart := false, narrowed := true }
def BailBeyondUptoSaid : Prop := bailBeyondUptoRow.holds Try.pinned (OpenSpec.upto bailBeyondSpec)

/-- 'lodestarlaw20.BailDown', WHERE WHAT IT READS IS OF BULK AT MOST 1048576: true; the input reads as it did. -/
def bailDownUptoRow : OpenClaim := { program := "ytijmbpokglohbaa", sum := "b96eab249197d5474b47b8e3af5773be50fd908743ac9114507aace131138523", func := "lodestar/lodestarlaw20.BailDown", spec := "bailDown", inPlace := ["internal/abi.NoEscape"], unfollowed := true, recurses := true, plainKeys := false, apart := false, narrowed := true }
def BailDownUptoSaid : Prop := bailDownUptoRow.holds Try.pinned (OpenSpec.upto bailDownSpec)

/-- 'lodestarlaw20.BailLetters', WHERE WHAT IT READS IS OF BULK AT MOST 1048576: true; the input reads as it did. -/
def bailLettersUptoRow : OpenClaim := { program := "ytijmbpokglohbaa", sum := "b96eab249197d5474b47b8e3af5773be50fd908743ac9114507aace131138523", func := "lodestar/lodestarlaw20.BailLetters", spec := "bailLetters", inPlace := ["internal/abi.NoEscape"], unfollowed := true, recurses := true, plainKeys := false, apart := false, narrowed := true }
def BailLettersUptoSaid : Prop := bailLettersUptoRow.holds Try.pinned (OpenSpec.upto bailLettersSpec)

/-- 'lodestarlaw20.BailTwice', WHERE WHAT IT READS IS OF BULK AT MOST 1048576: true; the input reads as it did. -/
def bailTwiceUptoRow : OpenClaim := { program := "ytijmbpokglohbaa", sum := "b96eab249197d5474b47b8e3af5773be50fd908743ac9114507aace131138523", func := "lodestar/lodestarlaw20.BailTwice", spec := "bailTwice", inPlace := ["internal/abi.NoEscape"], unfollowed := true, recurses := true, plainKeys := false, apart := false, narrowed := true }
def BailTwiceUptoSaid : Prop := bailTwiceUptoRow.holds Try.pinned (OpenSpec.upto bailTwiceSpec)

/-- 'lodestarlaw18.CacheScripts', WHERE WHAT IT READS IS OF BULK AT MOST 1048576: true; the input reads as it did. -/
def cacheScriptsUptoRow : OpenClaim := { program := "ytijmbpokglohbaa", sum := "b96eab249197d5474b47b8e3af5773be50fd908743ac9114507aace131138523", func := "lodestar/lodestarlaw18.CacheScripts", spec := "cacheScripts", inPlace := ["internal/abi.NoEscape"], unfollowed := true, recurses := true, plainKeys := false, apart := false, narrowed := true }
def CacheScriptsUptoSaid : Prop := cacheScriptsUptoRow.holds Try.pinned (OpenSpec.upto cacheScriptsSpec)

/-- 'lodestarlaw18.CacheNil', WHERE WHAT IT READS IS OF BULK AT MOST 1048576: true; the input reads as it did. -/
def cacheNilUptoRow : OpenClaim := { program := "ytijmbpokglohbaa", sum := "b96eab249197d5474b47b8e3af5773be50fd908743ac9114507aace131138523", func := "lodestar/lodestarlaw18.CacheNil", spec := "cacheNil", inPlace := ["internal/abi.NoEscape"], unfollowed := true, recurses := true, plainKeys := false, apart := false, narrowed := true }
def CacheNilUptoSaid : Prop := cacheNilUptoRow.holds Try.pinned (OpenSpec.upto cacheNilSpec)

/-- 'lodestarlaw18.CachePuts', WHERE WHAT IT READS IS OF BULK AT MOST 1048576: true; the input reads as it did. -/
def cachePutsUptoRow : OpenClaim := { program := "ytijmbpokglohbaa", sum := "b96eab249197d5474b47b8e3af5773be50fd908743ac9114507aace131138523", func := "lodestar/lodestarlaw18.CachePuts", spec := "cachePuts", inPlace := ["internal/abi.NoEscape"], unfollowed := true, recurses := true, plainKeys := false, apart := false, narrowed := true }
def CachePutsUptoSaid : Prop := cachePutsUptoRow.holds Try.pinned (OpenSpec.upto cachePutsSpec)

/-- 'lodestarlaw18.CacheBound', WHERE WHAT IT READS IS OF BULK AT MOST 1048576: true; the input reads as it did. -/
def cacheBoundUptoRow : OpenClaim := { program := "ytijmbpokglohbaa", sum := "b96eab249197d5474b47b8e3af5773be50fd908743ac9114507aace131138523", func := "lodestar/lodestarlaw18.CacheBound", spec := "cacheBound", inPlace := ["internal/abi.NoEscape"], unfollowed := true, recurses := true, plainKeys := false, apart := false, narrowed := true }
def CacheBoundUptoSaid : Prop := cacheBoundUptoRow.holds Try.pinned (OpenSpec.upto cacheBoundSpec)

/-- 'lodestarlaw18.CacheApart', WHERE WHAT IT READS IS OF BULK AT MOST 1048576: true; the input reads as it did. -/
def cacheApartUptoRow : OpenClaim := { program := "ytijmbpokglohbaa", sum := "b96eab249197d5474b47b8e3af5773be50fd908743ac9114507aace131138523", func := "lodestar/lodestarlaw18.CacheApart", spec := "cacheApart", inPlace := ["internal/abi.NoEscape"], unfollowed := true, recurses := true, plainKeys := false, apart := false, narrowed := true }
def CacheApartUptoSaid : Prop := cacheApartUptoRow.holds Try.pinned (OpenSpec.upto cacheApartSpec)

/-- 'lodestarlaw18.CacheRanks', WHERE WHAT IT READS IS OF BULK AT MOST 1048576: true; the input reads as it did. -/
def cacheRanksUptoRow : OpenClaim := { program := "ytijmbpokglohbaa", sum := "b96eab249197d5474b47b8e3af5773be50fd908743ac9114507aace131138523", func := "lodestar/lodestarlaw18.CacheRanks", spec := "cacheRanks", inPlace := ["internal/abi.NoEscape"], unfollowed := true, recurses := true, plainKeys := false, apart := false, narrowed := true }
def CacheRanksUptoSaid : Prop := cacheRanksUptoRow.holds Try.pinned (OpenSpec.upto cacheRanksSpec)

end Rows
end Go.Proofs.Ytijmbpokglohbaa
