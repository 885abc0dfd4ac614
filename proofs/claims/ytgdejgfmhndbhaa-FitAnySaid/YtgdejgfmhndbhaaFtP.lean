/-
  Messages that must not be too great: plain definitions.
-/
import Derived.Test.YtgdejgfmhndbhaaWrF
namespace Go.Proofs.Ytgdejgfmhndbhaa
open Go.RowKit Go.Maps
set_option linter.unusedSimpArgs false
set_option linter.unusedVariables false
def Msg.tk (m : Msg) (n : Nat) : Msg := { m with ex := m.ex.take n }
def Msg.cut (m : Msg) : Msg := { m with tr := true, an := [], ns := [], ex := [] }
def msgZ : Msg := ⟨0, false, 0, false, false, false, false, 0, [], [], [], [], 0⟩
def fits (m : Msg) (limit : Int) : Bool := decide (encC m = 0) && decide (((encS m).length : Int) ≤ limit)
def fitN (m : Msg) (limit : Int) : Nat → Option Msg
  | 0 => if fits (m.tk 0) limit then some (m.tk 0) else if fits m.cut limit then some m.cut else none
  | n + 1 => if fits (m.tk (n + 1)) limit then some (m.tk (n + 1)) else fitN m limit n
def fitO (m : Msg) (limit : Int) : Bool := msgB m && (decide (1 ≤ limit) && decide (limit ≤ 65535))
def fitR (m : Msg) (limit : Int) : Option Msg := if fitO m limit then fitN m limit m.ex.length else none
def fitC (m : Msg) (limit : Int) : Int := if fitO m limit then (if (fitN m limit m.ex.length).isSome then 0 else 4) else 1
def fitM (m : Msg) (limit : Int) : Msg := (fitR m limit).getD msgZ
def fitS (m : Msg) (limit : Int) : Bs := match fitR m limit with | some x => encS x | none => []
end Go.Proofs.Ytgdejgfmhndbhaa
