/- Layer 20, the program's side and the reference's: which media a ticket has room on, for every eleven numbers and every version. No condition. -/
import Derived.Test.YtachkhjbckapoaaT07
import Derived.StillTailTactics
import Derived.Deep.RegionHeld3
import Derived.Deep.RegionWith
namespace Go.Proofs.Ytachkhjbckapoaa
open Go.RowKit
set_option linter.unusedVariables false
set_option maxRecDepth 100000
set_option linter.unusedSimpArgs false

def verN (a5 a6 : Int) : Int := if a6 = 0 then (if a5 = 0 then 1 else 2) else 3
def verV (a0 a1 a2 a3 a4 a5 a6 a7 a8 a9 a10 : Int) : Int := if tkB a0 a1 a2 a3 a4 a5 a6 a7 a8 a9 a10 = true then verN a5 a6 else 0
def verE (a0 a1 a2 a3 a4 a5 a6 a7 a8 a9 a10 : Int) : Int := if tkB a0 a1 a2 a3 a4 a5 a6 a7 a8 a9 a10 = true then 0 else 1
def strB (a0 a1 a2 a3 a4 a5 a6 a7 a8 a9 a10 : Int) : Bool := tkB a0 a1 a2 a3 a4 a5 a6 a7 a8 a9 a10 && (decide (a0 ≤ 9999999) && (a6 == 0))
def barB (a0 a1 a2 a3 a4 a5 a6 a7 a8 a9 a10 v : Int) : Bool := tkB a0 a1 a2 a3 a4 a5 a6 a7 a8 a9 a10 && (decide (verN a5 a6 ≤ v) && decide (v ≤ 3))

def ofN (n v : Int) : Int := if n = 0 then 0 else v
def IntRet (z : Int) (W : World) (e : Ending) (w' : World) : Prop := e = .returned (.int .i64 z) ∧ Below W.heap.size W w'

end Go.Proofs.Ytachkhjbckapoaa
