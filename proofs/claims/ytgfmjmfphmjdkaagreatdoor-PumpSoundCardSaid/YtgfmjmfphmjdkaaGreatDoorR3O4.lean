/- Layer 28 (motion): the reference: the commands that may lead there, and which is told. No condition. -/
import Derived.Test.YtgfmjmfphmjdkaaGreatDoorR3BA
import Derived.Test.YtgfmjmfphmjdkaaGreatDoorR3H1
import Derived.Test.YtgfmjmfphmjdkaaGreatDoorR3B1
import Derived.Test.YtgfmjmfphmjdkaaGreatDoorR3BC
import Derived.Test.YtgfmjmfphmjdkaaGreatDoorR3AQ
import Derived.Test.YtgfmjmfphmjdkaaGreatDoorR3ZX
set_option linter.unusedSimpArgs false
set_option linter.unusedVariables false
set_option linter.unusedSectionVars false
namespace Go.Proofs.YtgfmjmfphmjdkaaGreatDoor
set_option maxHeartbeats 4000000
open Go Go.RowKit
set_option maxRecDepth 100000
variable {T0 : Gh} [TabS T0]
attribute [local irreducible] zz zg AW AL AO QY qh z_ rsA Opd xh vA gvA zy qb slA jl ipA rpA EqK LnK IxK LdK FaK FdK
theorem zoc {P : Program} {N : Fz} {d : Bool} {Q : ko} {fr : Fr} {M : List Own} {a : Own} {ops : Array Oper} {l : List Oper} (h : AL P T0 N d ops Q l fr (a :: M)) : AL P T0 N d ops Q l fr ([a] ++ M):=h
end Go.Proofs.YtgfmjmfphmjdkaaGreatDoor
