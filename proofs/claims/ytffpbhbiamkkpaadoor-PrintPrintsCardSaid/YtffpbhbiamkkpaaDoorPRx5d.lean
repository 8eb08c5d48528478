import Derived.Test.YtffpbhbiamkkpaaDoorM5
import Derived.Test.YtffpbhbiamkkpaaDoorPRx3
import Derived.Test.YtffpbhbiamkkpaaDoorPRx4
import Derived.Test.YtffpbhbiamkkpaaDoorM7
-- PRINTED by print.py (a twelfth state) out of the translation. Not trusted: Lean checks it.
namespace Go.Proofs.YtffpbhbiamkkpaaDoor.PR
open Go.Proofs.YtffpbhbiamkkpaaDoor.ND
open Go.RowKit Go.Proofs.YtffpbhbiamkkpaaDoorW.PrintWords Go.Proofs.YtffpbhbiamkkpaaDoorW.PrintLast Go.Proofs.YtffpbhbiamkkpaaDoorW.PrintMore
attribute [local go_sem] yf9 yf7 yg5 yg4 ye9 ye8 yf8 yf6   -- for this text's walks alone
set_option linter.unusedVariables false
set_option linter.unusedSimpArgs false

attribute [local go_sem high] eqA23
mutual
def ya4.j0 : Nat → Bool → Int → ByteArray → ByteArray → List (At) → List (Nd) → ByteArray → Option (Bool)
 | 0, _, _, _, _, _, _, _ => none
 | k + 1, x55, x128000, x128001, x128002, x128003, x128004, x128005 => if x55 = true then (some false) else (ya4.l0 k 0 x128000 x128001 x128002 x128003 x128004 x128005)
def ya4.l0 : Nat → Int → Int → ByteArray → ByteArray → List (At) → List (Nd) → ByteArray → Option (Bool)
 | 0, _, _, _, _, _, _, _ => none
 | k + 1, x3, x128000, x128001, x128002, x128003, x128004, x128005 => if x3 < (x128003.length : Int) then (if 0 ≤ x3 then ((yc5.f k ((rdAt x128003 x3).f0.f0) ((rdAt x128003 x3).f0.f1)).bind fun t132 => (if t132 = true then ((yb6.f k ((rdAt x128003 x3).f1)).bind fun t133 => (if t133 = true then (if ((rdAt x128003 x3).f0.f0).toList = ([] : List UInt8) then (ya4.j2 k x3 (((rdAt x128003 x3).f0.f1).toList == ([120, 109, 108, 110, 115] : List UInt8)) x128000 x128001 x128002 x128003 x128004 x128005 ((rdAt x128003 x3).f0.f0) ((rdAt x128003 x3).f0.f1) ((rdAt x128003 x3).f1)) else (ya4.j2 k x3 false x128000 x128001 x128002 x128003 x128004 x128005 ((rdAt x128003 x3).f0.f0) ((rdAt x128003 x3).f0.f1) ((rdAt x128003 x3).f1))) else (ya4.j2 k x3 true x128000 x128001 x128002 x128003 x128004 x128005 ((rdAt x128003 x3).f0.f0) ((rdAt x128003 x3).f0.f1) ((rdAt x128003 x3).f1)))) else (ya4.j2 k x3 true x128000 x128001 x128002 x128003 x128004 x128005 ((rdAt x128003 x3).f0.f0) ((rdAt x128003 x3).f0.f1) ((rdAt x128003 x3).f1)))) else (none)) else (ya4.l2 k 0 x128000 x128001 x128002 x128003 x128004 x128005)
def ya4.j2 : Nat → Int → Bool → Int → ByteArray → ByteArray → List (At) → List (Nd) → ByteArray → ByteArray → ByteArray → ByteArray → Option (Bool)
 | 0, _, _, _, _, _, _, _, _, _, _, _ => none
 | k + 1, x3, x89, x128000, x128001, x128002, x128003, x128004, x128005, x132000, x132001, x132002 => if x89 = true then (some false) else (ya4.l1 k x3 0 x128000 x128001 x128002 x128003 x128004 x128005 x132000 x132001 x132002)
def ya4.l1 : Nat → Int → Int → Int → ByteArray → ByteArray → List (At) → List (Nd) → ByteArray → ByteArray → ByteArray → ByteArray → Option (Bool)
 | 0, _, _, _, _, _, _, _, _, _, _, _ => none
 | k + 1, x3, x5, x128000, x128001, x128002, x128003, x128004, x128005, x132000, x132001, x132002 => if x5 < x3 then (if 0 ≤ x5 then (if x5 < (x128003.length : Int) then (if ((((rdAt x128003 x5).f0.f0).toList) == x132000.toList && ((((rdAt x128003 x5).f0.f1).toList) == x132001.toList)) = true then (some false) else (ya4.l1 k x3 (wrap64 (x5 + 1)) x128000 x128001 x128002 x128003 x128004 x128005 x132000 x132001 x132002)) else (none)) else (none)) else (ya4.l0 k (wrap64 (x3 + 1)) x128000 x128001 x128002 x128003 x128004 x128005)
def ya4.l2 : Nat → Int → Int → ByteArray → ByteArray → List (At) → List (Nd) → ByteArray → Option (Bool)
 | 0, _, _, _, _, _, _, _ => none
 | k + 1, x6, x128000, x128001, x128002, x128003, x128004, x128005 => if x6 < (x128004.length : Int) then (if 0 ≤ x6 then ((ya4.f k ((rdNd x128004 x6).f0) ((rdNd x128004 x6).f1.f0) ((rdNd x128004 x6).f1.f1) ((rdNd x128004 x6).f2) ((rdNd x128004 x6).f3) ((rdNd x128004 x6).f4)).bind fun t136 => (if t136 = true then (if x6 > 0 then (if ((rdNd x128004 x6).f0) = 2 then (if 0 ≤ (wrap64 (x6 - 1)) then (if (wrap64 (x6 - 1)) < (x128004.length : Int) then (if ((rdNd x128004 (wrap64 (x6 - 1))).f0) = 2 then (some false) else (ya4.l2 k (wrap64 (x6 + 1)) x128000 x128001 x128002 x128003 x128004 x128005)) else (none)) else (none)) else (ya4.l2 k (wrap64 (x6 + 1)) x128000 x128001 x128002 x128003 x128004 x128005)) else (ya4.l2 k (wrap64 (x6 + 1)) x128000 x128001 x128002 x128003 x128004 x128005)) else (some false))) else (none)) else (some true)
def ya4.f : Nat → Int → ByteArray → ByteArray → List (At) → List (Nd) → ByteArray → Option (Bool)
 | 0, _, _, _, _, _, _ => none
 | k + 1, a0_0, a0_1, a0_2, l0_3, l0_4, a0_5 => if a0_0 = 2 then (if a0_5.toList = ([] : List UInt8) then (some false) else ((yb6.f k a0_5).bind fun t128 => (if t128 = true then (if (a0_1.toList == ([] : List UInt8) && (a0_2.toList == ([] : List UInt8))) = true then (if (l0_3.length : Int) = 0 then (some ((l0_4.length : Int) == 0)) else (some false)) else (some false)) else (some false)))) else (if a0_0 = 1 then (if a0_5.toList = ([] : List UInt8) then ((yc5.f k a0_1 a0_2).bind fun t129 => (if t129 = true then (ya4.j0 k (decide ((l0_3.length : Int) > 32)) a0_0 a0_1 a0_2 l0_3 l0_4 a0_5) else (ya4.j0 k true a0_0 a0_1 a0_2 l0_3 l0_4 a0_5))) else (ya4.j0 k true a0_0 a0_1 a0_2 l0_3 l0_4 a0_5)) else (ya4.j0 k true a0_0 a0_1 a0_2 l0_3 l0_4 a0_5))
end
end Go.Proofs.YtffpbhbiamkkpaaDoor.PR
