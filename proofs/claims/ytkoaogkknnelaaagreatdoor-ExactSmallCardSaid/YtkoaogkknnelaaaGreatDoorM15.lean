import Derived.Test.YtkoaogkknnelaaaGreatDoorM14
set_option linter.unusedVariables false
set_option linter.unusedSimpArgs false
namespace Go.Proofs.YtkoaogkknnelaaaGreatDoor
namespace Big
open Go.RowKit
theorem Fv(l:List UInt8)(a i:Nat):Af (l.drop a) i=Af l (a+i):=by
 unfold Af;rw[List.getD_eq_getElem?_getD,List.getD_eq_getElem?_getD,List.getElem?_drop]
end Big
end Go.Proofs.YtkoaogkknnelaaaGreatDoor
