import Derived.Test.YtkoaogkknnelaaaGreatDoorM14
set_option linter.unusedVariables false
set_option linter.unusedSimpArgs false
namespace Go.Proofs.YtkoaogkknnelaaaGreatDoor
namespace Big
open Go.RowKit
theorem Fl(l:List UInt8)(a i:Nat):Ae (l.drop a) i=Ae l (a+i):=by
 unfold Ae;rw[List.getD_eq_getElem?_getD,List.getD_eq_getElem?_getD,List.getElem?_drop]
end Big
end Go.Proofs.YtkoaogkknnelaaaGreatDoor
