import Derived.Test.YtaccjdbbkmhanaaGreatDoorM12
import Derived.Test.YtaccjdbbkmhanaaGreatDoorM5
import Derived.Test.YtaccjdbbkmhanaaGreatDoorM1
import Derived.Test.YtaccjdbbkmhanaaGreatDoorM11
import Derived.Test.YtaccjdbbkmhanaaGreatDoorM10
import Derived.Test.YtaccjdbbkmhanaaGreatDoorM6
namespace Go.Proofs.YtaccjdbbkmhanaaGreatDoor
namespace Big
open Go.RowKit
end Big
end Go.Proofs.YtaccjdbbkmhanaaGreatDoor
namespace Go.Proofs.YtaccjdbbkmhanaaGreatDoor
namespace Big
open Go.RowKit
def fmtI (z:Int):List UInt8:=if z<0 then 45::dec z.natAbs else dec z.natAbs
end Big
end Go.Proofs.YtaccjdbbkmhanaaGreatDoor
namespace Go.Proofs.YtaccjdbbkmhanaaGreatDoor
namespace Big
open Go.RowKit
end Big
end Go.Proofs.YtaccjdbbkmhanaaGreatDoor
namespace Go.Proofs.YtaccjdbbkmhanaaGreatDoor
namespace Big
open Go.RowKit
theorem AtEx.node {l:List Nd} {i:Nat} {e:Ex} (h:AtEx l i e):∃hi:i<l.length,l[i].kind=(e.kind:Int):=by
 have hi:=h.lt.1
 refine ⟨hi,?_⟩
 have h2:∃nd,l[i]? =some nd∧nd.kind=(e.kind:Int):=by
  cases e with
  |leaf k t=>exact ⟨_,h.leaf,rfl⟩
  |un k n x=>exact ⟨_,h.un.2.1,rfl⟩
  |bin k x y=>obtain ⟨j,_,h3,_⟩:=h.bin;exact ⟨_,h3,rfl⟩
 obtain ⟨nd,h3,h4⟩:=h2
 rw [List.getElem?_eq_getElem hi] at h3
 injection h3 with h3
 rw [h3,h4]
end Big
end Go.Proofs.YtaccjdbbkmhanaaGreatDoor
