import Derived.Shelf.SlMaps.Clone
import Derived.Ground.SlmcProg
import Derived.Shelf.SlicesE.Clone
import Derived.Ground.SlgnProg
import Derived.Shelf.SlIter.Nil
import Derived.Shelf.SortM.Plain
import Derived.Shelf.SortM.SortNone
import Derived.Ground.GgzProg
import Derived.Ground.SlgmProg
import Derived.Test.YtkoaogkknnelaaaGreatDoorProg
namespace Go.Proofs
open Go.Shelf
def Tryz.cloneListIt_ren:Go.Shelf.Ren:=⟨fun|41=>157|n=>n,fun|22=>77|23=>95|4=>4|n=>n,fun|n=>n⟩
def Tryz.cloneNodesIt_ren:Go.Shelf.Ren:=⟨fun|41=>106|n=>n,fun|22=>32|23=>95|4=>4|n=>n,fun|n=>n⟩
theorem Tryz.cloneNodesIt:Go.Proofs.SlLaysE0.n41 Tryz.prog Tryz.cloneNodesIt_ren:={
 mixed:=by kernel_rfl
 f41:=⟨Tryz.f106.name,by decide,Tryz.func106.trans (congrArg some (by kernel_rfl))⟩
 t4:=Tryz.underlying4
 a4:=Tryz.isAgg4
 z4:=Tryz.sizeOf4
 v4:=Tryz.zeroValue4
 t22:=Tryz.underlying32
 a22:=Tryz.isAgg32
 z22:=Tryz.sizeOf32
 v22:=Tryz.zeroValue32 }
open Go.RowKit Go.Maps Go.Sort Go.Shelf
end Go.Proofs
