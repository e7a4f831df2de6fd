import Derived.Shelf.SlicesE.Clone
import Derived.Ground.SlgnProg
import Derived.Test.YtkoaogkknnelaaaGreatDoorProg
namespace Go.Proofs
open Go.Shelf
def Tryz.cloneTxIt_ren:Go.Shelf.Ren:=⟨fun|41=>154|n=>n,fun|22=>30|23=>9|4=>4|n=>n,fun|n=>n⟩
theorem Tryz.cloneTxIt:Go.Proofs.SlLaysE0.n41 Tryz.prog Tryz.cloneTxIt_ren:={
 mixed:=by kernel_rfl
 f41:=⟨Tryz.f154.name,by decide,Tryz.func154.trans (congrArg some (by kernel_rfl))⟩
 t4:=Tryz.underlying4
 a4:=Tryz.isAgg4
 z4:=Tryz.sizeOf4
 v4:=Tryz.zeroValue4
 t22:=Tryz.underlying30
 a22:=Tryz.isAgg30
 z22:=Tryz.sizeOf30
 v22:=Tryz.zeroValue30 }
end Go.Proofs
