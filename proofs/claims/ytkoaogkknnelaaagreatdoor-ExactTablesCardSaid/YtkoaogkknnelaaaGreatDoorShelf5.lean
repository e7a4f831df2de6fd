import Derived.Shelf.SlMaps.Clone
import Derived.Ground.SlmcProg
import Derived.Shelf.SlicesE.Clone
import Derived.Ground.SlgnProg
import Derived.Shelf.SlIter.Nil
import Derived.Shelf.SortM.Plain
import Derived.Shelf.SortM.SortNone
import Derived.Ground.GgzProg
import Derived.Ground.SlgmProg
import Derived.Test.YtkoaogkknnelaaaGreatDoorProg
namespace Go.Proofs
open Go.Shelf
def Tryz.cloneMapIt_ren:Go.Shelf.Ren:=⟨fun|5=>158|7=>198|n=>n,fun|23=>78|25=>95|3=>3|4=>4|20=>20|n=>n,fun|n=>n⟩
theorem Tryz.cloneMapIt:Go.Proofs.SlLaysW.n5 Tryz.prog Tryz.cloneMapIt_ren:={
 mixed:=by kernel_rfl
 f5:=⟨Tryz.f158.name,by decide,Tryz.func158.trans (congrArg some (by kernel_rfl))⟩
 f7:=Tryz.func198.trans (congrArg some (by kernel_rfl))
 t4:=Tryz.underlying4
 a4:=Tryz.isAgg4
 z4:=Tryz.sizeOf4
 v4:=Tryz.zeroValue4
 t20:=Tryz.underlying20
 a20:=Tryz.isAgg20
 z20:=Tryz.sizeOf20
 v20:=Tryz.zeroValue20
 t23:=Tryz.underlying78
 a23:=Tryz.isAgg78
 z23:=Tryz.sizeOf78
 v23:=Tryz.zeroValue78 }
def Tryz.cloneListIt_ren:Go.Shelf.Ren:=⟨fun|41=>157|n=>n,fun|22=>77|23=>95|4=>4|n=>n,fun|n=>n⟩
theorem Tryz.cloneListIt:Go.Proofs.SlLaysE0.n41 Tryz.prog Tryz.cloneListIt_ren:={
 mixed:=by kernel_rfl
 f41:=⟨Tryz.f157.name,by decide,Tryz.func157.trans (congrArg some (by kernel_rfl))⟩
 t4:=Tryz.underlying4
 a4:=Tryz.isAgg4
 z4:=Tryz.sizeOf4
 v4:=Tryz.zeroValue4
 t22:=Tryz.underlying77
 a22:=Tryz.isAgg77
 z22:=Tryz.sizeOf77
 v22:=Tryz.zeroValue77 }
def Tryz.cloneNodesIt_ren:Go.Shelf.Ren:=⟨fun|41=>106|n=>n,fun|22=>32|23=>95|4=>4|n=>n,fun|n=>n⟩
theorem Tryz.cloneNodesIt:Go.Proofs.SlLaysE0.n41 Tryz.prog Tryz.cloneNodesIt_ren:={
 mixed:=by kernel_rfl
 f41:=⟨Tryz.f106.name,by decide,Tryz.func106.trans (congrArg some (by kernel_rfl))⟩
 t4:=Tryz.underlying4
 a4:=Tryz.isAgg4
 z4:=Tryz.sizeOf4
 v4:=Tryz.zeroValue4
 t22:=Tryz.underlying32
 a22:=Tryz.isAgg32
 z22:=Tryz.sizeOf32
 v22:=Tryz.zeroValue32 }
def Tryz.keysIt_ren:Go.Shelf.Ren:=⟨fun|7=>109|10=>162|n=>n,fun|23=>151|26=>9|3=>4|28=>171|0=>0|27=>170|33=>147|4=>4|n=>n,fun|n=>n⟩
theorem Tryz.keysIt:Go.Proofs.SlLaysZ.n7 Tryz.prog Tryz.keysIt_ren:={
 mixed:=by kernel_rfl
 f7:=⟨Tryz.f109.name,by decide,Tryz.func109.trans (congrArg some (by kernel_rfl))⟩
 f10:=⟨Tryz.f162.name,by decide,Tryz.func162.trans (congrArg some (by kernel_rfl))⟩
 t0:=Tryz.underlying0
 a0:=Tryz.isAgg0
 z0:=Tryz.sizeOf0
 v0:=Tryz.zeroValue0
 t4:=Tryz.underlying4
 a4:=Tryz.isAgg4
 z4:=Tryz.sizeOf4
 v4:=Tryz.zeroValue4
 t23:=Tryz.underlying151
 a23:=Tryz.isAgg151
 z23:=Tryz.sizeOf151
 v23:=Tryz.zeroValue151
 t26:=Tryz.underlying9
 a26:=Tryz.isAgg9
 z26:=Tryz.sizeOf9
 v26:=Tryz.zeroValue9
 t27:=Tryz.underlying170
 a27:=Tryz.isAgg170
 z27:=Tryz.sizeOf170
 v27:=Tryz.zeroValue170
 t28:=Tryz.underlying171
 a28:=Tryz.isAgg171
 z28:=Tryz.sizeOf171
 v28:=Tryz.zeroValue171
 t33:=Tryz.underlying147
 a33:=Tryz.isAgg147
 z33:=Tryz.sizeOf147
 v33:=Tryz.zeroValue147 }
def Tryz.sortedIt_ren:Go.Shelf.Ren:=⟨fun|6=>108|8=>160|9=>161|11=>201|13=>203|12=>202|23=>178|24=>238|14=>229|15=>230|16=>231|17=>232|18=>233|19=>234|20=>235|21=>236|22=>237|25=>261|26=>262|27=>263|28=>264|29=>265|30=>266|31=>283|n=>n,fun|26=>9|28=>171|24=>30|0=>0|3=>3|37=>184|48=>183|50=>111|4=>4|40=>253|39=>252|45=>153|5=>5|9=>9|51=>272|55=>276|57=>283|58=>284|33=>147|n=>n,fun|n=>n⟩
theorem Tryz.sortedIt:Go.Proofs.SlLaysZ.n6 Tryz.prog Tryz.sortedIt_ren:={
 mixed:=by kernel_rfl
 f6:=⟨Tryz.f108.name,by decide,Tryz.func108.trans (congrArg some (by kernel_rfl))⟩
 f8:=⟨Tryz.f160.name,by decide,Tryz.func160.trans (congrArg some (by kernel_rfl))⟩
 f11:=⟨Tryz.f201.name,by decide,Tryz.func201.trans (congrArg some (by kernel_rfl))⟩
 t0:=Tryz.underlying0
 a0:=Tryz.isAgg0
 z0:=Tryz.sizeOf0
 v0:=Tryz.zeroValue0
 t24:=Tryz.underlying30
 a24:=Tryz.isAgg30
 z24:=Tryz.sizeOf30
 v24:=Tryz.zeroValue30
 t26:=Tryz.underlying9
 a26:=Tryz.isAgg9
 z26:=Tryz.sizeOf9
 v26:=Tryz.zeroValue9
 t28:=Tryz.underlying171
 a28:=Tryz.isAgg171
 z28:=Tryz.sizeOf171
 v28:=Tryz.zeroValue171
 i26:=by kernel_rfl }
def Tryz.sortIt_ren:Go.Shelf.Ren:=⟨fun|6=>161|8=>203|9=>202|19=>178|20=>238|21=>229|22=>230|23=>231|24=>232|25=>233|26=>234|27=>235|28=>236|29=>237|36=>261|31=>262|32=>263|37=>264|38=>265|39=>266|41=>283|n=>n,fun|27=>30|29=>9|3=>3|32=>184|26=>30|0=>0|44=>183|46=>111|4=>4|36=>253|35=>252|41=>153|5=>5|9=>9|53=>272|57=>276|63=>283|64=>284|n=>n,fun|n=>n⟩
theorem Tryz.sortIt:Go.Proofs.SlLaysM.n6 Tryz.prog Tryz.sortIt_ren:={
 mixed:=by kernel_rfl
 f6:=⟨Tryz.f161.name,by decide,Tryz.func161.trans (congrArg some (by kernel_rfl))⟩
 f8:=Tryz.func203.trans (congrArg some (by kernel_rfl))
 f9:=⟨Tryz.f202.name,by decide,Tryz.func202.trans (congrArg some (by kernel_rfl))⟩
 f19:=Tryz.func178.trans (congrArg some (by kernel_rfl))
 f20:=Tryz.func238.trans (congrArg some (by kernel_rfl))
 f21:=⟨Tryz.f229.name,by decide,Tryz.func229.trans (congrArg some (by kernel_rfl))⟩
 f22:=⟨Tryz.f230.name,by decide,Tryz.func230.trans (congrArg some (by kernel_rfl))⟩
 f23:=⟨Tryz.f231.name,by decide,Tryz.func231.trans (congrArg some (by kernel_rfl))⟩
 f24:=⟨Tryz.f232.name,by decide,Tryz.func232.trans (congrArg some (by kernel_rfl))⟩
 f25:=⟨Tryz.f233.name,by decide,Tryz.func233.trans (congrArg some (by kernel_rfl))⟩
 f26:=⟨Tryz.f234.name,by decide,Tryz.func234.trans (congrArg some (by kernel_rfl))⟩
 f27:=⟨Tryz.f235.name,by decide,Tryz.func235.trans (congrArg some (by kernel_rfl))⟩
 f28:=⟨Tryz.f236.name,by decide,Tryz.func236.trans (congrArg some (by kernel_rfl))⟩
 f29:=⟨Tryz.f237.name,by decide,Tryz.func237.trans (congrArg some (by kernel_rfl))⟩
 f31:=Tryz.func262.trans (congrArg some (by kernel_rfl))
 f32:=Tryz.func263.trans (congrArg some (by kernel_rfl))
 f36:=⟨Tryz.f261.name,by decide,Tryz.func261.trans (congrArg some (by kernel_rfl))⟩
 f37:=⟨Tryz.f264.name,by decide,Tryz.func264.trans (congrArg some (by kernel_rfl))⟩
 f38:=⟨Tryz.f265.name,by decide,Tryz.func265.trans (congrArg some (by kernel_rfl))⟩
 f39:=⟨Tryz.f266.name,by decide,Tryz.func266.trans (congrArg some (by kernel_rfl))⟩
 f41:=⟨Tryz.f283.name,by decide,Tryz.func283.trans (congrArg some (by kernel_rfl))⟩
 t0:=Tryz.underlying0
 a0:=Tryz.isAgg0
 z0:=Tryz.sizeOf0
 v0:=Tryz.zeroValue0
 t3:=Tryz.underlying3
 a3:=Tryz.isAgg3
 z3:=Tryz.sizeOf3
 v3:=Tryz.zeroValue3
 t4:=Tryz.underlying4
 a4:=Tryz.isAgg4
 z4:=Tryz.sizeOf4
 v4:=Tryz.zeroValue4
 t5:=Tryz.underlying5
 a5:=Tryz.isAgg5
 z5:=Tryz.sizeOf5
 v5:=Tryz.zeroValue5
 t9:=Tryz.underlying9
 a9:=Tryz.isAgg9
 z9:=Tryz.sizeOf9
 v9:=Tryz.zeroValue9
 t26:=Tryz.underlying30
 a26:=Tryz.isAgg30
 z26:=Tryz.sizeOf30
 v26:=Tryz.zeroValue30
 t27:=Tryz.underlying30
 a27:=Tryz.isAgg30
 z27:=Tryz.sizeOf30
 v27:=Tryz.zeroValue30
 t29:=Tryz.underlying9
 a29:=Tryz.isAgg9
 z29:=Tryz.sizeOf9
 v29:=Tryz.zeroValue9
 t32:=Tryz.underlying184
 a32:=Tryz.isAgg184
 z32:=Tryz.sizeOf184
 v32:=Tryz.zeroValue184
 t35:=Tryz.underlying252
 a35:=Tryz.isAgg252
 z35:=Tryz.sizeOf252
 v35:=Tryz.zeroValue252
 t36:=Tryz.underlying253
 a36:=Tryz.isAgg253
 z36:=Tryz.sizeOf253
 v36:=Tryz.zeroValue253
 t41:=Tryz.underlying153
 a41:=Tryz.isAgg153
 z41:=Tryz.sizeOf153
 v41:=Tryz.zeroValue153
 t44:=Tryz.underlying183
 a44:=Tryz.isAgg183
 z44:=Tryz.sizeOf183
 v44:=Tryz.zeroValue183
 t46:=Tryz.underlying111
 a46:=Tryz.isAgg111
 z46:=Tryz.sizeOf111
 v46:=Tryz.zeroValue111
 t53:=Tryz.underlying272
 a53:=Tryz.isAgg272
 z53:=Tryz.sizeOf272
 v53:=Tryz.zeroValue272
 t57:=Tryz.underlying276
 a57:=Tryz.isAgg276
 z57:=Tryz.sizeOf276
 v57:=Tryz.zeroValue276
 t63:=Tryz.underlying283
 a63:=Tryz.isAgg283
 z63:=Tryz.sizeOf283
 v63:=Tryz.zeroValue283
 t64:=Tryz.underlying284
 a64:=Tryz.isAgg284
 z64:=Tryz.sizeOf284
 v64:=Tryz.zeroValue284 }
open Go.RowKit Go.Maps Go.Sort Go.Shelf
theorem Tryz.sortsIt (m:Nat):AnyZ.SortsIn Tryz.prog Tryz.sortedIt_ren Fence.wide m:=
 ⟨fun blk off cap ss W hH hblk hsz=>callsIn_wide.2 (AnyM.slices_Sort_string Tryz.sortIt blk off cap ss W hH hblk hsz),
  fun p cap W=>callsIn_wide.2 (AnyM.slices_Sort_string_none Tryz.sortIt p cap W)⟩
theorem Tryz.maps_KeysIt (mb:Option Nat) (W:World):CallsIn Fence.wide 5 Tryz.prog 109 #[.map mb] W fun e w'=>e= .returned (.func (.func 162) #[] #[.pointer (some ⟨W.heap.size,0,none⟩)])∧w'=W.alloc (.cells #[.map mb] 151):=
 AnyZ.keys_in Tryz.keysIt Fence.wide 5 trivial rfl mb W
set_option maxHeartbeats 1000000 in
theorem Tryz.slices_SortedIt {H:Type} (b nn:Nat) (D0:DataW H) (R:Value→Option (DataW H × List MemPlace)) (w:World) (hown:w.ownsMap Tryz.prog 9 R b nn D0) (hmax:Maps.size D0≤maxLen) (hbytes:Maps.size D0*16≤140737488355328):
  CallsIn Fence.wide 5 Tryz.prog 108 #[.func (.func 162) #[] #[.pointer (some ⟨w.heap.size,0,none⟩)]] (w.alloc (.cells #[.map (some b)] 151)) fun e w'=>∃(v:Value) (ss:List (List UInt8)),e= .returned v∧ss.Perm (strKeys D0)∧
   w'.ownsRow (w.alloc (.cells #[.map (some b)] 151)).heap.size 9 1 v ss.length ((ss.mergeSort (fun x y=>decide (x≤y))).map encStr)∧(v= .slice none 0 0↔ss=[])∧Below (w.alloc (.cells #[.map (some b)] 151)).heap.size (w.alloc (.cells #[.map (some b)] 151)) w':=by
 have hbl:=hown.lt
 have hseq:SeqGives Fence.wide 2 Tryz.prog 162 #[.pointer (some ⟨w.heap.size,0,none⟩)] encStr (fun ss=>ss.Perm (strKeys D0)) (Maps.size D0) (w.alloc (.cells #[.map (some b)] 151)):=
  AnyZ.keys_gives (ρ:=Tryz.keysIt_ren) { Tryz.keysIt with } Fence.wide _ trivial rfl (by omega) w.heap.size b nn D0 _ (by simp) (by simp) (by
   obtain ⟨es,clock,hb,Ft,hs,hD⟩:=hown
   exact ⟨es,clock,(Below.heap_alloc _ _ b hbl).trans hb,Ft,hs,hD⟩)
 exact AnyZ.sorted_in Tryz.sortedIt Fence.wide 5 trivial trivial trivial trivial rfl (by omega) (Tryz.sortsIt _) (enters_of Tryz.func161 (by kernel_rfl) rfl) 162 #[.pointer (some ⟨w.heap.size,0,none⟩)] trivial (enters_of Tryz.func162 (by kernel_rfl) rfl) _ _ hmax hbytes _ hseq
end Go.Proofs
