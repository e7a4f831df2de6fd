/-
  DERIVED: THE SHELF's CONTRACTS AT THIS DUMP, IN PLAIN WORDS (tools/lay-plain.mjs out of 'TryzShelfG.lean', which tools/lay-shelf.mjs wrote): THE SAME DECLARATIONS UNDER THE SAME NAMES: 'import', 'namespace', 'open', 'def', 'theorem' AND NOTHING ELSE: no command of the shelf's: FOR A HAND-IN. Each laying: the table of numbers ('.._ren') and one theorem, a field a fact of the dump's own or the kernel's comparison; each contract: ONE APPLICATION.
-/
import Derived.Shelf.SlMaps.Clone
import Derived.Ground.SlmcProg
import Derived.Shelf.SlicesE.Clone
import Derived.Ground.SlgnProg
import Derived.Shelf.SlIter.Nil
import Derived.Shelf.SortM.Plain
import Derived.Shelf.SortM.SortNone
import Derived.Ground.GgzProg
import Derived.Ground.SlgmProg
import Derived.Test.YtaccjdbbkmhanaaGreatDoorProg
namespace Go.Proofs
open Go.Shelf
def Tryz.cloneMapIt_ren : Go.Shelf.Ren := ⟨fun | 5 => 35 | 7 => 58 | n => n, fun | 23 => 36 | 25 => 50 | 3 => 3 | 4 => 4 | 20 => 20 | n => n, fun | n => n⟩
theorem Tryz.cloneMapIt : Go.Proofs.SlLaysW.n5 Tryz.prog Tryz.cloneMapIt_ren := {
  mixed := by kernel_rfl
  f5 := ⟨Tryz.f35.name, by decide, Tryz.func35.trans (congrArg some (by kernel_rfl))⟩
  f7 := Tryz.func58.trans (congrArg some (by kernel_rfl))
  t4 := Tryz.underlying4
  a4 := Tryz.isAgg4
  z4 := Tryz.sizeOf4
  v4 := Tryz.zeroValue4
  t20 := Tryz.underlying20
  a20 := Tryz.isAgg20
  z20 := Tryz.sizeOf20
  v20 := Tryz.zeroValue20
  t23 := Tryz.underlying36
  a23 := Tryz.isAgg36
  z23 := Tryz.sizeOf36
  v23 := Tryz.zeroValue36 }
def Tryz.cloneListIt_ren : Go.Shelf.Ren := ⟨fun | 41 => 34 | n => n, fun | 22 => 35 | 23 => 50 | 4 => 4 | n => n, fun | n => n⟩
theorem Tryz.cloneListIt : Go.Proofs.SlLaysE0.n41 Tryz.prog Tryz.cloneListIt_ren := {
  mixed := by kernel_rfl
  f41 := ⟨Tryz.f34.name, by decide, Tryz.func34.trans (congrArg some (by kernel_rfl))⟩
  t4 := Tryz.underlying4
  a4 := Tryz.isAgg4
  z4 := Tryz.sizeOf4
  v4 := Tryz.zeroValue4
  t22 := Tryz.underlying35
  a22 := Tryz.isAgg35
  z22 := Tryz.sizeOf35
  v22 := Tryz.zeroValue35 }
def Tryz.cloneNodesIt_ren : Go.Shelf.Ren := ⟨fun | 41 => 37 | n => n, fun | 22 => 25 | 23 => 50 | 4 => 4 | n => n, fun | n => n⟩
theorem Tryz.cloneNodesIt : Go.Proofs.SlLaysE0.n41 Tryz.prog Tryz.cloneNodesIt_ren := {
  mixed := by kernel_rfl
  f41 := ⟨Tryz.f37.name, by decide, Tryz.func37.trans (congrArg some (by kernel_rfl))⟩
  t4 := Tryz.underlying4
  a4 := Tryz.isAgg4
  z4 := Tryz.sizeOf4
  v4 := Tryz.zeroValue4
  t22 := Tryz.underlying25
  a22 := Tryz.isAgg25
  z22 := Tryz.sizeOf25
  v22 := Tryz.zeroValue25 }
def Tryz.keysIt_ren : Go.Shelf.Ren := ⟨fun | 7 => 61 | 10 => 84 | n => n, fun | 23 => 104 | 26 => 9 | 3 => 4 | 28 => 107 | 0 => 0 | 27 => 106 | 33 => 120 | 4 => 4 | n => n, fun | n => n⟩
theorem Tryz.keysIt : Go.Proofs.SlLaysZ.n7 Tryz.prog Tryz.keysIt_ren := {
  mixed := by kernel_rfl
  f7 := ⟨Tryz.f61.name, by decide, Tryz.func61.trans (congrArg some (by kernel_rfl))⟩
  f10 := ⟨Tryz.f84.name, by decide, Tryz.func84.trans (congrArg some (by kernel_rfl))⟩
  t0 := Tryz.underlying0
  a0 := Tryz.isAgg0
  z0 := Tryz.sizeOf0
  v0 := Tryz.zeroValue0
  t4 := Tryz.underlying4
  a4 := Tryz.isAgg4
  z4 := Tryz.sizeOf4
  v4 := Tryz.zeroValue4
  t23 := Tryz.underlying104
  a23 := Tryz.isAgg104
  z23 := Tryz.sizeOf104
  v23 := Tryz.zeroValue104
  t26 := Tryz.underlying9
  a26 := Tryz.isAgg9
  z26 := Tryz.sizeOf9
  v26 := Tryz.zeroValue9
  t27 := Tryz.underlying106
  a27 := Tryz.isAgg106
  z27 := Tryz.sizeOf106
  v27 := Tryz.zeroValue106
  t28 := Tryz.underlying107
  a28 := Tryz.isAgg107
  z28 := Tryz.sizeOf107
  v28 := Tryz.zeroValue107
  t33 := Tryz.underlying120
  a33 := Tryz.isAgg120
  z33 := Tryz.sizeOf120
  v33 := Tryz.zeroValue120 }
def Tryz.sortedIt_ren : Go.Shelf.Ren := ⟨fun | 6 => 60 | 8 => 82 | 9 => 83 | 11 => 104 | 13 => 106 | 12 => 105 | 23 => 134 | 24 => 135 | 14 => 125 | 15 => 126 | 16 => 127 | 17 => 128 | 18 => 129 | 19 => 130 | 20 => 131 | 21 => 132 | 22 => 133 | 25 => 149 | 26 => 150 | 27 => 151 | 28 => 152 | 29 => 153 | 30 => 154 | 31 => 172 | n => n, fun | 26 => 9 | 28 => 107 | 24 => 77 | 0 => 0 | 3 => 3 | 37 => 145 | 48 => 129 | 50 => 141 | 4 => 4 | 40 => 159 | 39 => 158 | 45 => 93 | 5 => 5 | 9 => 9 | 51 => 173 | 55 => 177 | 57 => 187 | 58 => 188 | 33 => 120 | n => n, fun | n => n⟩
theorem Tryz.sortedIt : Go.Proofs.SlLaysZ.n6 Tryz.prog Tryz.sortedIt_ren := {
  mixed := by kernel_rfl
  f6 := ⟨Tryz.f60.name, by decide, Tryz.func60.trans (congrArg some (by kernel_rfl))⟩
  f8 := ⟨Tryz.f82.name, by decide, Tryz.func82.trans (congrArg some (by kernel_rfl))⟩
  f11 := ⟨Tryz.f104.name, by decide, Tryz.func104.trans (congrArg some (by kernel_rfl))⟩
  t0 := Tryz.underlying0
  a0 := Tryz.isAgg0
  z0 := Tryz.sizeOf0
  v0 := Tryz.zeroValue0
  t24 := Tryz.underlying77
  a24 := Tryz.isAgg77
  z24 := Tryz.sizeOf77
  v24 := Tryz.zeroValue77
  t26 := Tryz.underlying9
  a26 := Tryz.isAgg9
  z26 := Tryz.sizeOf9
  v26 := Tryz.zeroValue9
  t28 := Tryz.underlying107
  a28 := Tryz.isAgg107
  z28 := Tryz.sizeOf107
  v28 := Tryz.zeroValue107
  i26 := by kernel_rfl }
def Tryz.sortIt_ren : Go.Shelf.Ren := ⟨fun | 6 => 83 | 8 => 106 | 9 => 105 | 19 => 134 | 20 => 135 | 21 => 125 | 22 => 126 | 23 => 127 | 24 => 128 | 25 => 129 | 26 => 130 | 27 => 131 | 28 => 132 | 29 => 133 | 36 => 149 | 31 => 150 | 32 => 151 | 37 => 152 | 38 => 153 | 39 => 154 | 41 => 172 | n => n, fun | 27 => 77 | 29 => 9 | 3 => 3 | 32 => 145 | 26 => 77 | 0 => 0 | 44 => 129 | 46 => 141 | 4 => 4 | 36 => 159 | 35 => 158 | 41 => 93 | 5 => 5 | 9 => 9 | 53 => 173 | 57 => 177 | 63 => 187 | 64 => 188 | n => n, fun | n => n⟩
theorem Tryz.sortIt : Go.Proofs.SlLaysM.n6 Tryz.prog Tryz.sortIt_ren := {
  mixed := by kernel_rfl
  f6 := ⟨Tryz.f83.name, by decide, Tryz.func83.trans (congrArg some (by kernel_rfl))⟩
  f8 := Tryz.func106.trans (congrArg some (by kernel_rfl))
  f9 := ⟨Tryz.f105.name, by decide, Tryz.func105.trans (congrArg some (by kernel_rfl))⟩
  f19 := Tryz.func134.trans (congrArg some (by kernel_rfl))
  f20 := Tryz.func135.trans (congrArg some (by kernel_rfl))
  f21 := ⟨Tryz.f125.name, by decide, Tryz.func125.trans (congrArg some (by kernel_rfl))⟩
  f22 := ⟨Tryz.f126.name, by decide, Tryz.func126.trans (congrArg some (by kernel_rfl))⟩
  f23 := ⟨Tryz.f127.name, by decide, Tryz.func127.trans (congrArg some (by kernel_rfl))⟩
  f24 := ⟨Tryz.f128.name, by decide, Tryz.func128.trans (congrArg some (by kernel_rfl))⟩
  f25 := ⟨Tryz.f129.name, by decide, Tryz.func129.trans (congrArg some (by kernel_rfl))⟩
  f26 := ⟨Tryz.f130.name, by decide, Tryz.func130.trans (congrArg some (by kernel_rfl))⟩
  f27 := ⟨Tryz.f131.name, by decide, Tryz.func131.trans (congrArg some (by kernel_rfl))⟩
  f28 := ⟨Tryz.f132.name, by decide, Tryz.func132.trans (congrArg some (by kernel_rfl))⟩
  f29 := ⟨Tryz.f133.name, by decide, Tryz.func133.trans (congrArg some (by kernel_rfl))⟩
  f31 := Tryz.func150.trans (congrArg some (by kernel_rfl))
  f32 := Tryz.func151.trans (congrArg some (by kernel_rfl))
  f36 := ⟨Tryz.f149.name, by decide, Tryz.func149.trans (congrArg some (by kernel_rfl))⟩
  f37 := ⟨Tryz.f152.name, by decide, Tryz.func152.trans (congrArg some (by kernel_rfl))⟩
  f38 := ⟨Tryz.f153.name, by decide, Tryz.func153.trans (congrArg some (by kernel_rfl))⟩
  f39 := ⟨Tryz.f154.name, by decide, Tryz.func154.trans (congrArg some (by kernel_rfl))⟩
  f41 := ⟨Tryz.f172.name, by decide, Tryz.func172.trans (congrArg some (by kernel_rfl))⟩
  t0 := Tryz.underlying0
  a0 := Tryz.isAgg0
  z0 := Tryz.sizeOf0
  v0 := Tryz.zeroValue0
  t3 := Tryz.underlying3
  a3 := Tryz.isAgg3
  z3 := Tryz.sizeOf3
  v3 := Tryz.zeroValue3
  t4 := Tryz.underlying4
  a4 := Tryz.isAgg4
  z4 := Tryz.sizeOf4
  v4 := Tryz.zeroValue4
  t5 := Tryz.underlying5
  a5 := Tryz.isAgg5
  z5 := Tryz.sizeOf5
  v5 := Tryz.zeroValue5
  t9 := Tryz.underlying9
  a9 := Tryz.isAgg9
  z9 := Tryz.sizeOf9
  v9 := Tryz.zeroValue9
  t26 := Tryz.underlying77
  a26 := Tryz.isAgg77
  z26 := Tryz.sizeOf77
  v26 := Tryz.zeroValue77
  t27 := Tryz.underlying77
  a27 := Tryz.isAgg77
  z27 := Tryz.sizeOf77
  v27 := Tryz.zeroValue77
  t29 := Tryz.underlying9
  a29 := Tryz.isAgg9
  z29 := Tryz.sizeOf9
  v29 := Tryz.zeroValue9
  t32 := Tryz.underlying145
  a32 := Tryz.isAgg145
  z32 := Tryz.sizeOf145
  v32 := Tryz.zeroValue145
  t35 := Tryz.underlying158
  a35 := Tryz.isAgg158
  z35 := Tryz.sizeOf158
  v35 := Tryz.zeroValue158
  t36 := Tryz.underlying159
  a36 := Tryz.isAgg159
  z36 := Tryz.sizeOf159
  v36 := Tryz.zeroValue159
  t41 := Tryz.underlying93
  a41 := Tryz.isAgg93
  z41 := Tryz.sizeOf93
  v41 := Tryz.zeroValue93
  t44 := Tryz.underlying129
  a44 := Tryz.isAgg129
  z44 := Tryz.sizeOf129
  v44 := Tryz.zeroValue129
  t46 := Tryz.underlying141
  a46 := Tryz.isAgg141
  z46 := Tryz.sizeOf141
  v46 := Tryz.zeroValue141
  t53 := Tryz.underlying173
  a53 := Tryz.isAgg173
  z53 := Tryz.sizeOf173
  v53 := Tryz.zeroValue173
  t57 := Tryz.underlying177
  a57 := Tryz.isAgg177
  z57 := Tryz.sizeOf177
  v57 := Tryz.zeroValue177
  t63 := Tryz.underlying187
  a63 := Tryz.isAgg187
  z63 := Tryz.sizeOf187
  v63 := Tryz.zeroValue187
  t64 := Tryz.underlying188
  a64 := Tryz.isAgg188
  z64 := Tryz.sizeOf188
  v64 := Tryz.zeroValue188 }
open Go.RowKit Go.Maps Go.Sort Go.Shelf
theorem Tryz.sortsIt (m : Nat) : AnyZ.SortsIn Tryz.prog Tryz.sortedIt_ren Fence.wide m :=
  ⟨fun blk off cap ss W hH hblk hsz => callsIn_wide.2 (AnyM.slices_Sort_string Tryz.sortIt blk off cap ss W hH hblk hsz),
   fun p cap W => callsIn_wide.2 (AnyM.slices_Sort_string_none Tryz.sortIt p cap W)⟩

theorem Tryz.maps_KeysIt (mb : Option Nat) (W : World) : CallsIn Fence.wide 5 Tryz.prog 61 #[.map mb] W fun e w' => e = .returned (.func (.func 84) #[] #[.pointer (some ⟨W.heap.size, 0, none⟩)]) ∧ w' = W.alloc (.cells #[.map mb] 104) :=
  AnyZ.keys_in Tryz.keysIt Fence.wide 5 trivial rfl mb W

set_option maxHeartbeats 1000000 in
theorem Tryz.slices_SortedIt {H : Type} (b nn : Nat) (D0 : DataW H) (R : Value → Option (DataW H × List MemPlace)) (w : World) (hown : w.ownsMap Tryz.prog 9 R b nn D0) (hmax : Maps.size D0 ≤ maxLen) (hbytes : Maps.size D0 * 16 ≤ 140737488355328) :
    CallsIn Fence.wide 5 Tryz.prog 60 #[.func (.func 84) #[] #[.pointer (some ⟨w.heap.size, 0, none⟩)]] (w.alloc (.cells #[.map (some b)] 104)) fun e w' => ∃ (v : Value) (ss : List (List UInt8)), e = .returned v ∧ ss.Perm (strKeys D0) ∧
      w'.ownsRow (w.alloc (.cells #[.map (some b)] 104)).heap.size 9 1 v ss.length ((ss.mergeSort (fun x y => decide (x ≤ y))).map encStr) ∧ (v = .slice none 0 0 ↔ ss = []) ∧ Below (w.alloc (.cells #[.map (some b)] 104)).heap.size (w.alloc (.cells #[.map (some b)] 104)) w' := by
  have hbl := hown.lt
  have hseq : SeqGives Fence.wide 2 Tryz.prog 84 #[.pointer (some ⟨w.heap.size, 0, none⟩)] encStr (fun ss => ss.Perm (strKeys D0)) (Maps.size D0) (w.alloc (.cells #[.map (some b)] 104)) :=
    AnyZ.keys_gives (ρ := Tryz.keysIt_ren) { Tryz.keysIt with } Fence.wide _ trivial rfl (by omega) w.heap.size b nn D0 _ (by simp) (by simp) (by
      obtain ⟨es, clock, hb, Ft, hs, hD⟩ := hown
      exact ⟨es, clock, (Below.heap_alloc _ _ b hbl).trans hb, Ft, hs, hD⟩)
  exact AnyZ.sorted_in Tryz.sortedIt Fence.wide 5 trivial trivial trivial trivial rfl (by omega) (Tryz.sortsIt _) (enters_of Tryz.func83 (by kernel_rfl) rfl) 84 #[.pointer (some ⟨w.heap.size, 0, none⟩)] trivial (enters_of Tryz.func84 (by kernel_rfl) rfl) _ _ hmax hbytes _ hseq

set_option maxHeartbeats 1000000 in
theorem Tryz.slices_SortedNilIt (w : World) :
    CallsIn Fence.wide 5 Tryz.prog 60 #[.func (.func 84) #[] #[.pointer (some ⟨w.heap.size, 0, none⟩)]] (w.alloc (.cells #[.map none] 104)) fun e w' => ∃ (v : Value) (ss : List (List UInt8)), e = .returned v ∧ ss = [] ∧
      w'.ownsRow (w.alloc (.cells #[.map none] 104)).heap.size 9 1 v ss.length ((ss.mergeSort (fun x y => decide (x ≤ y))).map encStr) ∧ (v = .slice none 0 0 ↔ ss = []) ∧ Below (w.alloc (.cells #[.map none] 104)).heap.size (w.alloc (.cells #[.map none] 104)) w' := by
  have hseq : SeqGives Fence.wide 2 Tryz.prog 84 #[.pointer (some ⟨w.heap.size, 0, none⟩)] encStr (fun ss : List (List UInt8) => ss = []) 0 (w.alloc (.cells #[.map none] 104)) :=
    AnyZ.keys_gives_nil (ρ := Tryz.keysIt_ren) { Tryz.keysIt with } Fence.wide _ trivial rfl w.heap.size _ (by simp) (by simp)
  exact AnyZ.sorted_in Tryz.sortedIt Fence.wide 5 trivial trivial trivial trivial rfl (by omega) (Tryz.sortsIt _) (enters_of Tryz.func83 (by kernel_rfl) rfl) 84 #[.pointer (some ⟨w.heap.size, 0, none⟩)] trivial (enters_of Tryz.func84 (by kernel_rfl) rfl) _ 0 (Nat.zero_le _) (by omega) _ hseq

end Go.Proofs
