/-
  DERIVED: THE SHELF's CONTRACTS AT THIS DUMP, IN PLAIN WORDS (tools/lay-plain.mjs out of 'TryzShelf.lean', which tools/lay-shelf.mjs wrote): THE SAME DECLARATIONS UNDER THE SAME NAMES: 'import', 'namespace', 'open', 'def', 'theorem' AND NOTHING ELSE: no command of the shelf's: FOR A HAND-IN. Each laying: the table of numbers ('.._ren') and one theorem, a field a fact of the dump's own or the kernel's comparison; each contract: ONE APPLICATION.
-/
import Derived.Shelf.Strings.Builder1
import Derived.Shelf.Strings.Builder2
import Derived.Shelf.Strings.Trim
import Derived.Shelf.Small.Utf8
import Derived.Shelf.Small.Bits
import Derived.Shelf.Small.Strs
import Derived.Shelf.Strings.BuilderF
import Derived.Shelf.Strings.Search1
import Derived.Shelf.Strings.Search2
import Derived.Shelf.Strings.Cut
import Derived.Shelf.LaysM
import Derived.Shelf.Strings.Shaped
import Derived.Shelf.Strings.Prefix
import Derived.Shelf.Strings.Runes
import Derived.Shelf.Strings.AsciiSet
import Derived.Shelf.Bits.Mul64
import Derived.Shelf.Strings.Repeat
import Derived.Shelf.Unicode.DecodeSlow
import Derived.Test.YtplmldkfgeiklaaGreatDoorProg
namespace Go.Proofs
open Go.Shelf
def Tryz.lays161_ren : Go.Shelf.Ren := ⟨fun | 161 => 73 | 231 => 126 | 227 => 127 | 233 => 128 | 235 => 129 | 228 => 156 | 197 => 157 | 151 => 158 | 260 => 173 | 152 => 174 | 137 => 180 | 119 => 181 | 224 => 171 | 225 => 170 | 217 => 169 | 266 => 178 | n => n, fun | 9 => 9 | 4 => 4 | 3 => 3 | 5 => 5 | 117 => 128 | 116 => 127 | 0 => 0 | 124 => 131 | 105 => 144 | 21 => 21 | 119 => 155 | 46 => 104 | 139 => 158 | 138 => 157 | n => n, fun | 3 => 2 | 4 => 3 | n => n⟩
theorem Tryz.lays161 : Go.Proofs.Lays.n161 Tryz.prog Tryz.lays161_ren := {
  mixed := by kernel_rfl
  f119 := Tryz.func181.trans (congrArg some (by kernel_rfl))
  f137 := Tryz.func180.trans (congrArg some (by kernel_rfl))
  f151 := Tryz.func158.trans (congrArg some (by kernel_rfl))
  f152 := Tryz.func174.trans (congrArg some (by kernel_rfl))
  f161 := Tryz.func73.trans (congrArg some (by kernel_rfl))
  f197 := Tryz.func157.trans (congrArg some (by kernel_rfl))
  f217 := Tryz.func169.trans (congrArg some (by kernel_rfl))
  f224 := Tryz.func171.trans (congrArg some (by kernel_rfl))
  f225 := Tryz.func170.trans (congrArg some (by kernel_rfl))
  f227 := Tryz.func127.trans (congrArg some (by kernel_rfl))
  f228 := Tryz.func156.trans (congrArg some (by kernel_rfl))
  f231 := Tryz.func126.trans (congrArg some (by kernel_rfl))
  f233 := Tryz.func128.trans (congrArg some (by kernel_rfl))
  f235 := Tryz.func129.trans (congrArg some (by kernel_rfl))
  f260 := Tryz.func173.trans (congrArg some (by kernel_rfl))
  f266 := Tryz.func178.trans (congrArg some (by kernel_rfl))
  t0 := Tryz.underlying0
  a0 := Tryz.isAgg0
  z0 := Tryz.sizeOf0
  v0 := Tryz.zeroValue0
  t3 := Tryz.underlying3
  a3 := Tryz.isAgg3
  z3 := Tryz.sizeOf3
  v3 := Tryz.zeroValue3
  t4 := Tryz.underlying4
  a4 := Tryz.isAgg4
  z4 := Tryz.sizeOf4
  v4 := Tryz.zeroValue4
  t5 := Tryz.underlying5
  a5 := Tryz.isAgg5
  z5 := Tryz.sizeOf5
  v5 := Tryz.zeroValue5
  t9 := Tryz.underlying9
  a9 := Tryz.isAgg9
  z9 := Tryz.sizeOf9
  v9 := Tryz.zeroValue9
  t21 := Tryz.underlying21
  a21 := Tryz.isAgg21
  z21 := Tryz.sizeOf21
  v21 := Tryz.zeroValue21
  t46 := Tryz.underlying104
  a46 := Tryz.isAgg104
  z46 := Tryz.sizeOf104
  v46 := Tryz.zeroValue104
  t105 := Tryz.underlying144
  a105 := Tryz.isAgg144
  z105 := Tryz.sizeOf144
  v105 := Tryz.zeroValue144
  t116 := Tryz.underlying127
  a116 := Tryz.isAgg127
  z116 := Tryz.sizeOf127
  t117 := Tryz.underlying128
  a117 := Tryz.isAgg128
  z117 := Tryz.sizeOf128
  v117 := Tryz.zeroValue128
  t119 := Tryz.underlying155
  a119 := Tryz.isAgg155
  z119 := Tryz.sizeOf155
  t124 := Tryz.underlying131
  a124 := Tryz.isAgg131
  z124 := Tryz.sizeOf131
  v124 := Tryz.zeroValue131
  t138 := Tryz.underlying157
  a138 := Tryz.isAgg157
  z138 := Tryz.sizeOf157
  v138 := Tryz.zeroValue157
  t139 := Tryz.underlying158
  a139 := Tryz.isAgg158
  z139 := Tryz.sizeOf158
  v139 := Tryz.zeroValue158
  g3 := by kernel_rfl
  g4 := by kernel_rfl }
open Go.RowKit in
/-- strings.TrimLeft: "TrimLeft returns a slice of the string s with all leading Unicode code points contained in cutset removed.": AT A cutset OF ONE ASCII BYTE. The world is as it was. (LAID: no walk: one application.) -/
theorem Tryz.strings_TrimLeft_one (s : ByteArray) (c : UInt8) (hc : c.toNat < 128) (w : World) :
    Calls Tryz.prog 73 #[.string s, .string ⟨#[c]⟩] w fun e w' => e = .returned (.string ⟨(Lib.trimLeftB s.data.toList c).toArray⟩) ∧ w' = w := Any.strings_TrimLeft_one Tryz.lays161 s c hc w
def Tryz.lays160_ren : Go.Shelf.Ren := ⟨fun | 160 => 75 | 232 => 130 | 231 => 126 | 227 => 127 | 234 => 131 | 233 => 128 | 236 => 132 | 235 => 129 | 228 => 156 | 271 => 159 | 151 => 158 | 197 => 157 | 120 => 175 | 152 => 174 | 260 => 173 | 137 => 180 | 119 => 181 | 224 => 171 | 225 => 170 | 217 => 169 | 266 => 178 | n => n, fun | 9 => 9 | 4 => 4 | 3 => 3 | 5 => 5 | 117 => 128 | 116 => 127 | 0 => 0 | 124 => 131 | 21 => 21 | 105 => 144 | 46 => 104 | 119 => 155 | 139 => 158 | 138 => 157 | n => n, fun | 3 => 2 | 4 => 3 | n => n⟩
theorem Tryz.lays160 : Go.Proofs.Lays.n160 Tryz.prog Tryz.lays160_ren := {
  mixed := by kernel_rfl
  f119 := Tryz.func181.trans (congrArg some (by kernel_rfl))
  f120 := Tryz.func175.trans (congrArg some (by kernel_rfl))
  f137 := Tryz.func180.trans (congrArg some (by kernel_rfl))
  f151 := Tryz.func158.trans (congrArg some (by kernel_rfl))
  f152 := Tryz.func174.trans (congrArg some (by kernel_rfl))
  f160 := Tryz.func75.trans (congrArg some (by kernel_rfl))
  f197 := Tryz.func157.trans (congrArg some (by kernel_rfl))
  f217 := Tryz.func169.trans (congrArg some (by kernel_rfl))
  f224 := Tryz.func171.trans (congrArg some (by kernel_rfl))
  f225 := Tryz.func170.trans (congrArg some (by kernel_rfl))
  f227 := Tryz.func127.trans (congrArg some (by kernel_rfl))
  f228 := Tryz.func156.trans (congrArg some (by kernel_rfl))
  f231 := Tryz.func126.trans (congrArg some (by kernel_rfl))
  f232 := Tryz.func130.trans (congrArg some (by kernel_rfl))
  f233 := Tryz.func128.trans (congrArg some (by kernel_rfl))
  f234 := Tryz.func131.trans (congrArg some (by kernel_rfl))
  f235 := Tryz.func129.trans (congrArg some (by kernel_rfl))
  f236 := Tryz.func132.trans (congrArg some (by kernel_rfl))
  f260 := Tryz.func173.trans (congrArg some (by kernel_rfl))
  f266 := Tryz.func178.trans (congrArg some (by kernel_rfl))
  f271 := Tryz.func159.trans (congrArg some (by kernel_rfl))
  t0 := Tryz.underlying0
  a0 := Tryz.isAgg0
  z0 := Tryz.sizeOf0
  v0 := Tryz.zeroValue0
  t3 := Tryz.underlying3
  a3 := Tryz.isAgg3
  z3 := Tryz.sizeOf3
  v3 := Tryz.zeroValue3
  t4 := Tryz.underlying4
  a4 := Tryz.isAgg4
  z4 := Tryz.sizeOf4
  v4 := Tryz.zeroValue4
  t5 := Tryz.underlying5
  a5 := Tryz.isAgg5
  z5 := Tryz.sizeOf5
  v5 := Tryz.zeroValue5
  t9 := Tryz.underlying9
  a9 := Tryz.isAgg9
  z9 := Tryz.sizeOf9
  v9 := Tryz.zeroValue9
  t21 := Tryz.underlying21
  a21 := Tryz.isAgg21
  z21 := Tryz.sizeOf21
  v21 := Tryz.zeroValue21
  t46 := Tryz.underlying104
  a46 := Tryz.isAgg104
  z46 := Tryz.sizeOf104
  v46 := Tryz.zeroValue104
  t105 := Tryz.underlying144
  a105 := Tryz.isAgg144
  z105 := Tryz.sizeOf144
  v105 := Tryz.zeroValue144
  t116 := Tryz.underlying127
  a116 := Tryz.isAgg127
  z116 := Tryz.sizeOf127
  t117 := Tryz.underlying128
  a117 := Tryz.isAgg128
  z117 := Tryz.sizeOf128
  v117 := Tryz.zeroValue128
  t119 := Tryz.underlying155
  a119 := Tryz.isAgg155
  z119 := Tryz.sizeOf155
  t124 := Tryz.underlying131
  a124 := Tryz.isAgg131
  z124 := Tryz.sizeOf131
  v124 := Tryz.zeroValue131
  t138 := Tryz.underlying157
  a138 := Tryz.isAgg157
  z138 := Tryz.sizeOf157
  v138 := Tryz.zeroValue157
  t139 := Tryz.underlying158
  a139 := Tryz.isAgg158
  z139 := Tryz.sizeOf158
  v139 := Tryz.zeroValue158
  g3 := by kernel_rfl
  g4 := by kernel_rfl }
open Go.RowKit in
/-- strings.Trim: "Trim returns a slice of the string s with all leading and trailing Unicode code points contained in cutset removed.": AT A cutset OF ONE ASCII BYTE. THE WORLD BEHIND IT: as it was, or (where s is not empty) with ONE DRAW MORE off the tape: the statement 'return trimLeftByte(trimRightByte(s, c), c)' draws its order of evaluation. (LAID: no walk: one application.) -/
theorem Tryz.strings_Trim_one (s : ByteArray) (c : UInt8) (hc : c.toNat < 128) (w : World) (hs : s.size ≤ 9223372036854775807) :
    Calls Tryz.prog 75 #[.string s, .string ⟨#[c]⟩] w fun e w' => e = .returned (.string ⟨(Lib.trimB s.data.toList c).toArray⟩) ∧ (w' = w ∨ w' = w.drew) := Any.strings_Trim_one Tryz.lays160 s c hc w hs
def Tryz.lays128_ren : Go.Shelf.Ren := ⟨fun | 128 => 110 | n => n, fun | 51 => 74 | 3 => 3 | 4 => 4 | 46 => 104 | 5 => 5 | 9 => 9 | n => n, fun | n => n⟩
theorem Tryz.lays128 : Go.Proofs.Lays.n128 Tryz.prog Tryz.lays128_ren := {
  mixed := by kernel_rfl
  f128 := Tryz.func110.trans (congrArg some (by kernel_rfl))
  t3 := Tryz.underlying3
  a3 := Tryz.isAgg3
  z3 := Tryz.sizeOf3
  v3 := Tryz.zeroValue3
  t4 := Tryz.underlying4
  a4 := Tryz.isAgg4
  z4 := Tryz.sizeOf4
  v4 := Tryz.zeroValue4
  t5 := Tryz.underlying5
  a5 := Tryz.isAgg5
  z5 := Tryz.sizeOf5
  v5 := Tryz.zeroValue5
  t9 := Tryz.underlying9
  a9 := Tryz.isAgg9
  z9 := Tryz.sizeOf9
  v9 := Tryz.zeroValue9
  t46 := Tryz.underlying104
  a46 := Tryz.isAgg104
  z46 := Tryz.sizeOf104
  v46 := Tryz.zeroValue104
  t51 := Tryz.underlying74
  a51 := Tryz.isAgg74
  z51 := Tryz.sizeOf74
  v51 := Tryz.zeroValue74 }
/-- bits.Len32: "Len32 returns the minimum number of bits required to represent x; the result is 0 for x == 0.": IT RETURNS 'Lib.bitLen x'; the world is as it was. ('h0', 'h1': x is a uint32.) (LAID: no walk: one application.) -/
theorem Tryz.bits_Len32 (x : Int) (w : World) (h0 : 0 ≤ x) (h1 : x ≤ 4294967295) :
    Calls Tryz.prog 110 #[.int .u32 x] w fun e w' => e = .returned (.int .i64 (Lib.bitLen x.toNat)) ∧ w' = w := Any.bits_Len32 Tryz.lays128 x w h0 h1
def Tryz.lays133_ren : Go.Shelf.Ren := ⟨fun | 133 => 162 | 128 => 110 | n => n, fun | 51 => 74 | 3 => 3 | 4 => 4 | 46 => 104 | 5 => 5 | 9 => 9 | n => n, fun | n => n⟩
theorem Tryz.lays133 : Go.Proofs.Lays.n133 Tryz.prog Tryz.lays133_ren := {
  mixed := by kernel_rfl
  f128 := Tryz.func110.trans (congrArg some (by kernel_rfl))
  f133 := Tryz.func162.trans (congrArg some (by kernel_rfl))
  t3 := Tryz.underlying3
  a3 := Tryz.isAgg3
  z3 := Tryz.sizeOf3
  v3 := Tryz.zeroValue3
  t4 := Tryz.underlying4
  a4 := Tryz.isAgg4
  z4 := Tryz.sizeOf4
  v4 := Tryz.zeroValue4
  t5 := Tryz.underlying5
  a5 := Tryz.isAgg5
  z5 := Tryz.sizeOf5
  v5 := Tryz.zeroValue5
  t9 := Tryz.underlying9
  a9 := Tryz.isAgg9
  z9 := Tryz.sizeOf9
  v9 := Tryz.zeroValue9
  t46 := Tryz.underlying104
  a46 := Tryz.isAgg104
  z46 := Tryz.sizeOf104
  v46 := Tryz.zeroValue104
  t51 := Tryz.underlying74
  a51 := Tryz.isAgg74
  z51 := Tryz.sizeOf74
  v51 := Tryz.zeroValue74 }
/-- bits.LeadingZeros32: "LeadingZeros32 returns the number of leading zero bits in x; the result is 32 for x == 0.": IT RETURNS '32 - Lib.bitLen x'; the world is as it was. ITS CALLEE bits.Len32 IS MET BY ITS OWN CONTRACT OFF THE SHELF (lay that first): entered in place it sends the kernel out of memory. (LAID: no walk: one application.) -/
theorem Tryz.bits_LeadingZeros32 (x : Int) (w : World) (h0 : 0 ≤ x) (h1 : x ≤ 4294967295) :
    Calls Tryz.prog 162 #[.int .u32 x] w fun e w' => e = .returned (.int .i64 (32 - (Lib.bitLen x.toNat : Int))) ∧ w' = w := Any.bits_LeadingZeros32 Tryz.lays133 x w h0 h1
def Tryz.laysM145_ren : Go.Shelf.Ren := ⟨fun | 145 => 72 | 220 => 125 | 219 => 155 | 217 => 169 | 225 => 170 | 224 => 171 | 267 => 172 | 266 => 178 | 314 => 179 | n => n, fun | 9 => 9 | 4 => 4 | 59 => 82 | 3 => 3 | 5 => 5 | 46 => 104 | 146 => 136 | 51 => 74 | n => n, fun | 1 => 1 | n => n⟩
theorem Tryz.laysM145 : Go.Proofs.LaysM.n145 Tryz.prog Tryz.laysM145_ren := {
  mixed := by kernel_rfl
  f145 := Tryz.func72.trans (congrArg some (by kernel_rfl))
  f217 := Tryz.func169.trans (congrArg some (by kernel_rfl))
  f219 := Tryz.func155.trans (congrArg some (by kernel_rfl))
  f220 := Tryz.func125.trans (congrArg some (by kernel_rfl))
  f224 := Tryz.func171.trans (congrArg some (by kernel_rfl))
  f225 := Tryz.func170.trans (congrArg some (by kernel_rfl))
  f266 := Tryz.func178.trans (congrArg some (by kernel_rfl))
  f267 := Tryz.func172.trans (congrArg some (by kernel_rfl))
  f314 := Tryz.func179.trans (congrArg some (by kernel_rfl))
  t3 := Tryz.underlying3
  a3 := Tryz.isAgg3
  z3 := Tryz.sizeOf3
  v3 := Tryz.zeroValue3
  t4 := Tryz.underlying4
  a4 := Tryz.isAgg4
  z4 := Tryz.sizeOf4
  v4 := Tryz.zeroValue4
  t5 := Tryz.underlying5
  a5 := Tryz.isAgg5
  z5 := Tryz.sizeOf5
  v5 := Tryz.zeroValue5
  t9 := Tryz.underlying9
  a9 := Tryz.isAgg9
  z9 := Tryz.sizeOf9
  v9 := Tryz.zeroValue9
  t46 := Tryz.underlying104
  a46 := Tryz.isAgg104
  z46 := Tryz.sizeOf104
  v46 := Tryz.zeroValue104
  t51 := Tryz.underlying74
  a51 := Tryz.isAgg74
  z51 := Tryz.sizeOf74
  v51 := Tryz.zeroValue74
  t59 := Tryz.underlying82
  a59 := Tryz.isAgg82
  z59 := Tryz.sizeOf82
  v59 := Tryz.zeroValue82
  t146 := Tryz.underlying136
  a146 := Tryz.isAgg136
  z146 := Tryz.sizeOf136
  v146 := Tryz.zeroValue136
  g1 := by kernel_rfl
  i3 := by kernel_rfl
  i4 := by kernel_rfl
  i5 := by kernel_rfl
  i9 := by kernel_rfl
  i46 := by kernel_rfl
  i51 := by kernel_rfl
  i59 := by kernel_rfl
  i146 := by kernel_rfl
  m1 := by kernel_rfl
  s1_3 := fun w h => Go.Proofs.cell_of_shapedOpen_int (zero := #[.int .i64 0]) (t := 3) h (of_decide_eq_true (by kernel_rfl)) (by kernel_rfl) rfl (by kernel_rfl) (by kernel_rfl) Tryz.underlying3 }
open Go.RowKit Go.Lib in
theorem Tryz.strings_Cut_shaped (s sep : ByteArray) (w : World) (h : w.ShapedOpen Tryz.prog) (hs : s.size < 4294967281) :
    Calls Tryz.prog 72 #[.string s, .string sep] w fun e w' => e = .returned (.tuple #[.string ⟨(Lib.cut s.data.toList sep.data.toList).1.toArray⟩, .string ⟨(Lib.cut s.data.toList sep.data.toList).2.1.toArray⟩, .bool (Lib.cut s.data.toList sep.data.toList).2.2]) ∧ ∃ n, w' = w.drewN n := Any.strings_Cut_shaped Tryz.laysM145 s sep w h hs
def Tryz.lays105_ren : Go.Shelf.Ren := ⟨fun | 105 => 67 | 212 => 116 | 99 => 117 | 165 => 118 | 166 => 119 | 170 => 120 | 169 => 121 | 263 => 148 | 264 => 149 | 206 => 150 | 240 => 151 | 241 => 152 | 276 => 167 | 277 => 168 | n => n, fun | 9 => 9 | 3 => 3 | 4 => 4 | 20 => 20 | 0 => 0 | 46 => 104 | 109 => 110 | 5 => 5 | 72 => 115 | 76 => 119 | 51 => 74 | 146 => 136 | 53 => 66 | 148 => 138 | 70 => 113 | 37 => 43 | 75 => 118 | 127 => 140 | 164 => 149 | 80 => 122 | n => n, fun | n => n⟩
theorem Tryz.lays105 : Go.Proofs.Lays.n105 Tryz.prog Tryz.lays105_ren := {
  mixed := by kernel_rfl
  f99 := Tryz.func117.trans (congrArg some (by kernel_rfl))
  f105 := Tryz.func67.trans (congrArg some (by kernel_rfl))
  f165 := Tryz.func118.trans (congrArg some (by kernel_rfl))
  f166 := Tryz.func119.trans (congrArg some (by kernel_rfl))
  f169 := Tryz.func121.trans (congrArg some (by kernel_rfl))
  f170 := Tryz.func120.trans (congrArg some (by kernel_rfl))
  f206 := Tryz.func150.trans (congrArg some (by kernel_rfl))
  f212 := Tryz.func116.trans (congrArg some (by kernel_rfl))
  f240 := Tryz.func151.trans (congrArg some (by kernel_rfl))
  f241 := Tryz.func152.trans (congrArg some (by kernel_rfl))
  f263 := Tryz.func148.trans (congrArg some (by kernel_rfl))
  f264 := Tryz.func149.trans (congrArg some (by kernel_rfl))
  f276 := Tryz.func167.trans (congrArg some (by kernel_rfl))
  f277 := Tryz.func168.trans (congrArg some (by kernel_rfl))
  t0 := Tryz.underlying0
  a0 := Tryz.isAgg0
  z0 := Tryz.sizeOf0
  v0 := Tryz.zeroValue0
  t3 := Tryz.underlying3
  a3 := Tryz.isAgg3
  z3 := Tryz.sizeOf3
  v3 := Tryz.zeroValue3
  t4 := Tryz.underlying4
  a4 := Tryz.isAgg4
  z4 := Tryz.sizeOf4
  v4 := Tryz.zeroValue4
  t5 := Tryz.underlying5
  a5 := Tryz.isAgg5
  z5 := Tryz.sizeOf5
  v5 := Tryz.zeroValue5
  t9 := Tryz.underlying9
  a9 := Tryz.isAgg9
  z9 := Tryz.sizeOf9
  v9 := Tryz.zeroValue9
  t20 := Tryz.underlying20
  a20 := Tryz.isAgg20
  z20 := Tryz.sizeOf20
  v20 := Tryz.zeroValue20
  t37 := Tryz.underlying43
  a37 := Tryz.isAgg43
  z37 := Tryz.sizeOf43
  v37 := Tryz.zeroValue43
  t46 := Tryz.underlying104
  a46 := Tryz.isAgg104
  z46 := Tryz.sizeOf104
  v46 := Tryz.zeroValue104
  t51 := Tryz.underlying74
  a51 := Tryz.isAgg74
  z51 := Tryz.sizeOf74
  v51 := Tryz.zeroValue74
  t53 := Tryz.underlying66
  a53 := Tryz.isAgg66
  z53 := Tryz.sizeOf66
  v53 := Tryz.zeroValue66
  t70 := Tryz.underlying113
  a70 := Tryz.isAgg113
  z70 := Tryz.sizeOf113
  v70 := Tryz.zeroValue113
  t72 := Tryz.underlying115
  a72 := Tryz.isAgg115
  z72 := Tryz.sizeOf115
  v72 := Tryz.zeroValue115
  t75 := Tryz.underlying118
  a75 := Tryz.isAgg118
  z75 := Tryz.sizeOf118
  v75 := Tryz.zeroValue118
  t76 := Tryz.underlying119
  a76 := Tryz.isAgg119
  z76 := Tryz.sizeOf119
  v76 := Tryz.zeroValue119
  t109 := Tryz.underlying110
  a109 := Tryz.isAgg110
  z109 := Tryz.sizeOf110
  v109 := Tryz.zeroValue110
  t127 := Tryz.underlying140
  a127 := Tryz.isAgg140
  z127 := Tryz.sizeOf140
  v127 := Tryz.zeroValue140
  t146 := Tryz.underlying136
  a146 := Tryz.isAgg136
  z146 := Tryz.sizeOf136
  v146 := Tryz.zeroValue136
  t148 := Tryz.underlying138
  a148 := Tryz.isAgg138
  z148 := Tryz.sizeOf138
  v148 := Tryz.zeroValue138
  t164 := Tryz.underlying149
  a164 := Tryz.isAgg149
  z164 := Tryz.sizeOf149
  v164 := Tryz.zeroValue149 }
theorem Tryz.Builder_Extra_105 : Builder.Extra Tryz.prog Tryz.lays105_ren := {
  sizeBuilder := by kernel_rfl
  liesBuilder := by kernel_rfl
  t5 := Tryz.underlying5
  a5 := Tryz.isAgg5
  z5 := Tryz.sizeOf5
  v5 := Tryz.zeroValue5
  infoByte := by kernel_rfl
  cellsByte := by kernel_rfl
  sizeByte := by kernel_rfl
  neB5 := by decide }
open Go.RowKit Go.Lib in
/-- **strings.Repeat: count ≥ 0, the result within one allocation: count copies of s.** (LAID: no walk: one application.) -/
theorem Tryz.strings_Repeat (s : ByteArray) (c : Nat) (w : World) (hc : c ≤ 9223372036854775807) (hlen : s.size * c ≤ 140737488355328) :
    Calls Tryz.prog 67 #[.string s, .int .i64 c] w fun e w' => e = .returned (.string ⟨(Lib.repeatL s.data.toList c).toArray⟩) ∧ Below w.heap.size w w' := Any.strings_Repeat Tryz.lays105 Tryz.Builder_Extra_105 s c w hc hlen
end Go.Proofs
