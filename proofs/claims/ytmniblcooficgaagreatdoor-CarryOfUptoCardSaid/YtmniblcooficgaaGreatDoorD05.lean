import Derived.Shelf.Strings.OnBuilder
import Derived.Shelf.Strings.Trim
import Derived.Shelf.Strings.Cut
import Derived.Shelf.Strings.Builder1
import Derived.Shelf.Strings.Builder2
import Derived.Shelf.Strings.FuncGrows
import Derived.Shelf.Small.Strs
import Derived.Shelf.Small.Wraps
import Derived.Shelf.Strconv.Itoa3
import Derived.Shelf.Strconv.AtoiAll
import Derived.Shelf.LaysM
import Derived.Shelf.LaysC
import Derived.Shelf.Unicode.ValidAny
import Derived.Test.YtmniblcooficgaaGreatDoorProg
import Derived.Lib.AppendIntMem
import Derived.Test.YtmniblcooficgaaGreatDoorD04
import Derived.Test.YtmniblcooficgaaGreatDoorD01
/-
  DERIVED: THE SHELF's CONTRACTS AT THIS DUMP, IN PLAIN WORDS (tools/lay-plain.mjs out of 'YtmniblcooficgaaGreatDoorShelf.lean', which tools/lay-shelf.mjs wrote): THE SAME DECLARATIONS UNDER THE SAME NAMES: 'import', 'namespace', 'open', 'def', 'theorem' AND NOTHING ELSE: no command of the shelf's: FOR A HAND-IN. Each laying: the table of numbers ('.._ren') and one theorem, a field a fact of the dump's own or the kernel's comparison; each contract: ONE APPLICATION.
-/
namespace Go.Proofs
open Go.Shelf
def Tryz.lays159_ren : Go.Shelf.Ren := ⟨fun | 159 => 141 | 165 => 71 | 166 => 46 | 167 => 45 | 169 => 47 | 230 => 150 | 204 => 151 | 240 => 74 | 241 => 101 | 197 => 165 | 118 => 166 | 168 => 167 | 270 => 168 | 262 => 169 | 276 => 107 | 277 => 125 | 260 => 182 | 242 => 183 | 313 => 184 | 278 => 195 | 274 => 196 | 275 => 197 | n => n, fun | 9 => 9 | 4 => 4 | 3 => 3 | 5 => 5 | 72 => 71 | 0 => 0 | 76 => 75 | 75 => 73 | 107 => 155 | 70 => 69 | 20 => 20 | 37 => 66 | 127 => 98 | 21 => 21 | 105 => 167 | 164 => 125 | 162 => 189 | 203 => 187 | 119 => 121 | 46 => 77 | 139 => 124 | 138 => 123 | 51 => 130 | 160 => 200 | 208 => 211 | 206 => 209 | 80 => 78 | n => n, fun | 13 => 3 | 3 => 1 | 4 => 2 | n => n⟩
theorem Tryz.lays159 : Go.Proofs.Lays.n159 Tryz.prog Tryz.lays159_ren := {
  mixed := by kernel_rfl
  f118 := Tryz.func166.trans (congrArg some (by kernel_rfl))
  f159 := Tryz.func141.trans (congrArg some (by kernel_rfl))
  f165 := Tryz.func71.trans (congrArg some (by kernel_rfl))
  f166 := Tryz.func46.trans (congrArg some (by kernel_rfl))
  f167 := Tryz.func45.trans (congrArg some (by kernel_rfl))
  f168 := Tryz.func167.trans (congrArg some (by kernel_rfl))
  f169 := Tryz.func47.trans (congrArg some (by kernel_rfl))
  f197 := Tryz.func165.trans (congrArg some (by kernel_rfl))
  f204 := Tryz.func151.trans (congrArg some (by kernel_rfl))
  f230 := Tryz.func150.trans (congrArg some (by kernel_rfl))
  f240 := Tryz.func74.trans (congrArg some (by kernel_rfl))
  f241 := Tryz.func101.trans (congrArg some (by kernel_rfl))
  f242 := Tryz.func183.trans (congrArg some (by kernel_rfl))
  f260 := Tryz.func182.trans (congrArg some (by kernel_rfl))
  f262 := Tryz.func169.trans (congrArg some (by kernel_rfl))
  f270 := Tryz.func168.trans (congrArg some (by kernel_rfl))
  f274 := Tryz.func196.trans (congrArg some (by kernel_rfl))
  f275 := Tryz.func197.trans (congrArg some (by kernel_rfl))
  f276 := Tryz.func107.trans (congrArg some (by kernel_rfl))
  f277 := Tryz.func125.trans (congrArg some (by kernel_rfl))
  f278 := Tryz.func195.trans (congrArg some (by kernel_rfl))
  f313 := Tryz.func184.trans (congrArg some (by kernel_rfl))
  t0 := Tryz.underlying0
  a0 := Tryz.isAgg0
  z0 := Tryz.sizeOf0
  v0 := Tryz.zeroValue0
  t3 := Tryz.underlying3
  a3 := Tryz.isAgg3
  z3 := Tryz.sizeOf3
  v3 := Tryz.zeroValue3
  t4 := Tryz.underlying4
  a4 := Tryz.isAgg4
  z4 := Tryz.sizeOf4
  v4 := Tryz.zeroValue4
  t5 := Tryz.underlying5
  a5 := Tryz.isAgg5
  z5 := Tryz.sizeOf5
  v5 := Tryz.zeroValue5
  t9 := Tryz.underlying9
  a9 := Tryz.isAgg9
  z9 := Tryz.sizeOf9
  v9 := Tryz.zeroValue9
  t20 := Tryz.underlying20
  a20 := Tryz.isAgg20
  z20 := Tryz.sizeOf20
  v20 := Tryz.zeroValue20
  t21 := Tryz.underlying21
  a21 := Tryz.isAgg21
  z21 := Tryz.sizeOf21
  v21 := Tryz.zeroValue21
  t37 := Tryz.underlying66
  a37 := Tryz.isAgg66
  z37 := Tryz.sizeOf66
  v37 := Tryz.zeroValue66
  t46 := Tryz.underlying77
  a46 := Tryz.isAgg77
  z46 := Tryz.sizeOf77
  v46 := Tryz.zeroValue77
  t51 := Tryz.underlying130
  a51 := Tryz.isAgg130
  z51 := Tryz.sizeOf130
  v51 := Tryz.zeroValue130
  t70 := Tryz.underlying69
  a70 := Tryz.isAgg69
  z70 := Tryz.sizeOf69
  v70 := Tryz.zeroValue69
  t72 := Tryz.underlying71
  a72 := Tryz.isAgg71
  z72 := Tryz.sizeOf71
  v72 := Tryz.zeroValue71
  t75 := Tryz.underlying73
  a75 := Tryz.isAgg73
  z75 := Tryz.sizeOf73
  v75 := Tryz.zeroValue73
  t76 := Tryz.underlying75
  a76 := Tryz.isAgg75
  z76 := Tryz.sizeOf75
  v76 := Tryz.zeroValue75
  t105 := Tryz.underlying167
  a105 := Tryz.isAgg167
  z105 := Tryz.sizeOf167
  v105 := Tryz.zeroValue167
  t107 := Tryz.underlying155
  a107 := Tryz.isAgg155
  z107 := Tryz.sizeOf155
  v107 := Tryz.zeroValue155
  t119 := Tryz.underlying121
  a119 := Tryz.isAgg121
  z119 := Tryz.sizeOf121
  t127 := Tryz.underlying98
  a127 := Tryz.isAgg98
  z127 := Tryz.sizeOf98
  v127 := Tryz.zeroValue98
  t138 := Tryz.underlying123
  a138 := Tryz.isAgg123
  z138 := Tryz.sizeOf123
  v138 := Tryz.zeroValue123
  t139 := Tryz.underlying124
  a139 := Tryz.isAgg124
  z139 := Tryz.sizeOf124
  v139 := Tryz.zeroValue124
  t160 := Tryz.underlying200
  a160 := Tryz.isAgg200
  z160 := Tryz.sizeOf200
  v160 := Tryz.zeroValue200
  t162 := Tryz.underlying189
  a162 := Tryz.isAgg189
  z162 := Tryz.sizeOf189
  v162 := Tryz.zeroValue189
  t164 := Tryz.underlying125
  a164 := Tryz.isAgg125
  z164 := Tryz.sizeOf125
  v164 := Tryz.zeroValue125
  t203 := Tryz.underlying187
  a203 := Tryz.isAgg187
  z203 := Tryz.sizeOf187
  v203 := Tryz.zeroValue187
  t206 := Tryz.underlying209
  a206 := Tryz.isAgg209
  z206 := Tryz.sizeOf209
  v206 := Tryz.zeroValue209
  t208 := Tryz.underlying211
  a208 := Tryz.isAgg211
  z208 := Tryz.sizeOf211
  v208 := Tryz.zeroValue211
  g3 := by kernel_rfl
  g4 := by kernel_rfl
  g13 := by kernel_rfl }
theorem Tryz.Builder_Extra_159 : Builder.Extra Tryz.prog Tryz.lays159_ren := {
  sizeBuilder := by kernel_rfl
  liesBuilder := by kernel_rfl
  t5 := Tryz.underlying5
  a5 := Tryz.isAgg5
  z5 := Tryz.sizeOf5
  v5 := Tryz.zeroValue5
  infoByte := by kernel_rfl
  cellsByte := by kernel_rfl
  sizeByte := by kernel_rfl
  neB5 := by decide }
open Go.RowKit in
theorem Tryz.strings_ToLower_ascii (s : ByteArray) (w : World) (hs : s.size ≤ 140737488355328) (hascii : ∀ (j : Nat) (b : UInt8), s.data.toList[j]? = some b → b.toNat < 128) :
    Calls Tryz.prog 141 #[.string s] w fun e w' => e = .returned (.string ⟨(Lib.toLowerA s.data.toList).toArray⟩) ∧ Below w.heap.size w w' := Any.strings_ToLower_ascii Tryz.lays159 Tryz.Builder_Extra_159 s w hs hascii
def Tryz.lays161_ren : Go.Shelf.Ren := ⟨fun | 161 => 143 | 231 => 154 | 227 => 155 | 233 => 156 | 235 => 157 | 228 => 175 | 197 => 165 | 151 => 176 | 260 => 182 | 152 => 188 | 137 => 116 | 119 => 200 | 224 => 104 | 225 => 103 | 217 => 102 | 266 => 126 | n => n, fun | 9 => 9 | 4 => 4 | 3 => 3 | 5 => 5 | 117 => 160 | 116 => 159 | 0 => 0 | 124 => 163 | 105 => 167 | 21 => 21 | 119 => 121 | 46 => 77 | 139 => 124 | 138 => 123 | n => n, fun | 3 => 1 | 4 => 2 | n => n⟩
theorem Tryz.lays161 : Go.Proofs.Lays.n161 Tryz.prog Tryz.lays161_ren := {
  mixed := by kernel_rfl
  f119 := Tryz.func200.trans (congrArg some (by kernel_rfl))
  f137 := Tryz.func116.trans (congrArg some (by kernel_rfl))
  f151 := Tryz.func176.trans (congrArg some (by kernel_rfl))
  f152 := Tryz.func188.trans (congrArg some (by kernel_rfl))
  f161 := Tryz.func143.trans (congrArg some (by kernel_rfl))
  f197 := Tryz.func165.trans (congrArg some (by kernel_rfl))
  f217 := Tryz.func102.trans (congrArg some (by kernel_rfl))
  f224 := Tryz.func104.trans (congrArg some (by kernel_rfl))
  f225 := Tryz.func103.trans (congrArg some (by kernel_rfl))
  f227 := Tryz.func155.trans (congrArg some (by kernel_rfl))
  f228 := Tryz.func175.trans (congrArg some (by kernel_rfl))
  f231 := Tryz.func154.trans (congrArg some (by kernel_rfl))
  f233 := Tryz.func156.trans (congrArg some (by kernel_rfl))
  f235 := Tryz.func157.trans (congrArg some (by kernel_rfl))
  f260 := Tryz.func182.trans (congrArg some (by kernel_rfl))
  f266 := Tryz.func126.trans (congrArg some (by kernel_rfl))
  t0 := Tryz.underlying0
  a0 := Tryz.isAgg0
  z0 := Tryz.sizeOf0
  v0 := Tryz.zeroValue0
  t3 := Tryz.underlying3
  a3 := Tryz.isAgg3
  z3 := Tryz.sizeOf3
  v3 := Tryz.zeroValue3
  t4 := Tryz.underlying4
  a4 := Tryz.isAgg4
  z4 := Tryz.sizeOf4
  v4 := Tryz.zeroValue4
  t5 := Tryz.underlying5
  a5 := Tryz.isAgg5
  z5 := Tryz.sizeOf5
  v5 := Tryz.zeroValue5
  t9 := Tryz.underlying9
  a9 := Tryz.isAgg9
  z9 := Tryz.sizeOf9
  v9 := Tryz.zeroValue9
  t21 := Tryz.underlying21
  a21 := Tryz.isAgg21
  z21 := Tryz.sizeOf21
  v21 := Tryz.zeroValue21
  t46 := Tryz.underlying77
  a46 := Tryz.isAgg77
  z46 := Tryz.sizeOf77
  v46 := Tryz.zeroValue77
  t105 := Tryz.underlying167
  a105 := Tryz.isAgg167
  z105 := Tryz.sizeOf167
  v105 := Tryz.zeroValue167
  t116 := Tryz.underlying159
  a116 := Tryz.isAgg159
  z116 := Tryz.sizeOf159
  t117 := Tryz.underlying160
  a117 := Tryz.isAgg160
  z117 := Tryz.sizeOf160
  v117 := Tryz.zeroValue160
  t119 := Tryz.underlying121
  a119 := Tryz.isAgg121
  z119 := Tryz.sizeOf121
  t124 := Tryz.underlying163
  a124 := Tryz.isAgg163
  z124 := Tryz.sizeOf163
  v124 := Tryz.zeroValue163
  t138 := Tryz.underlying123
  a138 := Tryz.isAgg123
  z138 := Tryz.sizeOf123
  v138 := Tryz.zeroValue123
  t139 := Tryz.underlying124
  a139 := Tryz.isAgg124
  z139 := Tryz.sizeOf124
  v139 := Tryz.zeroValue124
  g3 := by kernel_rfl
  g4 := by kernel_rfl }
open Go.RowKit in
theorem Tryz.strings_TrimLeft_one (s : ByteArray) (c : UInt8) (hc : c.toNat < 128) (w : World) :
    Calls Tryz.prog 143 #[.string s, .string ⟨#[c]⟩] w fun e w' => e = .returned (.string ⟨(Lib.trimLeftB s.data.toList c).toArray⟩) ∧ w' = w := Any.strings_TrimLeft_one Tryz.lays161 s c hc w
def Tryz.lays162_ren : Go.Shelf.Ren := ⟨fun | 162 => 144 | 232 => 158 | 227 => 155 | 234 => 159 | 236 => 160 | 228 => 175 | 271 => 177 | 151 => 176 | 120 => 189 | 197 => 165 | 152 => 188 | 260 => 182 | 137 => 116 | 119 => 200 | 224 => 104 | 225 => 103 | 217 => 102 | 266 => 126 | n => n, fun | 9 => 9 | 4 => 4 | 3 => 3 | 5 => 5 | 117 => 160 | 116 => 159 | 0 => 0 | 124 => 163 | 21 => 21 | 105 => 167 | 46 => 77 | 119 => 121 | 139 => 124 | 138 => 123 | n => n, fun | 3 => 1 | 4 => 2 | n => n⟩
theorem Tryz.lays162 : Go.Proofs.Lays.n162 Tryz.prog Tryz.lays162_ren := {
  mixed := by kernel_rfl
  f119 := Tryz.func200.trans (congrArg some (by kernel_rfl))
  f120 := Tryz.func189.trans (congrArg some (by kernel_rfl))
  f137 := Tryz.func116.trans (congrArg some (by kernel_rfl))
  f151 := Tryz.func176.trans (congrArg some (by kernel_rfl))
  f152 := Tryz.func188.trans (congrArg some (by kernel_rfl))
  f162 := Tryz.func144.trans (congrArg some (by kernel_rfl))
  f197 := Tryz.func165.trans (congrArg some (by kernel_rfl))
  f217 := Tryz.func102.trans (congrArg some (by kernel_rfl))
  f224 := Tryz.func104.trans (congrArg some (by kernel_rfl))
  f225 := Tryz.func103.trans (congrArg some (by kernel_rfl))
  f227 := Tryz.func155.trans (congrArg some (by kernel_rfl))
  f228 := Tryz.func175.trans (congrArg some (by kernel_rfl))
  f232 := Tryz.func158.trans (congrArg some (by kernel_rfl))
  f234 := Tryz.func159.trans (congrArg some (by kernel_rfl))
  f236 := Tryz.func160.trans (congrArg some (by kernel_rfl))
  f260 := Tryz.func182.trans (congrArg some (by kernel_rfl))
  f266 := Tryz.func126.trans (congrArg some (by kernel_rfl))
  f271 := Tryz.func177.trans (congrArg some (by kernel_rfl))
  t0 := Tryz.underlying0
  a0 := Tryz.isAgg0
  z0 := Tryz.sizeOf0
  v0 := Tryz.zeroValue0
  t3 := Tryz.underlying3
  a3 := Tryz.isAgg3
  z3 := Tryz.sizeOf3
  v3 := Tryz.zeroValue3
  t4 := Tryz.underlying4
  a4 := Tryz.isAgg4
  z4 := Tryz.sizeOf4
  v4 := Tryz.zeroValue4
  t5 := Tryz.underlying5
  a5 := Tryz.isAgg5
  z5 := Tryz.sizeOf5
  v5 := Tryz.zeroValue5
  t9 := Tryz.underlying9
  a9 := Tryz.isAgg9
  z9 := Tryz.sizeOf9
  v9 := Tryz.zeroValue9
  t21 := Tryz.underlying21
  a21 := Tryz.isAgg21
  z21 := Tryz.sizeOf21
  v21 := Tryz.zeroValue21
  t46 := Tryz.underlying77
  a46 := Tryz.isAgg77
  z46 := Tryz.sizeOf77
  v46 := Tryz.zeroValue77
  t105 := Tryz.underlying167
  a105 := Tryz.isAgg167
  z105 := Tryz.sizeOf167
  v105 := Tryz.zeroValue167
  t116 := Tryz.underlying159
  a116 := Tryz.isAgg159
  z116 := Tryz.sizeOf159
  t117 := Tryz.underlying160
  a117 := Tryz.isAgg160
  z117 := Tryz.sizeOf160
  v117 := Tryz.zeroValue160
  t119 := Tryz.underlying121
  a119 := Tryz.isAgg121
  z119 := Tryz.sizeOf121
  t124 := Tryz.underlying163
  a124 := Tryz.isAgg163
  z124 := Tryz.sizeOf163
  v124 := Tryz.zeroValue163
  t138 := Tryz.underlying123
  a138 := Tryz.isAgg123
  z138 := Tryz.sizeOf123
  v138 := Tryz.zeroValue123
  t139 := Tryz.underlying124
  a139 := Tryz.isAgg124
  z139 := Tryz.sizeOf124
  v139 := Tryz.zeroValue124
  g3 := by kernel_rfl
  g4 := by kernel_rfl }
open Go.RowKit in
theorem Tryz.strings_TrimRight_one (s : ByteArray) (c : UInt8) (hc : c.toNat < 128) (w : World) (hs : s.size ≤ 9223372036854775807) :
    Calls Tryz.prog 144 #[.string s, .string ⟨#[c]⟩] w fun e w' => e = .returned (.string ⟨(Lib.trimRightB s.data.toList c).toArray⟩) ∧ w' = w := Any.strings_TrimRight_one Tryz.lays162 s c hc w hs
def Tryz.lays137_ren : Go.Shelf.Ren := ⟨fun | 137 => 116 | 217 => 102 | 266 => 126 | n => n, fun | 9 => 9 | 5 => 5 | 3 => 3 | n => n, fun | n => n⟩
theorem Tryz.lays137 : Go.Proofs.Lays.n137 Tryz.prog Tryz.lays137_ren := {
  mixed := by kernel_rfl
  f137 := Tryz.func116.trans (congrArg some (by kernel_rfl))
  f217 := Tryz.func102.trans (congrArg some (by kernel_rfl))
  f266 := Tryz.func126.trans (congrArg some (by kernel_rfl))
  t3 := Tryz.underlying3
  a3 := Tryz.isAgg3
  z3 := Tryz.sizeOf3
  v3 := Tryz.zeroValue3
  t5 := Tryz.underlying5
  a5 := Tryz.isAgg5
  z5 := Tryz.sizeOf5
  v5 := Tryz.zeroValue5
  t9 := Tryz.underlying9
  a9 := Tryz.isAgg9
  z9 := Tryz.sizeOf9
  v9 := Tryz.zeroValue9 }
open Go.RowKit in
theorem Tryz.strings_IndexByte (s : ByteArray) (c : Int) (w : World) :
    Calls Tryz.prog 116 #[.string s, .int .u8 c] w fun e w' => e = .returned (.int .i64 (Lib.indexByte s.data.toList c.toNat.toUInt8)) ∧ w' = w := Any.strings_IndexByte Tryz.lays137 s c w
def Tryz.lays103_ren : Go.Shelf.Ren := ⟨fun | 103 => 82 | 210 => 113 | 206 => 130 | n => n, fun | 9 => 9 | 4 => 4 | 24 => 111 | 3 => 3 | n => n, fun | n => n⟩
theorem Tryz.lays103 : Go.Proofs.Lays.n103 Tryz.prog Tryz.lays103_ren := {
  mixed := by kernel_rfl
  f103 := Tryz.func82.trans (congrArg some (by kernel_rfl))
  f206 := Tryz.func130.trans (congrArg some (by kernel_rfl))
  f210 := Tryz.func113.trans (congrArg some (by kernel_rfl))
  t3 := Tryz.underlying3
  a3 := Tryz.isAgg3
  z3 := Tryz.sizeOf3
  v3 := Tryz.zeroValue3
  t4 := Tryz.underlying4
  a4 := Tryz.isAgg4
  z4 := Tryz.sizeOf4
  v4 := Tryz.zeroValue4
  t9 := Tryz.underlying9
  a9 := Tryz.isAgg9
  z9 := Tryz.sizeOf9
  v9 := Tryz.zeroValue9
  t24 := Tryz.underlying111
  a24 := Tryz.isAgg111
  z24 := Tryz.sizeOf111
  v24 := Tryz.zeroValue111 }
open Go.RowKit in
theorem Tryz.strings_CutPrefix (s p : ByteArray) (w : World) :
    Calls Tryz.prog 82 #[.string s, .string p] w fun e w' => e = .returned (.tuple #[.string ⟨(Lib.trimPrefix s.data.toList p.data.toList).toArray⟩, .bool (Lib.hasPrefix s.data.toList p.data.toList)]) ∧ w' = w := Any.strings_CutPrefix Tryz.lays103 s p w
def Tryz.laysM171_ren : Go.Shelf.Ren := ⟨fun | 171 => 136 | 243 => 145 | 246 => 161 | 283 => 178 | 284 => 179 | 285 => 180 | 286 => 181 | 129 => 191 | 317 => 190 | 318 => 192 | 319 => 193 | 320 => 194 | 337 => 201 | 338 => 202 | n => n, fun | 3 => 3 | 9 => 9 | 2 => 2 | 4 => 4 | 171 => 181 | 0 => 0 | 53 => 133 | 37 => 66 | 5 => 5 | 173 => 184 | 212 => 197 | 51 => 130 | 20 => 20 | 213 => 198 | 46 => 77 | 232 => 212 | 233 => 213 | n => n, fun | 17 => 6 | 18 => 7 | 19 => 8 | n => n⟩
theorem Tryz.laysM171 : Go.Proofs.LaysM.n171 Tryz.prog Tryz.laysM171_ren := {
  mixed := by kernel_rfl
  f129 := Tryz.func191.trans (congrArg some (by kernel_rfl))
  f171 := Tryz.func136.trans (congrArg some (by kernel_rfl))
  f243 := Tryz.func145.trans (congrArg some (by kernel_rfl))
  f246 := Tryz.func161.trans (congrArg some (by kernel_rfl))
  f283 := Tryz.func178.trans (congrArg some (by kernel_rfl))
  f284 := Tryz.func179.trans (congrArg some (by kernel_rfl))
  f285 := Tryz.func180.trans (congrArg some (by kernel_rfl))
  f286 := Tryz.func181.trans (congrArg some (by kernel_rfl))
  f317 := Tryz.func190.trans (congrArg some (by kernel_rfl))
  f318 := Tryz.func192.trans (congrArg some (by kernel_rfl))
  f319 := Tryz.func193.trans (congrArg some (by kernel_rfl))
  f320 := Tryz.func194.trans (congrArg some (by kernel_rfl))
  f337 := Tryz.func201.trans (congrArg some (by kernel_rfl))
  f338 := Tryz.func202.trans (congrArg some (by kernel_rfl))
  t0 := Tryz.underlying0
  a0 := Tryz.isAgg0
  z0 := Tryz.sizeOf0
  v0 := Tryz.zeroValue0
  t2 := Tryz.underlying2
  a2 := Tryz.isAgg2
  z2 := Tryz.sizeOf2
  v2 := Tryz.zeroValue2
  t3 := Tryz.underlying3
  a3 := Tryz.isAgg3
  z3 := Tryz.sizeOf3
  v3 := Tryz.zeroValue3
  t4 := Tryz.underlying4
  a4 := Tryz.isAgg4
  z4 := Tryz.sizeOf4
  v4 := Tryz.zeroValue4
  t5 := Tryz.underlying5
  a5 := Tryz.isAgg5
  z5 := Tryz.sizeOf5
  v5 := Tryz.zeroValue5
  t9 := Tryz.underlying9
  a9 := Tryz.isAgg9
  z9 := Tryz.sizeOf9
  v9 := Tryz.zeroValue9
  t20 := Tryz.underlying20
  a20 := Tryz.isAgg20
  z20 := Tryz.sizeOf20
  v20 := Tryz.zeroValue20
  t37 := Tryz.underlying66
  a37 := Tryz.isAgg66
  z37 := Tryz.sizeOf66
  v37 := Tryz.zeroValue66
  t46 := Tryz.underlying77
  a46 := Tryz.isAgg77
  z46 := Tryz.sizeOf77
  v46 := Tryz.zeroValue77
  t51 := Tryz.underlying130
  a51 := Tryz.isAgg130
  z51 := Tryz.sizeOf130
  v51 := Tryz.zeroValue130
  t53 := Tryz.underlying133
  a53 := Tryz.isAgg133
  z53 := Tryz.sizeOf133
  v53 := Tryz.zeroValue133
  t171 := Tryz.underlying181
  a171 := Tryz.isAgg181
  z171 := Tryz.sizeOf181
  v171 := Tryz.zeroValue181
  t173 := Tryz.underlying184
  a173 := Tryz.isAgg184
  z173 := Tryz.sizeOf184
  v173 := Tryz.zeroValue184
  t212 := Tryz.underlying197
  a212 := Tryz.isAgg197
  z212 := Tryz.sizeOf197
  v212 := Tryz.zeroValue197
  t213 := Tryz.underlying198
  a213 := Tryz.isAgg198
  z213 := Tryz.sizeOf198
  t232 := Tryz.underlying212
  a232 := Tryz.isAgg212
  z232 := Tryz.sizeOf212
  v232 := Tryz.zeroValue212
  t233 := Tryz.underlying213
  a233 := Tryz.isAgg213
  z233 := Tryz.sizeOf213
  v233 := Tryz.zeroValue213
  g17 := by kernel_rfl
  g18 := by kernel_rfl
  g19 := by kernel_rfl
  i0 := by kernel_rfl
  i2 := by kernel_rfl
  i3 := by kernel_rfl
  i4 := by kernel_rfl
  i5 := by kernel_rfl
  i9 := by kernel_rfl
  i20 := by kernel_rfl
  i37 := by kernel_rfl
  i46 := by kernel_rfl
  i51 := by kernel_rfl
  i53 := by kernel_rfl
  i171 := by kernel_rfl
  i173 := by kernel_rfl
  i212 := by kernel_rfl
  i232 := by kernel_rfl
  i233 := by kernel_rfl
  m17 := by kernel_rfl
  m18 := by kernel_rfl
  m19 := by kernel_rfl }
open Go.RowKit Go.Sort Go.Lib in
theorem Tryz.strconv_Itoa (n : Int) (h0 : -9223372036854775808 ≤ n) (h1 : n ≤ 9223372036854775807) (w : World) (htab : Lib.TabIs Tryz.prog w "internal/strconv.uint64pow10" .u64 Lib.pow10Tab) :
    Calls Tryz.prog 136 #[.int .i64 n] w fun e w' => e = .returned (.string ⟨(Lib.itoa n).toArray⟩) ∧ ∃ k os, w' = grow (w.drewN k) os := Any.strconv_Itoa Tryz.laysM171 n h0 h1 w htab
def Tryz.laysC172_ren : Go.Shelf.Ren := ⟨fun | 172 => 142 | 244 => 152 | 245 => 153 | 247 => 170 | 279 => 171 | 280 => 172 | 281 => 173 | 282 => 174 | 287 => 185 | 316 => 186 | 171 => 136 | 205 => 187 | 321 => 198 | 322 => 199 | 243 => 145 | 246 => 161 | 283 => 178 | 284 => 179 | 285 => 180 | 286 => 181 | 129 => 191 | 317 => 190 | 318 => 192 | 319 => 193 | 320 => 194 | 337 => 201 | 338 => 202 | n => n, fun | 9 => 9 | 3 => 3 | 75 => 73 | 76 => 75 | 4 => 4 | 5 => 5 | 167 => 173 | 37 => 66 | 0 => 0 | 85 => 174 | 2 => 2 | 168 => 176 | 53 => 133 | 175 => 190 | 46 => 77 | 210 => 193 | 127 => 98 | 145 => 206 | 143 => 204 | 21 => 21 | 171 => 181 | 173 => 184 | 212 => 197 | 51 => 130 | 20 => 20 | 213 => 198 | 232 => 212 | 233 => 213 | 80 => 78 | n => n, fun | 15 => 4 | 16 => 5 | 17 => 6 | 18 => 7 | 19 => 8 | n => n⟩
theorem Tryz.laysC172 : Go.Proofs.LaysC.n172 Tryz.prog Tryz.laysC172_ren := {
  mixed := by kernel_rfl
  f129 := Tryz.func191.trans (congrArg some (by kernel_rfl))
  f171 := Tryz.func136.trans (congrArg some (by kernel_rfl))
  f172 := Tryz.func142.trans (congrArg some (by kernel_rfl))
  f205 := Tryz.func187.trans (congrArg some (by kernel_rfl))
  f243 := Tryz.func145.trans (congrArg some (by kernel_rfl))
  f244 := Tryz.func152.trans (congrArg some (by kernel_rfl))
  f245 := Tryz.func153.trans (congrArg some (by kernel_rfl))
  f246 := Tryz.func161.trans (congrArg some (by kernel_rfl))
  f247 := Tryz.func170.trans (congrArg some (by kernel_rfl))
  f279 := Tryz.func171.trans (congrArg some (by kernel_rfl))
  f280 := Tryz.func172.trans (congrArg some (by kernel_rfl))
  f281 := Tryz.func173.trans (congrArg some (by kernel_rfl))
  f282 := Tryz.func174.trans (congrArg some (by kernel_rfl))
  f283 := Tryz.func178.trans (congrArg some (by kernel_rfl))
  f284 := Tryz.func179.trans (congrArg some (by kernel_rfl))
  f285 := Tryz.func180.trans (congrArg some (by kernel_rfl))
  f286 := Tryz.func181.trans (congrArg some (by kernel_rfl))
  f287 := Tryz.func185.trans (congrArg some (by kernel_rfl))
  f316 := Tryz.func186.trans (congrArg some (by kernel_rfl))
  f317 := Tryz.func190.trans (congrArg some (by kernel_rfl))
  f318 := Tryz.func192.trans (congrArg some (by kernel_rfl))
  f319 := Tryz.func193.trans (congrArg some (by kernel_rfl))
  f320 := Tryz.func194.trans (congrArg some (by kernel_rfl))
  f321 := Tryz.func198.trans (congrArg some (by kernel_rfl))
  f322 := Tryz.func199.trans (congrArg some (by kernel_rfl))
  f337 := Tryz.func201.trans (congrArg some (by kernel_rfl))
  f338 := Tryz.func202.trans (congrArg some (by kernel_rfl))
  t0 := Tryz.underlying0
  a0 := Tryz.isAgg0
  z0 := Tryz.sizeOf0
  v0 := Tryz.zeroValue0
  t2 := Tryz.underlying2
  a2 := Tryz.isAgg2
  z2 := Tryz.sizeOf2
  v2 := Tryz.zeroValue2
  t3 := Tryz.underlying3
  a3 := Tryz.isAgg3
  z3 := Tryz.sizeOf3
  v3 := Tryz.zeroValue3
  t4 := Tryz.underlying4
  a4 := Tryz.isAgg4
  z4 := Tryz.sizeOf4
  v4 := Tryz.zeroValue4
  t5 := Tryz.underlying5
  a5 := Tryz.isAgg5
  z5 := Tryz.sizeOf5
  v5 := Tryz.zeroValue5
  t9 := Tryz.underlying9
  a9 := Tryz.isAgg9
  z9 := Tryz.sizeOf9
  v9 := Tryz.zeroValue9
  t20 := Tryz.underlying20
  a20 := Tryz.isAgg20
  z20 := Tryz.sizeOf20
  v20 := Tryz.zeroValue20
  t21 := Tryz.underlying21
  a21 := Tryz.isAgg21
  z21 := Tryz.sizeOf21
  v21 := Tryz.zeroValue21
  t37 := Tryz.underlying66
  a37 := Tryz.isAgg66
  z37 := Tryz.sizeOf66
  v37 := Tryz.zeroValue66
  t46 := Tryz.underlying77
  a46 := Tryz.isAgg77
  z46 := Tryz.sizeOf77
  v46 := Tryz.zeroValue77
  t51 := Tryz.underlying130
  a51 := Tryz.isAgg130
  z51 := Tryz.sizeOf130
  v51 := Tryz.zeroValue130
  t53 := Tryz.underlying133
  a53 := Tryz.isAgg133
  z53 := Tryz.sizeOf133
  v53 := Tryz.zeroValue133
  t75 := Tryz.underlying73
  a75 := Tryz.isAgg73
  z75 := Tryz.sizeOf73
  v75 := Tryz.zeroValue73
  t76 := Tryz.underlying75
  a76 := Tryz.isAgg75
  z76 := Tryz.sizeOf75
  v76 := Tryz.zeroValue75
  t85 := Tryz.underlying174
  a85 := Tryz.isAgg174
  z85 := Tryz.sizeOf174
  v85 := Tryz.zeroValue174
  t127 := Tryz.underlying98
  a127 := Tryz.isAgg98
  z127 := Tryz.sizeOf98
  v127 := Tryz.zeroValue98
  t143 := Tryz.underlying204
  a143 := Tryz.isAgg204
  z143 := Tryz.sizeOf204
  v143 := Tryz.zeroValue204
  t145 := Tryz.underlying206
  a145 := Tryz.isAgg206
  z145 := Tryz.sizeOf206
  v145 := Tryz.zeroValue206
  t167 := Tryz.underlying173
  a167 := Tryz.isAgg173
  z167 := Tryz.sizeOf173
  v167 := Tryz.zeroValue173
  t168 := Tryz.underlying176
  a168 := Tryz.isAgg176
  z168 := Tryz.sizeOf176
  v168 := Tryz.zeroValue176
  t171 := Tryz.underlying181
  a171 := Tryz.isAgg181
  z171 := Tryz.sizeOf181
  v171 := Tryz.zeroValue181
  t173 := Tryz.underlying184
  a173 := Tryz.isAgg184
  z173 := Tryz.sizeOf184
  v173 := Tryz.zeroValue184
  t175 := Tryz.underlying190
  a175 := Tryz.isAgg190
  z175 := Tryz.sizeOf190
  v175 := Tryz.zeroValue190
  t210 := Tryz.underlying193
  a210 := Tryz.isAgg193
  z210 := Tryz.sizeOf193
  v210 := Tryz.zeroValue193
  t212 := Tryz.underlying197
  a212 := Tryz.isAgg197
  z212 := Tryz.sizeOf197
  v212 := Tryz.zeroValue197
  t213 := Tryz.underlying198
  a213 := Tryz.isAgg198
  z213 := Tryz.sizeOf198
  t232 := Tryz.underlying212
  a232 := Tryz.isAgg212
  z232 := Tryz.sizeOf212
  v232 := Tryz.zeroValue212
  t233 := Tryz.underlying213
  a233 := Tryz.isAgg213
  z233 := Tryz.sizeOf213
  v233 := Tryz.zeroValue213
  g15 := by kernel_rfl
  g16 := by kernel_rfl
  g17 := by kernel_rfl
  g18 := by kernel_rfl
  g19 := by kernel_rfl
  t80 := Tryz.underlying78
  a80 := Tryz.isAgg78
  z80 := Tryz.sizeOf78
  v80 := Tryz.zeroValue78
  i0 := by kernel_rfl
  i2 := by kernel_rfl
  i3 := by kernel_rfl
  i4 := by kernel_rfl
  i5 := by kernel_rfl
  i9 := by kernel_rfl
  i20 := by kernel_rfl
  i21 := by kernel_rfl
  i37 := by kernel_rfl
  i46 := by kernel_rfl
  i51 := by kernel_rfl
  i53 := by kernel_rfl
  i75 := by kernel_rfl
  i76 := by kernel_rfl
  i80 := by kernel_rfl
  i85 := by kernel_rfl
  i127 := by kernel_rfl
  i143 := by kernel_rfl
  i145 := by kernel_rfl
  i167 := by kernel_rfl
  i168 := by kernel_rfl
  i171 := by kernel_rfl
  i173 := by kernel_rfl
  i175 := by kernel_rfl
  i210 := by kernel_rfl
  i212 := by kernel_rfl
  i232 := by kernel_rfl
  i233 := by kernel_rfl
  m15 := by kernel_rfl
  m16 := by kernel_rfl
  m17 := by kernel_rfl
  m18 := by kernel_rfl
  m19 := by kernel_rfl
  c0 := by kernel_rfl
  c2 := by kernel_rfl
  c3 := by kernel_rfl
  c4 := by kernel_rfl
  c5 := by kernel_rfl
  c9 := by kernel_rfl
  c20 := by kernel_rfl
  c21 := by kernel_rfl
  c37 := by kernel_rfl
  c46 := by kernel_rfl
  c51 := by kernel_rfl
  c53 := by kernel_rfl
  c75 := by kernel_rfl
  c76 := by kernel_rfl
  c80 := by kernel_rfl
  c85 := by kernel_rfl
  c127 := by kernel_rfl
  c143 := by kernel_rfl
  c145 := by kernel_rfl
  c167 := by kernel_rfl
  c168 := by kernel_rfl
  c171 := by kernel_rfl
  c173 := by kernel_rfl
  c175 := by kernel_rfl
  c210 := by kernel_rfl
  c212 := by kernel_rfl
  c213 := by kernel_rfl
  c232 := by kernel_rfl
  c233 := by kernel_rfl }
open Go.RowKit in
theorem Tryz.strconv_Atoi_ok (s : ByteArray) (hmax : s.size ≤ 9223372036854775806) (v : Int) (h : Lib.atoiAll s.data.toList = .ok v) (w : World) :
    Calls Tryz.prog 142 #[.string s] w fun e w' => e = .returned (.tuple #[.int .i64 v, .nilIface]) ∧ (w' = w ∨ ∃ t, w' = Lib.bytesWorld w 5 t) := Any.strconv_Atoi_ok Tryz.laysC172 s hmax v h w
open Go.RowKit in
theorem Tryz.strconv_Atoi_range (s : ByteArray) (hlim : s.size ≤ 281474976710656) (h : Lib.atoiAll s.data.toList = .range) (ev : Value) (w : World) (hv : w.cell? ⟨5, 0, none⟩ = some ev) (hev : ev = .nilIface ∨ ∃ te pe, ev = .iface te pe) :
    Calls Tryz.prog 142 #[.string s] w fun e w' => ∃ N, e = .returned (.tuple #[.int .i64 (Lib.atoiSat s.data.toList), .iface 176 (.pointer (some ⟨N, 0, none⟩))]) ∧ w.heap.size ≤ N ∧ w'.heap[N]? = some (.cells #[.string ⟨#[65, 116, 111, 105]⟩, .string s, ev] 193 (0, 0)) ∧ Below w.heap.size w w' := Any.strconv_Atoi_range Tryz.laysC172 s hlim h ev w hv hev
def Tryz.lays145_ren : Go.Shelf.Ren := ⟨fun | 145 => 83 | 220 => 114 | 219 => 72 | 217 => 102 | 225 => 103 | 224 => 104 | 267 => 105 | 266 => 126 | 314 => 127 | n => n, fun | 9 => 9 | 4 => 4 | 59 => 88 | 3 => 3 | 5 => 5 | 46 => 77 | 146 => 131 | 51 => 130 | n => n, fun | 1 => 0 | n => n⟩
theorem Tryz.lays145 : Go.Proofs.Lays.n145 Tryz.prog Tryz.lays145_ren := {
  mixed := by kernel_rfl
  f145 := Tryz.func83.trans (congrArg some (by kernel_rfl))
  f217 := Tryz.func102.trans (congrArg some (by kernel_rfl))
  f219 := Tryz.func72.trans (congrArg some (by kernel_rfl))
  f220 := Tryz.func114.trans (congrArg some (by kernel_rfl))
  f224 := Tryz.func104.trans (congrArg some (by kernel_rfl))
  f225 := Tryz.func103.trans (congrArg some (by kernel_rfl))
  f266 := Tryz.func126.trans (congrArg some (by kernel_rfl))
  f267 := Tryz.func105.trans (congrArg some (by kernel_rfl))
  f314 := Tryz.func127.trans (congrArg some (by kernel_rfl))
  t3 := Tryz.underlying3
  a3 := Tryz.isAgg3
  z3 := Tryz.sizeOf3
  v3 := Tryz.zeroValue3
  t4 := Tryz.underlying4
  a4 := Tryz.isAgg4
  z4 := Tryz.sizeOf4
  v4 := Tryz.zeroValue4
  t5 := Tryz.underlying5
  a5 := Tryz.isAgg5
  z5 := Tryz.sizeOf5
  v5 := Tryz.zeroValue5
  t9 := Tryz.underlying9
  a9 := Tryz.isAgg9
  z9 := Tryz.sizeOf9
  v9 := Tryz.zeroValue9
  t46 := Tryz.underlying77
  a46 := Tryz.isAgg77
  z46 := Tryz.sizeOf77
  v46 := Tryz.zeroValue77
  t51 := Tryz.underlying130
  a51 := Tryz.isAgg130
  z51 := Tryz.sizeOf130
  v51 := Tryz.zeroValue130
  t59 := Tryz.underlying88
  a59 := Tryz.isAgg88
  z59 := Tryz.sizeOf88
  v59 := Tryz.zeroValue88
  t146 := Tryz.underlying131
  a146 := Tryz.isAgg131
  z146 := Tryz.sizeOf131
  v146 := Tryz.zeroValue131
  g1 := by kernel_rfl }
open Go.RowKit Go.Lib in
theorem Tryz.strings_Cut (s sep : ByteArray) (m : Int) (w : World) (hs : s.size < 4294967281) (hm : w.cell? ⟨0, 0, none⟩ = some (.int .i64 m)) :
    Calls Tryz.prog 83 #[.string s, .string sep] w fun e w' => e = .returned (.tuple #[.string ⟨(Lib.cut s.data.toList sep.data.toList).1.toArray⟩, .string ⟨(Lib.cut s.data.toList sep.data.toList).2.1.toArray⟩, .bool (Lib.cut s.data.toList sep.data.toList).2.2]) ∧ ∃ n, w' = w.drewN n := Any.strings_Cut Tryz.lays145 s sep m w hs hm
def Tryz.laysGw17_ren : Go.Shelf.Ren := ⟨fun | 17 => 85 | 15 => 117 | 20 => 131 | n => n, fun | 9 => 9 | 23 => 115 | 4 => 4 | 3 => 3 | 0 => 0 | 21 => 21 | n => n, fun | n => n⟩
theorem Tryz.laysGw17 : Go.Proofs.LaysGw.n17 Tryz.prog Tryz.laysGw17_ren := {
  mixed := by kernel_rfl
  f15 := Tryz.func117.trans (congrArg some (by kernel_rfl))
  f17 := Tryz.func85.trans (congrArg some (by kernel_rfl))
  f20 := Tryz.func131.trans (congrArg some (by kernel_rfl))
  t0 := Tryz.underlying0
  a0 := Tryz.isAgg0
  z0 := Tryz.sizeOf0
  v0 := Tryz.zeroValue0
  i0 := by kernel_rfl
  t3 := Tryz.underlying3
  a3 := Tryz.isAgg3
  z3 := Tryz.sizeOf3
  v3 := Tryz.zeroValue3
  i3 := by kernel_rfl
  t4 := Tryz.underlying4
  a4 := Tryz.isAgg4
  z4 := Tryz.sizeOf4
  v4 := Tryz.zeroValue4
  i4 := by kernel_rfl
  t9 := Tryz.underlying9
  a9 := Tryz.isAgg9
  z9 := Tryz.sizeOf9
  v9 := Tryz.zeroValue9
  i9 := by kernel_rfl
  t21 := Tryz.underlying21
  a21 := Tryz.isAgg21
  z21 := Tryz.sizeOf21
  v21 := Tryz.zeroValue21
  i21 := by kernel_rfl
  t23 := Tryz.underlying115
  a23 := Tryz.isAgg115
  z23 := Tryz.sizeOf115
  v23 := Tryz.zeroValue115
  i23 := by kernel_rfl }
open Go.RowKit Go.Lib in
theorem Tryz.strings_ContainsFunc_grows (g : Nat) (lb : Array Value) (eg : ∀ args w, (callFunc g args).run Tryz.prog w = .ok (.enter g args) w) (p : Nat → Bool) (s : ByteArray) (w : World) (hp : PredGrows Tryz.prog g lb p w) :
    Calls Tryz.prog 85 #[.string s, .func (.func g) #[] lb] w fun e w' => e = .returned (.bool (decide (0 ≤ Lib.idxFunc p true s))) ∧ Below w.heap.size w w' := Any.strings_ContainsFunc_grows Tryz.laysGw17 g lb eg p s w hp
def Tryz.laysValid_ren : Go.Shelf.Ren := ⟨fun | 196 => 73 | 259 => 106 | n => n, fun | 9 => 9 | 4 => 4 | 3 => 3 | 5 => 5 | 12 => 12 | 119 => 121 | 0 => 0 | 46 => 77 | 139 => 124 | 138 => 123 | 53 => 133 | n => n, fun | 3 => 1 | 4 => 2 | n => n⟩
theorem Tryz.laysValid : Go.Proofs.Lays.n196 Tryz.prog Tryz.laysValid_ren := {
  mixed := by kernel_rfl
  f196 := Tryz.func73.trans (congrArg some (by kernel_rfl))
  f259 := Tryz.func106.trans (congrArg some (by kernel_rfl))
  t0 := Tryz.underlying0
  a0 := Tryz.isAgg0
  z0 := Tryz.sizeOf0
  v0 := Tryz.zeroValue0
  t3 := Tryz.underlying3
  a3 := Tryz.isAgg3
  z3 := Tryz.sizeOf3
  v3 := Tryz.zeroValue3
  t4 := Tryz.underlying4
  a4 := Tryz.isAgg4
  z4 := Tryz.sizeOf4
  v4 := Tryz.zeroValue4
  t5 := Tryz.underlying5
  a5 := Tryz.isAgg5
  z5 := Tryz.sizeOf5
  v5 := Tryz.zeroValue5
  t9 := Tryz.underlying9
  a9 := Tryz.isAgg9
  z9 := Tryz.sizeOf9
  v9 := Tryz.zeroValue9
  t12 := Tryz.underlying12
  a12 := Tryz.isAgg12
  z12 := Tryz.sizeOf12
  v12 := Tryz.zeroValue12
  t46 := Tryz.underlying77
  a46 := Tryz.isAgg77
  z46 := Tryz.sizeOf77
  v46 := Tryz.zeroValue77
  t53 := Tryz.underlying133
  a53 := Tryz.isAgg133
  z53 := Tryz.sizeOf133
  v53 := Tryz.zeroValue133
  t119 := Tryz.underlying121
  a119 := Tryz.isAgg121
  z119 := Tryz.sizeOf121
  t138 := Tryz.underlying123
  a138 := Tryz.isAgg123
  z138 := Tryz.sizeOf123
  v138 := Tryz.zeroValue123
  t139 := Tryz.underlying124
  a139 := Tryz.isAgg124
  z139 := Tryz.sizeOf124
  v139 := Tryz.zeroValue124
  g3 := by kernel_rfl
  g4 := by kernel_rfl }
open Go.RowKit in
theorem Tryz.utf8_ValidString (s : ByteArray) (w : World) (hs : s.size ≤ 9223372036854775807) (hT : Lib.Utf8Tabs (Tryz.laysValid_ren.g 3) (Tryz.laysValid_ren.g 4) w) :
    Calls Tryz.prog 73 #[.string s] w fun e w' => e = .returned (.bool (Lib.validD s.data.toList)) ∧ Below w.heap.size w w' := Any.utf8_ValidString Tryz.laysValid s w hs hT
end Go.Proofs
namespace Go.Proofs.YtmniblcooficgaaGreatDoor
open Go.RowKit Num2
set_option linter.unusedSimpArgs false
set_option linter.unusedVariables false

theorem cell_lt {w : World} {a : Addr} {v : Value} (h : w.cell? a = some v) : a.block < w.heap.size := by
  unfold World.cell? at h
  rcases Nat.lt_or_ge a.block w.heap.size with h1 | h1
  · exact h1
  · rw [Array.getElem?_eq_none h1] at h; simp at h

structure Env (w : World) : Prop where
  tab : Lib.TabIs Tryz.prog w "internal/strconv.uint64pow10" .u64 Lib.pow10Tab
  mx : ∃ m, w.cell? ⟨0, 0, none⟩ = some (.int .i64 m)
  er : ∃ ev, w.cell? ⟨5, 0, none⟩ = some ev ∧ (ev = .nilIface ∨ ∃ te pe, ev = .iface te pe)
theorem Env.below {w w' : World} (h : Env w) (hb : Below w.heap.size w w') : Env w' := by
  refine ⟨Lib.tabBelow_of_tabIs h.tab w' hb, ?_, ?_⟩
  · obtain ⟨m, hm⟩ := h.mx
    exact ⟨m, by rw [hb.cell (cell_lt hm)]; exact hm⟩
  · obtain ⟨ev, h1, h2⟩ := h.er
    exact ⟨ev, by rw [hb.cell (cell_lt h1)]; exact h1, h2⟩

def str (l : List UInt8) : Value := .string ⟨l.toArray⟩
theorem mk_of (s : ByteArray) : (⟨s.data.toList.toArray⟩ : ByteArray) = s := by cases s; simp

theorem ret_s {a : ByteArray} {l : List UInt8} (h : a.data.toList = l) : Ending.returned (.string a) = .returned (.string ⟨l.toArray⟩) := by
  rw [← h, mk_of]
theorem below_grow (w : World) (k : Nat) (os : Array Obj) : Below w.heap.size w (Sort.grow (w.drewN k) os) := by
  refine (below_drewN w k).trans ⟨rfl, rfl, rfl, by simp [Sort.grow], fun i hi => ?_⟩
  have : (w.drewN k).heap.size ≥ w.heap.size := (below_drewN w k).size
  simp only [Sort.grow]
  rw [Array.getElem?_append_left (by omega)]
theorem decDigits_len : ∀ (k u : Nat), u < 10 ^ (k + 1) → (Lib.decDigits u).length ≤ k + 1
  | 0, u, h => by rw [Lib.decDigits, dif_pos (by simpa using h)]; simp
  | k + 1, u, h => by
    rw [Lib.decDigits]
    split
    · simp
    · rw [List.length_append]
      have := decDigits_len k (u / 10) (by rw [Nat.pow_succ] at h; omega)
      simp; omega
theorem itoa_len (p : Int) (h0 : -9223372036854775808 ≤ p) (h1 : p ≤ 9223372036854775807) : (Lib.itoa p).length ≤ 20 := by
  unfold Lib.itoa
  split
  · have := decDigits_len 18 p.natAbs (by omega)
    simp; omega
  · have := decDigits_len 18 p.toNat (by omega)
    omega

set_option maxHeartbeats 400000 in
theorem form_any (b : Bool) (d : ByteArray) (p : Int) (w : World) (hE : Env w) (h0 : -9223372036854775808 ≤ p) (h1 : p ≤ 9223372036854775807) (hd : d.size ≤ 1000) :
    Calls Tryz.prog 129 #[.agg #[.bool b, .string d, .int .i64 p]] w fun e w' => e = .returned (.string ⟨(formP (b, d.data.toList, p)).toArray⟩) ∧ Below w.heap.size w w' := by
  by_cases hz : d.data.toList = []
  · have hz2 : d = ⟨#[]⟩ := by rw [← mk_of d, hz]
    subst hz2
    go_enter Tryz.func129, Tryz.ntmps129
    go_wp2
    go_ret
    exact ⟨rfl, (Below.refl _ _).alloc (Nat.le_refl _) _⟩
  · have he : d.toList.isEmpty = false := by rw [ByteArray.toList_eq]; cases h : d.data.toList with | nil => exact absurd h hz | cons x y => rfl
    clear hz
    have hzz : ¬ d.data.toList = [] := by rw [ByteArray.toList_eq] at he; intro h; rw [h] at he; cases he
    have HZ := Lib.hid hzz; clear hzz
    have HE2 := Lib.hid hE
    clear hE
    by_cases hp : p = 0
    · subst hp
      have HF := Lib.hid (show formP (b, d.data.toList, 0) = (if b = true then [45] else []) ++ d.data.toList by simp [formP, HZ.out])
      cases b
      · go_enter Tryz.func129, Tryz.ntmps129
        go_wp2
        go_ret
        exact ⟨ret_s (by rw [HF.out]; simp), (Below.refl _ _).alloc (Nat.le_refl _) _⟩
      · go_enter Tryz.func129, Tryz.ntmps129
        go_wp2
        go_ret
        exact ⟨ret_s (by rw [HF.out]; simp), (Below.refl _ _).alloc (Nat.le_refl _) _⟩
    · have hpb : (p != 0) = true := by simp [hp]
      have HF := Lib.hid (show formP (b, d.data.toList, p) = (if b = true then [45] else []) ++ d.data.toList ++ 101 :: Lib.itoa p by simp [formP, HZ.out, hp])
      have hil := itoa_len p h0 h1
      clear hp
      cases b
      · go_enter Tryz.func129, Tryz.ntmps129
        go_wp2_with fail
        refine (Tryz.strconv_Itoa p h0 h1 _ (HE2.out.below ((Below.refl _ _).alloc (Nat.le_refl _) _)).tab).mono ?_
        rintro e w' ⟨rfl, k, os, rfl⟩
        go_wp2
        go_ret
        exact ⟨ret_s (by rw [HF.out]; simp), ((Below.refl _ _).alloc (Nat.le_refl _) _).trans ((below_grow _ _ _).mono (by simp))⟩
      · go_enter Tryz.func129, Tryz.ntmps129
        go_wp2_with fail
        refine (Tryz.strconv_Itoa p h0 h1 _ (HE2.out.below ((Below.refl _ _).alloc (Nat.le_refl _) _)).tab).mono ?_
        rintro e w' ⟨rfl, k, os, rfl⟩
        go_wp2
        go_ret
        exact ⟨ret_s (by rw [HF.out]; simp), ((Below.refl _ _).alloc (Nat.le_refl _) _).trans ((below_grow _ _ _).mono (by simp))⟩

def valV (v : Val) : Value := .agg #[.bool v.1, str v.2.1, .int .i64 v.2.2]

theorem may_ascii (l : List UInt8) (h : (may l).2 = true) : ∀ b ∈ unsign l, b.toNat < 128 := by
  obtain ⟨hw, hp, ht, D, E, e, hD, hE⟩ := parts_made l h
  have dl : ∀ (m : List UInt8), digs m → ∀ b ∈ m, b.toNat < 128 := fun m hm b hb => by have := hm b hb; simp [dig] at this; omega
  rw [e]
  intro b hb
  rcases List.mem_append.1 hb with hb | hb
  · rcases List.mem_append.1 hb with hb | hb
    · exact dl _ hw b hb
    · rcases hD with ⟨rfl, _⟩ | rfl
      · simp at hb
      · rcases List.mem_cons.1 hb with rfl | hb
        · decide
        · exact dl _ hp b hb
  · rcases hE with ⟨rfl, _⟩ | ⟨x, hx, rfl⟩
    · simp at hb
    · rcases List.mem_cons.1 hb with rfl | hb
      · simp [isE] at hx; omega
      · rcases ht with h0 | ⟨h1, _⟩
        · rw [h0] at hb; simp at hb
        · cases hp2 : (parts l).2.2.1 with
          | nil => rw [hp2] at hb; simp at hb
          | cons x y =>
            rw [hp2] at hb h1
            by_cases hs : isSign x = true
            · have : unsgn2 (x :: y) = y := by simp [unsgn2, hs]
              rw [this] at h1
              rcases List.mem_cons.1 hb with rfl | hb
              · simp [isSign] at hs; omega
              · exact dl _ h1 b hb
            · have : unsgn2 (x :: y) = x :: y := by simp [unsgn2, hs]
              rw [this] at h1
              exact dl _ h1 b hb
theorem wp_len (l : List UInt8) (h : (may l).2 = true) : (parts l).1.length + (parts l).2.1.length + (parts l).2.2.1.length ≤ l.length := by
  obtain ⟨hw, hp, ht, D, E, e, hD, hE⟩ := parts_made l h
  have h1 : (unsign l).length ≤ l.length := by
    cases l with
    | nil => exact Nat.le_refl _
    | cons c r => simp only [unsign]; split <;> simp
  have h2 := congrArg List.length e
  simp only [List.length_append] at h2
  have h3 : (parts l).2.1.length ≤ D.length := by rcases hD with ⟨rfl, h⟩ | rfl <;> simp [*]
  have h4 : (parts l).2.2.1.length ≤ E.length := by rcases hE with ⟨rfl, h⟩ | ⟨x, _, rfl⟩ <;> simp [*]
  omega
theorem unsign_len (l : List UInt8) : (unsign l).length ≤ l.length := by
  cases l with
  | nil => exact Nat.le_refl _
  | cons c r => simp only [unsign]; split <;> simp
theorem named (l : List UInt8) : ∃ u : ByteArray, u = ⟨l.toArray⟩ ∧ u.size = l.length := ⟨_, rfl, by simp [ByteArray.size]⟩
theorem cut_len (l c : List UInt8) : (Lib.cut l c).1.length ≤ l.length := by
  unfold Lib.cut
  split
  · rw [List.length_take]; omega
  · exact Nat.le_refl _
theorem trim_unsign (l : List UInt8) : Lib.trimPrefix l [45] = unsign l ∧ Lib.hasPrefix l [45] = decide (l.head? = some 45) := by
  cases l with
  | nil => exact ⟨rfl, rfl⟩
  | cons c r =>
    by_cases hc : c = 45
    · subst hc; exact ⟨by simp [Lib.trimPrefix, Lib.hasPrefix, unsign, List.isPrefixOf], by simp [Lib.hasPrefix, List.isPrefixOf]⟩
    · have h2 : ¬ c.toNat = 45 := fun h => hc (UInt8.toNat_inj.1 (by simpa using h))
      have h3 : ¬ (45 : UInt8) = c := fun h => hc h.symm
      exact ⟨by simp [Lib.trimPrefix, Lib.hasPrefix, unsign, List.isPrefixOf, h2, h3], by simp [Lib.hasPrefix, List.isPrefixOf, h3, hc]⟩
def faulty {α : Type} : Lib.NumEnd α → Bool
  | .ok _ => false
  | .range => false
  | _ => true
theorem parse_digs : ∀ (l : List UInt8) (acc : Nat), digs l → faulty (Lib.parseUint10 acc l) = false
  | [], acc, _ => by simp [Lib.parseUint10, faulty]
  | c :: r, acc, h => by
    have hc := h c (by simp)
    simp [dig] at hc
    simp only [Lib.parseUint10]
    rw [if_pos hc]
    split
    · rfl
    · split
      · rfl
      · exact parse_digs r _ (fun b hb => h b (by simp [hb]))
theorem atoi_digs (t : List UInt8) (h1 : digs (unsgn2 t)) (h2 : unsgn2 t ≠ []) : faulty (Lib.atoiAll t) = false := by
  cases t with
  | nil => exact absurd rfl h2
  | cons c r =>
    simp only [Lib.atoiAll]
    have e : (if c.toNat = 43 ∨ c.toNat = 45 then r else c :: r) = unsgn2 (c :: r) := by simp [unsgn2, isSign]
    rw [e]
    have hm : faulty (Lib.parseMag (unsgn2 (c :: r))) = false := by
      unfold Lib.parseMag; rw [if_neg h2]; exact parse_digs _ _ h1
    rcases hx : Lib.parseMag (unsgn2 (c :: r)) with u | _ | _
    · simp only []; split <;> (try split) <;> rfl
    · rw [hx] at hm; cases hm
    · rfl

def ReadMid (w w1 wc : World) (sg : Bool) (x : Int) : Prop :=
  Three wc w.heap.size (.bool false) (.string ⟨#[]⟩) (.int .i64 0) ∧ Three wc w1.heap.size (.bool sg) (.string ⟨#[]⟩) (.int .i64 x) ∧ Below w.heap.size w wc
theorem below_then {w w1 w2 : World} (h : Below w.heap.size w w1) (h2 : Below w1.heap.size w1 w2) : Below w.heap.size w w2 := h.trans (h2.mono h.size)
theorem atoi_below {w w' : World} {e : TypeId} (h : w' = w ∨ ∃ t, w' = Lib.bytesWorld w e t) : Below w.heap.size w w' := by
  rcases h with rfl | ⟨t, rfl⟩
  · exact Below.refl _ _
  · exact below_bytesWorld w e t
theorem head45 (T : ByteArray) (h : 0 < T.size) : (T[0].toNat : Int) = 45 ↔ T.data.toList.head? = some 45 := by
  have hl : 0 < T.data.toList.length := by rw [Array.length_toList]; exact h
  rw [List.head?_eq_getElem?, List.getElem?_eq_getElem hl]
  have : T.data.toList[0]'hl = T[0] := rfl
  rw [this]
  constructor
  · intro h; congr 1; exact UInt8.toNat_inj.1 (by show _ = 45; omega)
  · intro h; injection h with h; rw [h]; rfl
def ReadLate (w w1 wc : World) (v : Val) : Prop :=
  Three wc w.heap.size (.bool false) (.string ⟨#[]⟩) (.int .i64 0) ∧ Three wc w1.heap.size (.bool v.1) (.string ⟨v.2.1.toArray⟩) (.int .i64 v.2.2) ∧ Below w.heap.size w wc
def ReadEnd (l : List UInt8) (w : World) (e : Ending) (w' : World) : Prop :=
  e = .returned (.tuple #[valV (readP l).1, .bool (readP l).2]) ∧ Below w.heap.size w w'
set_option maxHeartbeats 6000000 in
set_option maxRecDepth 100000 in
theorem read_any (s : ByteArray) (w : World) (hE : Env w) (hs : s.size ≤ 140737488351232) :
    Calls Tryz.prog 135 #[.string s] w (ReadEnd s.data.toList w) := by
  have HE := Lib.hid hE; clear hE
  have hl : s.data.toList.length = s.size := by rw [Array.length_toList]; rfl
  by_cases hm : (may s.data.toList).2 = true
  · by_cases h30 : s.size ≤ 30
    · have hr := Lib.hid (show readP s.data.toList = _ by unfold readP; rw [if_pos ⟨hm, by rw [hl]; exact h30⟩])
      have hasc := Lib.hid (may_ascii s.data.toList hm)
      obtain ⟨c1, c2, c3⟩ := made_cut (parts_made s.data.toList hm)
      have hmade := parts_made s.data.toList hm
      obtain ⟨t1, t2⟩ := trim_unsign s.data.toList
      have hwp := wp_len s.data.toList hm
      rw [hl] at hwp
      have HMd := Lib.hid hmade
      have C1 := Lib.hid c1; have C2 := Lib.hid c2; have C3 := Lib.hid c3; have T1 := Lib.hid t1; have T2 := Lib.hid t2
      have HM := Lib.hid hm; clear hm hl hmade c1 c2 c3 t1 t2
      go_enter Tryz.func135, Tryz.ntmps135
      go_wp2_with fail
      refine (may_any s _ hs).mono ?_
      rintro e w1 ⟨rfl, hb⟩
      rw [HM.out]
      obtain ⟨hc, hf⟩ := bcell hb
      have hz : w.heap.size < w1.heap.size := by have := hb.size; simp at this; omega
      have R1 := Lib.hid ((three_new w (.bool false) (.string ⟨#[]⟩) (.int .i64 0) 135).below hb)
      have HB1 := Lib.hid (below_after hb); clear hb
      go_wp2_with fail
      refine (Tryz.strings_CutPrefix s ⟨#[45]⟩ _).mono ?_
      rintro e w' ⟨rfl, rfl⟩
      go_wp2_with fail
      rw [T1.out, T2.out]
      obtain ⟨u, hu, hus⟩ := named (unsign s.data.toList)
      rw [← hu]
      have hul := unsign_len s.data.toList
      have hu2 : u.data.toList = unsign s.data.toList := by rw [hu]
      have HU := Lib.hid hu2; clear hu hu2
      have hsl : s.data.toList.length = s.size := by rw [Array.length_toList]; rfl
      refine (Tryz.strings_ToLower_ascii u _ (by omega) (fun j b hb => by rw [HU.out] at hb; exact hasc.out b (List.mem_of_getElem? hb))).mono ?_
      rintro e w2 ⟨rfl, hb⟩
      rw [HU.out]
      obtain ⟨lo, hlo, hlos⟩ := named (Lib.toLowerA (unsign s.data.toList))
      rw [← hlo]
      have hlo2 : lo.data.toList = Lib.toLowerA (unsign s.data.toList) := by rw [hlo]
      have HLo := Lib.hid hlo2; clear hlo hlo2
      have hlo30 : lo.size ≤ 30 := by rw [hlos, Lib.toLowerA, List.length_map]; omega
      have HSL := Lib.hid hsl
      clear hlos hus hul hsl
      obtain ⟨hc2, hf2⟩ := bcell hb
      have hz2 : w1.heap.size < w2.heap.size := by have := hb.size; simp at this; omega
      have V2 := Lib.hid ((three_new w1 _ _ _ 135).below hb)
      have R2 := Lib.hid ((R1.out.alloc _).below hb)
      have HB2 := Lib.hid (below_after hb); clear hb hc hf hc2 hf2 R1
      obtain ⟨vc0, vc1, vc2, vf0, vf1, vf2, vlt⟩ := V2.out
      have HE2 := Lib.hid ((HE.out.below HB1.out).below HB2.out)
      go_wp2_with fail
      obtain ⟨m, hmx⟩ := HE2.out.mx
      refine (Tryz.strings_Cut lo ⟨#[101]⟩ m _ (by omega) hmx).mono ?_
      rintro e w' ⟨rfl, n1, rfl⟩
      rw [HLo.out, C1.out]
      obtain ⟨hd, hhd, hhds⟩ := named (Lib.cut (Lib.toLowerA (unsign s.data.toList)) [101]).1
      rw [← hhd]
      have hhd2 : hd.data.toList = (Lib.cut (Lib.toLowerA (unsign s.data.toList)) [101]).1 := by rw [hhd]
      have HHd := Lib.hid hhd2; clear hhd hhd2
      have hhd30 : hd.size ≤ 30 := by
        rw [hhds]
        have := cut_len (Lib.toLowerA (unsign s.data.toList)) [101]
        rw [← HLo.out] at this ⊢
        have e : lo.data.toList.length = lo.size := by rw [Array.length_toList]; rfl
        omega
      clear hhds
      go_wp2_with fail
      have hmx' : (w2.drewN n1).cell? ⟨0, 0, none⟩ = some (.int .i64 m) := by simp [hmx]
      refine (Tryz.strings_Cut hd ⟨#[46]⟩ m _ (by omega) hmx').mono ?_
      rintro e w' ⟨rfl, n2, rfl⟩
      rw [HHd.out, C2.out, C3.out]
      obtain ⟨W, hW, hWs⟩ := named (parts s.data.toList).1
      obtain ⟨P, hP, hPs⟩ := named (parts s.data.toList).2.1
      obtain ⟨T, hT, hTs⟩ := named (parts s.data.toList).2.2.1
      rw [← hW, ← hP, ← hT]
      have hW2 : W.data.toList = (parts s.data.toList).1 := by rw [hW]
      have hP2 : P.data.toList = (parts s.data.toList).2.1 := by rw [hP]
      have hT2 : T.data.toList = (parts s.data.toList).2.2.1 := by rw [hT]
      have HW := Lib.hid hW2; have HP := Lib.hid hP2; have HT := Lib.hid hT2
      rw [← hWs, ← hPs, ← hTs] at hwp
      have HPs := Lib.hid hPs
      clear hW2 hP2 hT2 hW hP hT hWs hPs hTs hmx hmx'
      have HE3 := Lib.hid ((HE2.out.below (below_drewN w2 n1)).below (below_drewN _ n2))
      go_upto_if 49 with (fail)
      go_cut [7] (fun v7 wc => v7 = .string hd ∧ ReadMid w w1 wc (decide (s.data.toList.head? = some 45)) (expOf (parts s.data.toList).2.2.1))
      case first =>
        by_cases ht : (parts s.data.toList).2.2.1 = []
        · have hte : (!T.toList.isEmpty) = false := by rw [ByteArray.toList_eq, HT.out, ht]; rfl
          have hx := Lib.hid (show expOf (parts s.data.toList).2.2.1 = 0 by rw [ht]; rfl)
          clear ht
          rw [hte]
          go_wp2
          go_meet
          case rel =>
            rw [hx.out]
            exact ⟨rfl, R2.out.drewN _, V2.out.drewN _, below_then (below_then HB1.out HB2.out) (below_drewN _ _)⟩
        · have hte : (!T.toList.isEmpty) = true := by
            rw [ByteArray.toList_eq, HT.out]
            cases h : (parts s.data.toList).2.2.1 with | nil => exact absurd h ht | cons x y => rfl
          have htd := (HMd.out.ht).resolve_left ht
          have hsyn := atoi_digs _ htd.1 htd.2
          clear htd
          rcases hat : Lib.atoiAll (parts s.data.toList).2.2.1 with v | _ | _
          · have hx := Lib.hid (show expOf (parts s.data.toList).2.2.1 = v by simp [expOf, ht, hat])
            have HA := Lib.hid (show Lib.atoiAll T.data.toList = .ok v by rw [HT.out]; exact hat)
            clear hsyn hat ht
            rw [hte]
            go_wp2_with fail
            refine (Tryz.strconv_Atoi_ok T (by omega) v HA.out _).mono ?_
            rintro e w3 ⟨rfl, hw3⟩
            have hb3 := Lib.hid (atoi_below hw3)
            clear hw3
            have V3 := Lib.hid ((V2.out.drewN (n1 + n2)).below hb3.out)
            have R3 := Lib.hid ((R2.out.drewN (n1 + n2)).below hb3.out)
            clear vc0 vc1 vc2 vf0 vf1 vf2
            obtain ⟨vc0, vc1, vc2, vf0, vf1, vf2, vlt3⟩ := V3.out
            go_wp2
            go_meet
            case rel =>
              rw [hx.out]
              have hbb := below_then (below_then (below_then HB1.out HB2.out) (below_drewN _ _)) hb3.out
              exact ⟨rfl, R3.out.far (Nat.ne_of_gt hz) _, V3.out.set2 _, hbb.setCell (Nat.le_of_lt hz) _⟩
          · rw [hat] at hsyn; cases hsyn
          · have hx := Lib.hid (show expOf (parts s.data.toList).2.2.1 = (if (parts s.data.toList).2.2.1.head? = some 45 then -1099511627776 else 1099511627776) by simp [expOf, ht, hat])
            have HA := Lib.hid (show Lib.atoiAll T.data.toList = .range by rw [HT.out]; exact hat)
            clear hsyn hat
            obtain ⟨ev, hev, hev2⟩ := HE3.out.er
            rw [hte]
            go_wp2_with fail
            refine (Tryz.strconv_Atoi_range T (by omega) HA.out ev _ (by simpa using hev) hev2).mono ?_
            rintro e w3 ⟨N, rfl, hN, hNc, hb⟩
            have hb3 := Lib.hid hb; clear hb hN hNc hev hev2
            have V3 := Lib.hid ((V2.out.drewN (n1 + n2)).below hb3.out)
            have R3 := Lib.hid ((R2.out.drewN (n1 + n2)).below hb3.out)
            clear vc0 vc1 vc2 vf0 vf1 vf2
            obtain ⟨vc0, vc1, vc2, vf0, vf1, vf2, vlt3⟩ := V3.out
            have hT0 : 0 < T.size := by
              rcases Nat.eq_zero_or_pos T.size with h | h
              · exfalso; apply ht; rw [← HT.out]; apply List.eq_nil_of_length_eq_zero; rw [Array.length_toList]; exact h
              · exact h
            have hh : (T[0].toNat : Int) = 45 ↔ (parts s.data.toList).2.2.1.head? = some 45 := by
              rw [← HT.out]; exact head45 T hT0
            clear ht
            by_cases h45 : (T[0].toNat : Int) = 45
            · have hx2 := Lib.hid (hx.out.trans (if_pos (hh.1 h45)))
              have b1 : ((T[0].toNat : Int) == 45) = true := beq_iff_eq.2 h45
              clear hh hx h45
              go_wp2
              go_meet
              case rel =>
                rw [hx2.out]
                have hbb := below_then (below_then (below_then HB1.out HB2.out) (below_drewN _ _)) hb3.out
                exact ⟨rfl, R3.out.far (Nat.ne_of_gt hz) _, V3.out.set2 _, hbb.setCell (Nat.le_of_lt hz) _⟩
            · have hx2 := Lib.hid (hx.out.trans (if_neg (fun h => h45 (hh.2 h))))
              have b1 : ((T[0].toNat : Int) == 45) = false := beq_eq_false_iff_ne.2 h45
              clear hh hx h45
              go_wp2
              go_meet
              case rel =>
                rw [hx2.out]
                have hbb := below_then (below_then (below_then HB1.out HB2.out) (below_drewN _ _)) hb3.out
                exact ⟨rfl, R3.out.far (Nat.ne_of_gt hz) _, V3.out.set2 _, hbb.setCell (Nat.le_of_lt hz) _⟩
      case rest =>
      obtain ⟨rfl, hR, hV, hB⟩ := hcut
      generalize expOf (parts s.data.toList).2.2.1 = x at *
      have R4 := Lib.hid hR; have V4 := Lib.hid hV; have B4 := Lib.hid hB
      clear vc0 vc1 vc2 vf0 vf1 vf2 vlt HE3 R2 V2 HB2 HB1 HE2 HHd HLo HU C1 C2 C3 T1 T2 hasc HMd HM hlo30 hhd30 hR hV hB HT hz2
      have hwpl : (W ++ P).data.toList = (parts s.data.toList).1 ++ (parts s.data.toList).2.1 := by rw [ByteArray.data_append, Array.toList_append, HW.out, HP.out]
      have HWP := Lib.hid hwpl; clear hwpl
      go_wp2_with fail
      refine (Tryz.strings_TrimLeft_one (W ++ P) 48 (by decide) _).mono ?_
      rintro e w' ⟨rfl, rfl⟩
      rw [HWP.out]
      obtain ⟨al, hal, hals⟩ := named (Lib.trimLeftB ((parts s.data.toList).1 ++ (parts s.data.toList).2.1) 48)
      rw [← hal]
      have hal2 : al.data.toList = Lib.trimLeftB ((parts s.data.toList).1 ++ (parts s.data.toList).2.1) 48 := by rw [hal]
      have hal30 : al.size ≤ 30 := by
        have h1 : (Lib.trimLeftB ((parts s.data.toList).1 ++ (parts s.data.toList).2.1) 48).length ≤ (W ++ P).data.toList.length := by rw [HWP.out]; exact (List.dropWhile_sublist _).length_le
        have h2 : (W ++ P).data.toList.length = W.size + P.size := by rw [Array.length_toList]; exact ByteArray.size_append
        omega
      have HAl := Lib.hid hal2; have HAs := Lib.hid hals; clear hal2 hal hals
      go_wp2_with fail
      refine (Tryz.strings_TrimRight_one al 48 (by decide) _ (by omega)).mono ?_
      rintro e w' ⟨rfl, rfl⟩
      rw [HAl.out]
      obtain ⟨dg, hdg, hdgs⟩ := named (Lib.trimRightB (Lib.trimLeftB ((parts s.data.toList).1 ++ (parts s.data.toList).2.1) 48) 48)
      rw [← hdg]
      have hdg2 : dg.data.toList = Lib.trimRightB (Lib.trimLeftB ((parts s.data.toList).1 ++ (parts s.data.toList).2.1) 48) 48 := by rw [hdg]
      have hdg30 : dg.size ≤ al.size := by
        rw [hdgs, HAs.out]
        unfold Lib.trimRightB
        rw [List.length_reverse]
        refine Nat.le_trans (List.dropWhile_sublist _).length_le ?_
        rw [List.length_reverse]; exact Nat.le_refl _
      have HDg := Lib.hid hdg2; have HDs := Lib.hid hdgs; clear hdg2 hdg hdgs
      have V5 := Lib.hid (V4.out.set1 (.string dg))
      obtain ⟨vc0, vc1, vc2, vf0, vf1, vf2, vlt⟩ := V4.out
      have hPz : P.size ≤ 30 := by omega
      have hr2 := hr.out
      rw [← HDg.out, ← HAl.out] at hr2
      have e1 : (al.data.toList.length : Int) = al.size := by rw [Array.length_toList]; rfl
      have e2 : (dg.data.toList.length : Int) = dg.size := by rw [Array.length_toList]; rfl
      have e3 : ((parts s.data.toList).2.1.length : Int) = P.size := by rw [HPs.out]
      rw [e1, e2, e3] at hr2
      have HR := Lib.hid hr2; clear hr2 hr e1 e2 e3
      go_upto_if 86 with (fail)
      go_cut [7] (fun v7 wc => v7 = .string hd ∧ ReadLate w w1 wc (readP s.data.toList).1 ∧ Hid ((readP s.data.toList).2 = true))
      case first =>
        by_cases hd0 : dg.data.toList = []
        · have HR2 := Lib.hid (HR.out.trans (if_pos hd0)); clear HR HDg HDs hwp
          have hdb : dg.toList.isEmpty = true := by rw [ByteArray.toList_eq, hd0]; rfl
          clear HAl HAs HWP HW HP HPs hd0
          rw [hdb]
          go_wp2
          go_meet
          case rel =>
            rw [HR2.out]
            refine ⟨rfl, ⟨?_, ?_, ?_⟩, rfl⟩
            · exact (((((R4.out.far (Nat.ne_of_gt hz) _).far (Nat.ne_of_gt hz) _).far (Nat.ne_of_gt hz) _).far (Nat.ne_of_gt hz) _).far (Nat.ne_of_gt hz) _)
            · exact ((((V5.out.set2 _).set0 _).set1 _).set2 _)
            · exact by repeat (first | exact B4.out | refine Below.setCell ?_ (by first | exact Nat.le_refl _ | exact Nat.le_of_lt hz) _)
        · have hdb : dg.toList.isEmpty = false := by rw [ByteArray.toList_eq]; cases h : dg.data.toList with | nil => exact absurd h hd0 | cons x y => rfl
          have HR2 := Lib.hid (HR.out.trans (if_neg hd0)); clear HR hd0 HDg HDs hwp
          clear HAl HAs HWP HW HP HPs
          rw [hdb]
          go_wp2
          go_meet
          case rel =>
            rw [HR2.out]
            refine ⟨rfl, ⟨?_, ?_, ?_⟩, rfl⟩
            · exact ((R4.out.far (Nat.ne_of_gt hz) _).far (Nat.ne_of_gt hz) _)
            · have h := V5.out.set2 (.int .i64 (wrap64 (x + ((al.size : Int) - dg.size - P.size))))
              simpa [mk_of] using h
            · exact by repeat (first | exact B4.out | refine Below.setCell ?_ (by first | exact Nat.le_refl _ | exact Nat.le_of_lt hz) _)
      case rest =>
      obtain ⟨rfl, ⟨hR, hV, hB⟩, HK⟩ := hcut
      clear vc0 vc1 vc2 vf0 vf1 vf2 vlt V5 V4 R4 B4 HR HDg HDs
      obtain ⟨rc0, rc1, rc2, rf0, rf1, rf2, rlt⟩ := hR
      obtain ⟨vc0, vc1, vc2, vf0, vf1, vf2, vlt⟩ := hV
      have B4 := Lib.hid hB; clear hB
      have ne1 : ¬ w.heap.size = w1.heap.size := by omega
      have ne2 : ¬ w1.heap.size = w.heap.size := by omega
      go_wp2_with fail
      refine bodyPost_ret (v := .tuple #[valV (readP s.data.toList).1, .bool true]) ?_ rfl ?_
      · simp [results, Tryz.results135, go_sem, rc0, rc1, rc2, ne1, ne2, rf0, rf1, rf2, vf0, vf1, vf2, vc0, vc1, vc2, valV, str]
      · refine ⟨by rw [HK.out], ?_⟩
        exact by repeat (first | exact B4.out | refine Below.setCell ?_ (by first | exact Nat.le_refl _ | exact Nat.le_of_lt hz) _)
    · have hr := Lib.hid (show readP s.data.toList = (zeroV, false) by unfold readP; rw [if_neg]; rw [hl]; exact fun h => h30 h.2)
      have h30' : 30 < s.size := by omega
      have HM := Lib.hid hm; clear hm hl h30
      go_enter Tryz.func135, Tryz.ntmps135
      go_wp2_with fail
      refine (may_any s _ hs).mono ?_
      rintro e w' ⟨rfl, hb⟩
      rw [HM.out]
      obtain ⟨hc, hf⟩ := bcell hb
      have hz : w.heap.size < w'.heap.size := by have := hb.size; simp at this; omega
      have HB := Lib.hid hb; clear hb
      go_wp2
      refine bodyPost_ret (v := .tuple #[valV zeroV, .bool false]) (by simp [results, Tryz.results135, go_sem, valV, zeroV, str, hc, hz]) rfl ⟨by rw [hr.out], ?_⟩
      exact (((below_after HB.out).setCell (Nat.le_refl _) _).setCell (Nat.le_refl _) _).setCell (Nat.le_refl _) _
  · have hr := Lib.hid (show readP s.data.toList = (zeroV, false) by unfold readP; rw [if_neg]; exact fun h => hm h.1)
    have hmf : (may s.data.toList).2 = false := by simpa using hm
    have HM := Lib.hid hmf; clear hm hl hmf
    go_enter Tryz.func135, Tryz.ntmps135
    go_wp2_with fail
    refine (may_any s _ hs).mono ?_
    rintro e w' ⟨rfl, hb⟩
    rw [HM.out]
    obtain ⟨hc, hf⟩ := bcell hb
    have hz : w.heap.size < w'.heap.size := by have := hb.size; simp at this; omega
    have HB := Lib.hid hb; clear hb
    go_wp2
    refine bodyPost_ret (v := .tuple #[valV zeroV, .bool false]) (by simp [results, Tryz.results135, go_sem, valV, zeroV, str, hc, hz]) rfl ⟨by rw [hr.out], ?_⟩
    exact (((below_after HB.out).setCell (Nat.le_refl _) _).setCell (Nat.le_refl _) _).setCell (Nat.le_refl _) _
end Go.Proofs.YtmniblcooficgaaGreatDoor
