import Derived.Test.YtffpponklejidaaGreatDoorZRGraphBuilds1
import Derived.Shelf.GgClosure.StringsIndexFuncTop
import Derived.Ground.GgwProg
import Derived.Shelf.Strings.SlTrimAscii
import Derived.Lib.IndexBytes
import Derived.Shelf.Strings.Search2
import Derived.Lib.SplitLaws
import Derived.Laws.RangeString
import Derived.Laws.RangeAny
import Derived.Lib.SliceRun
import Derived.Shelf.Strconv.AtoiAll
import Derived.Shelf.Strconv.Itoa3
import Derived.Shelf.Strings.Count
import Derived.Shelf.Strings.OnBuilder
import Derived.Shelf.Strings.BuilderK
import Derived.Test.YtffpponklejidaaGreatDoorProg
import Derived.WalkKit
import Derived.WalkSpells
import Derived.KernelRfl
import Derived.Below
import Derived.MapKept
import Derived.ChangeMaps3
import Derived.Carry
import Derived.Laws.CopyRow
import Derived.Laws.MakeOwn
import Derived.Laws.Tables
import Derived.Great.BuildSlice
import Derived.DataElems
import Derived.Laws.AppendOwn
import Derived.Laws.Entries
import Derived.Laws.Cells
import Derived.Laws.Append
import Derived.Laws.BytesString
import Derived.Calls
import Derived.Orders
import Derived.RowKit
import Derived.Laws.World
import GoSem.Core.Region
import GoSem.Core.View
import GoSem.Op.String
import GoSem.Core.Code
set_option linter.unusedVariables false
set_option linter.unusedSimpArgs false
namespace Go.Proofs
open Go.Shelf
def Tryz.laysGw15_ren : Go.Shelf.Ren := ⟨fun | 15 => 151 | 20 => 171 | n => n, fun | 9 => 9 | 23 => 174 | 3 => 3 | 4 => 4 | 0 => 0 | 21 => 21 | n => n, fun | n => n⟩
theorem Tryz.laysGw15 : Go.Proofs.LaysGw.n15 Tryz.prog Tryz.laysGw15_ren := {
  mixed := by kernel_rfl
  f15 := Tryz.func151.trans (congrArg some (by kernel_rfl))
  f20 := Tryz.func171.trans (congrArg some (by kernel_rfl))
  t0 := Tryz.underlying0
  a0 := Tryz.isAgg0
  z0 := Tryz.sizeOf0
  v0 := Tryz.zeroValue0
  i0 := by kernel_rfl
  t3 := Tryz.underlying3
  a3 := Tryz.isAgg3
  z3 := Tryz.sizeOf3
  v3 := Tryz.zeroValue3
  i3 := by kernel_rfl
  t4 := Tryz.underlying4
  a4 := Tryz.isAgg4
  z4 := Tryz.sizeOf4
  v4 := Tryz.zeroValue4
  i4 := by kernel_rfl
  t9 := Tryz.underlying9
  a9 := Tryz.isAgg9
  z9 := Tryz.sizeOf9
  v9 := Tryz.zeroValue9
  i9 := by kernel_rfl
  t21 := Tryz.underlying21
  a21 := Tryz.isAgg21
  z21 := Tryz.sizeOf21
  v21 := Tryz.zeroValue21
  i21 := by kernel_rfl
  t23 := Tryz.underlying174
  a23 := Tryz.isAgg174
  z23 := Tryz.sizeOf174
  v23 := Tryz.zeroValue174
  i23 := by kernel_rfl }
def Tryz.lays160_ren : Go.Shelf.Ren := ⟨fun | 160 => 98 | 232 => 121 | 231 => 120 | 227 => 122 | 234 => 124 | 233 => 123 | 236 => 126 | 235 => 125 | 228 => 158 | 271 => 160 | 151 => 159 | 197 => 132 | 120 => 178 | 152 => 177 | 260 => 163 | 137 => 190 | 119 => 191 | 224 => 136 | 225 => 135 | 217 => 134 | 266 => 164 | n => n, fun | 9 => 9 | 4 => 4 | 3 => 3 | 5 => 5 | 117 => 145 | 116 => 144 | 0 => 0 | 124 => 148 | 21 => 21 | 105 => 150 | 46 => 154 | 119 => 202 | 139 => 205 | 138 => 204 | n => n, fun | 3 => 6 | 4 => 7 | n => n⟩
theorem Tryz.lays160 : Go.Proofs.Lays.n160 Tryz.prog Tryz.lays160_ren := {
  mixed := by kernel_rfl
  f119 := Tryz.func191.trans (congrArg some (by kernel_rfl))
  f120 := Tryz.func178.trans (congrArg some (by kernel_rfl))
  f137 := Tryz.func190.trans (congrArg some (by kernel_rfl))
  f151 := Tryz.func159.trans (congrArg some (by kernel_rfl))
  f152 := Tryz.func177.trans (congrArg some (by kernel_rfl))
  f160 := Tryz.func98.trans (congrArg some (by kernel_rfl))
  f197 := Tryz.func132.trans (congrArg some (by kernel_rfl))
  f217 := Tryz.func134.trans (congrArg some (by kernel_rfl))
  f224 := Tryz.func136.trans (congrArg some (by kernel_rfl))
  f225 := Tryz.func135.trans (congrArg some (by kernel_rfl))
  f227 := Tryz.func122.trans (congrArg some (by kernel_rfl))
  f228 := Tryz.func158.trans (congrArg some (by kernel_rfl))
  f231 := Tryz.func120.trans (congrArg some (by kernel_rfl))
  f232 := Tryz.func121.trans (congrArg some (by kernel_rfl))
  f233 := Tryz.func123.trans (congrArg some (by kernel_rfl))
  f234 := Tryz.func124.trans (congrArg some (by kernel_rfl))
  f235 := Tryz.func125.trans (congrArg some (by kernel_rfl))
  f236 := Tryz.func126.trans (congrArg some (by kernel_rfl))
  f260 := Tryz.func163.trans (congrArg some (by kernel_rfl))
  f266 := Tryz.func164.trans (congrArg some (by kernel_rfl))
  f271 := Tryz.func160.trans (congrArg some (by kernel_rfl))
  t0 := Tryz.underlying0
  a0 := Tryz.isAgg0
  z0 := Tryz.sizeOf0
  v0 := Tryz.zeroValue0
  t3 := Tryz.underlying3
  a3 := Tryz.isAgg3
  z3 := Tryz.sizeOf3
  v3 := Tryz.zeroValue3
  t4 := Tryz.underlying4
  a4 := Tryz.isAgg4
  z4 := Tryz.sizeOf4
  v4 := Tryz.zeroValue4
  t5 := Tryz.underlying5
  a5 := Tryz.isAgg5
  z5 := Tryz.sizeOf5
  v5 := Tryz.zeroValue5
  t9 := Tryz.underlying9
  a9 := Tryz.isAgg9
  z9 := Tryz.sizeOf9
  v9 := Tryz.zeroValue9
  t21 := Tryz.underlying21
  a21 := Tryz.isAgg21
  z21 := Tryz.sizeOf21
  v21 := Tryz.zeroValue21
  t46 := Tryz.underlying154
  a46 := Tryz.isAgg154
  z46 := Tryz.sizeOf154
  v46 := Tryz.zeroValue154
  t105 := Tryz.underlying150
  a105 := Tryz.isAgg150
  z105 := Tryz.sizeOf150
  v105 := Tryz.zeroValue150
  t116 := Tryz.underlying144
  a116 := Tryz.isAgg144
  z116 := Tryz.sizeOf144
  t117 := Tryz.underlying145
  a117 := Tryz.isAgg145
  z117 := Tryz.sizeOf145
  v117 := Tryz.zeroValue145
  t119 := Tryz.underlying202
  a119 := Tryz.isAgg202
  z119 := Tryz.sizeOf202
  t124 := Tryz.underlying148
  a124 := Tryz.isAgg148
  z124 := Tryz.sizeOf148
  v124 := Tryz.zeroValue148
  t138 := Tryz.underlying204
  a138 := Tryz.isAgg204
  z138 := Tryz.sizeOf204
  v138 := Tryz.zeroValue204
  t139 := Tryz.underlying205
  a139 := Tryz.isAgg205
  z139 := Tryz.sizeOf205
  v139 := Tryz.zeroValue205
  g3 := by kernel_rfl
  g4 := by kernel_rfl }
def Tryz.lays219_ren : Go.Shelf.Ren := ⟨fun | 219 => 107 | 217 => 134 | 225 => 135 | 224 => 136 | 267 => 137 | 266 => 164 | 314 => 165 | n => n, fun | 9 => 9 | 3 => 3 | 4 => 4 | 5 => 5 | 46 => 154 | 146 => 185 | 51 => 164 | n => n, fun | 1 => 1 | n => n⟩
theorem Tryz.lays219 : Go.Proofs.Lays.n219 Tryz.prog Tryz.lays219_ren := {
  mixed := by kernel_rfl
  f217 := Tryz.func134.trans (congrArg some (by kernel_rfl))
  f219 := Tryz.func107.trans (congrArg some (by kernel_rfl))
  f224 := Tryz.func136.trans (congrArg some (by kernel_rfl))
  f225 := Tryz.func135.trans (congrArg some (by kernel_rfl))
  f266 := Tryz.func164.trans (congrArg some (by kernel_rfl))
  f267 := Tryz.func137.trans (congrArg some (by kernel_rfl))
  f314 := Tryz.func165.trans (congrArg some (by kernel_rfl))
  t3 := Tryz.underlying3
  a3 := Tryz.isAgg3
  z3 := Tryz.sizeOf3
  v3 := Tryz.zeroValue3
  t4 := Tryz.underlying4
  a4 := Tryz.isAgg4
  z4 := Tryz.sizeOf4
  v4 := Tryz.zeroValue4
  t5 := Tryz.underlying5
  a5 := Tryz.isAgg5
  z5 := Tryz.sizeOf5
  v5 := Tryz.zeroValue5
  t9 := Tryz.underlying9
  a9 := Tryz.isAgg9
  z9 := Tryz.sizeOf9
  v9 := Tryz.zeroValue9
  t46 := Tryz.underlying154
  a46 := Tryz.isAgg154
  z46 := Tryz.sizeOf154
  v46 := Tryz.zeroValue154
  t51 := Tryz.underlying164
  a51 := Tryz.isAgg164
  z51 := Tryz.sizeOf164
  v51 := Tryz.zeroValue164
  t146 := Tryz.underlying185
  a146 := Tryz.isAgg185
  z146 := Tryz.sizeOf185
  v146 := Tryz.zeroValue185
  g1 := by kernel_rfl }
def Tryz.laysC172_ren : Go.Shelf.Ren := ⟨fun | 172 => 91 | 244 => 109 | 245 => 110 | 247 => 139 | 279 => 140 | 280 => 141 | 281 => 142 | 282 => 143 | 287 => 166 | 316 => 167 | 171 => 44 | 205 => 168 | 321 => 179 | 322 => 180 | 243 => 66 | 246 => 92 | 283 => 111 | 284 => 112 | 285 => 113 | 286 => 114 | 129 => 145 | 317 => 144 | 318 => 146 | 319 => 147 | 320 => 148 | 337 => 169 | 338 => 170 | n => n, fun | 9 => 9 | 3 => 3 | 75 => 82 | 76 => 83 | 4 => 4 | 5 => 5 | 167 => 156 | 37 => 44 | 0 => 0 | 85 => 157 | 2 => 2 | 168 => 159 | 53 => 133 | 175 => 187 | 46 => 154 | 210 => 190 | 127 => 105 | 145 => 209 | 143 => 207 | 21 => 21 | 171 => 132 | 173 => 136 | 212 => 163 | 51 => 164 | 20 => 20 | 213 => 165 | 232 => 210 | 233 => 211 | 80 => 86 | n => n, fun | 15 => 4 | 16 => 5 | 17 => 2 | 18 => 8 | 19 => 9 | n => n⟩
theorem Tryz.laysC172 : Go.Proofs.LaysC.n172 Tryz.prog Tryz.laysC172_ren := {
  mixed := by kernel_rfl
  f129 := Tryz.func145.trans (congrArg some (by kernel_rfl))
  f171 := Tryz.func44.trans (congrArg some (by kernel_rfl))
  f172 := Tryz.func91.trans (congrArg some (by kernel_rfl))
  f205 := Tryz.func168.trans (congrArg some (by kernel_rfl))
  f243 := Tryz.func66.trans (congrArg some (by kernel_rfl))
  f244 := Tryz.func109.trans (congrArg some (by kernel_rfl))
  f245 := Tryz.func110.trans (congrArg some (by kernel_rfl))
  f246 := Tryz.func92.trans (congrArg some (by kernel_rfl))
  f247 := Tryz.func139.trans (congrArg some (by kernel_rfl))
  f279 := Tryz.func140.trans (congrArg some (by kernel_rfl))
  f280 := Tryz.func141.trans (congrArg some (by kernel_rfl))
  f281 := Tryz.func142.trans (congrArg some (by kernel_rfl))
  f282 := Tryz.func143.trans (congrArg some (by kernel_rfl))
  f283 := Tryz.func111.trans (congrArg some (by kernel_rfl))
  f284 := Tryz.func112.trans (congrArg some (by kernel_rfl))
  f285 := Tryz.func113.trans (congrArg some (by kernel_rfl))
  f286 := Tryz.func114.trans (congrArg some (by kernel_rfl))
  f287 := Tryz.func166.trans (congrArg some (by kernel_rfl))
  f316 := Tryz.func167.trans (congrArg some (by kernel_rfl))
  f317 := Tryz.func144.trans (congrArg some (by kernel_rfl))
  f318 := Tryz.func146.trans (congrArg some (by kernel_rfl))
  f319 := Tryz.func147.trans (congrArg some (by kernel_rfl))
  f320 := Tryz.func148.trans (congrArg some (by kernel_rfl))
  f321 := Tryz.func179.trans (congrArg some (by kernel_rfl))
  f322 := Tryz.func180.trans (congrArg some (by kernel_rfl))
  f337 := Tryz.func169.trans (congrArg some (by kernel_rfl))
  f338 := Tryz.func170.trans (congrArg some (by kernel_rfl))
  t0 := Tryz.underlying0
  a0 := Tryz.isAgg0
  z0 := Tryz.sizeOf0
  v0 := Tryz.zeroValue0
  t2 := Tryz.underlying2
  a2 := Tryz.isAgg2
  z2 := Tryz.sizeOf2
  v2 := Tryz.zeroValue2
  t3 := Tryz.underlying3
  a3 := Tryz.isAgg3
  z3 := Tryz.sizeOf3
  v3 := Tryz.zeroValue3
  t4 := Tryz.underlying4
  a4 := Tryz.isAgg4
  z4 := Tryz.sizeOf4
  v4 := Tryz.zeroValue4
  t5 := Tryz.underlying5
  a5 := Tryz.isAgg5
  z5 := Tryz.sizeOf5
  v5 := Tryz.zeroValue5
  t9 := Tryz.underlying9
  a9 := Tryz.isAgg9
  z9 := Tryz.sizeOf9
  v9 := Tryz.zeroValue9
  t20 := Tryz.underlying20
  a20 := Tryz.isAgg20
  z20 := Tryz.sizeOf20
  v20 := Tryz.zeroValue20
  t21 := Tryz.underlying21
  a21 := Tryz.isAgg21
  z21 := Tryz.sizeOf21
  v21 := Tryz.zeroValue21
  t37 := Tryz.underlying44
  a37 := Tryz.isAgg44
  z37 := Tryz.sizeOf44
  v37 := Tryz.zeroValue44
  t46 := Tryz.underlying154
  a46 := Tryz.isAgg154
  z46 := Tryz.sizeOf154
  v46 := Tryz.zeroValue154
  t51 := Tryz.underlying164
  a51 := Tryz.isAgg164
  z51 := Tryz.sizeOf164
  v51 := Tryz.zeroValue164
  t53 := Tryz.underlying133
  a53 := Tryz.isAgg133
  z53 := Tryz.sizeOf133
  v53 := Tryz.zeroValue133
  t75 := Tryz.underlying82
  a75 := Tryz.isAgg82
  z75 := Tryz.sizeOf82
  v75 := Tryz.zeroValue82
  t76 := Tryz.underlying83
  a76 := Tryz.isAgg83
  z76 := Tryz.sizeOf83
  v76 := Tryz.zeroValue83
  t85 := Tryz.underlying157
  a85 := Tryz.isAgg157
  z85 := Tryz.sizeOf157
  v85 := Tryz.zeroValue157
  t127 := Tryz.underlying105
  a127 := Tryz.isAgg105
  z127 := Tryz.sizeOf105
  v127 := Tryz.zeroValue105
  t143 := Tryz.underlying207
  a143 := Tryz.isAgg207
  z143 := Tryz.sizeOf207
  v143 := Tryz.zeroValue207
  t145 := Tryz.underlying209
  a145 := Tryz.isAgg209
  z145 := Tryz.sizeOf209
  v145 := Tryz.zeroValue209
  t167 := Tryz.underlying156
  a167 := Tryz.isAgg156
  z167 := Tryz.sizeOf156
  v167 := Tryz.zeroValue156
  t168 := Tryz.underlying159
  a168 := Tryz.isAgg159
  z168 := Tryz.sizeOf159
  v168 := Tryz.zeroValue159
  t171 := Tryz.underlying132
  a171 := Tryz.isAgg132
  z171 := Tryz.sizeOf132
  v171 := Tryz.zeroValue132
  t173 := Tryz.underlying136
  a173 := Tryz.isAgg136
  z173 := Tryz.sizeOf136
  v173 := Tryz.zeroValue136
  t175 := Tryz.underlying187
  a175 := Tryz.isAgg187
  z175 := Tryz.sizeOf187
  v175 := Tryz.zeroValue187
  t210 := Tryz.underlying190
  a210 := Tryz.isAgg190
  z210 := Tryz.sizeOf190
  v210 := Tryz.zeroValue190
  t212 := Tryz.underlying163
  a212 := Tryz.isAgg163
  z212 := Tryz.sizeOf163
  v212 := Tryz.zeroValue163
  t213 := Tryz.underlying165
  a213 := Tryz.isAgg165
  z213 := Tryz.sizeOf165
  t232 := Tryz.underlying210
  a232 := Tryz.isAgg210
  z232 := Tryz.sizeOf210
  v232 := Tryz.zeroValue210
  t233 := Tryz.underlying211
  a233 := Tryz.isAgg211
  z233 := Tryz.sizeOf211
  v233 := Tryz.zeroValue211
  g15 := by kernel_rfl
  g16 := by kernel_rfl
  g17 := by kernel_rfl
  g18 := by kernel_rfl
  g19 := by kernel_rfl
  t80 := Tryz.underlying86
  a80 := Tryz.isAgg86
  z80 := Tryz.sizeOf86
  v80 := Tryz.zeroValue86
  i0 := by kernel_rfl
  i2 := by kernel_rfl
  i3 := by kernel_rfl
  i4 := by kernel_rfl
  i5 := by kernel_rfl
  i9 := by kernel_rfl
  i20 := by kernel_rfl
  i21 := by kernel_rfl
  i37 := by kernel_rfl
  i46 := by kernel_rfl
  i51 := by kernel_rfl
  i53 := by kernel_rfl
  i75 := by kernel_rfl
  i76 := by kernel_rfl
  i80 := by kernel_rfl
  i85 := by kernel_rfl
  i127 := by kernel_rfl
  i143 := by kernel_rfl
  i145 := by kernel_rfl
  i167 := by kernel_rfl
  i168 := by kernel_rfl
  i171 := by kernel_rfl
  i173 := by kernel_rfl
  i175 := by kernel_rfl
  i210 := by kernel_rfl
  i212 := by kernel_rfl
  i232 := by kernel_rfl
  i233 := by kernel_rfl
  m15 := by kernel_rfl
  m16 := by kernel_rfl
  m17 := by kernel_rfl
  m18 := by kernel_rfl
  m19 := by kernel_rfl
  c0 := by kernel_rfl
  c2 := by kernel_rfl
  c3 := by kernel_rfl
  c4 := by kernel_rfl
  c5 := by kernel_rfl
  c9 := by kernel_rfl
  c20 := by kernel_rfl
  c21 := by kernel_rfl
  c37 := by kernel_rfl
  c46 := by kernel_rfl
  c51 := by kernel_rfl
  c53 := by kernel_rfl
  c75 := by kernel_rfl
  c76 := by kernel_rfl
  c80 := by kernel_rfl
  c85 := by kernel_rfl
  c127 := by kernel_rfl
  c143 := by kernel_rfl
  c145 := by kernel_rfl
  c167 := by kernel_rfl
  c168 := by kernel_rfl
  c171 := by kernel_rfl
  c173 := by kernel_rfl
  c175 := by kernel_rfl
  c210 := by kernel_rfl
  c212 := by kernel_rfl
  c213 := by kernel_rfl
  c232 := by kernel_rfl
  c233 := by kernel_rfl }
def Tryz.lays171_ren : Go.Shelf.Ren := ⟨fun | 171 => 44 | 243 => 66 | 246 => 92 | 283 => 111 | 284 => 112 | 285 => 113 | 286 => 114 | 129 => 145 | 317 => 144 | 318 => 146 | 319 => 147 | 320 => 148 | 337 => 169 | 338 => 170 | n => n, fun | 3 => 3 | 9 => 9 | 2 => 2 | 4 => 4 | 171 => 132 | 0 => 0 | 53 => 133 | 37 => 44 | 5 => 5 | 173 => 136 | 212 => 163 | 51 => 164 | 20 => 20 | 213 => 165 | 46 => 154 | 232 => 210 | 233 => 211 | n => n, fun | 17 => 2 | 18 => 8 | 19 => 9 | n => n⟩
theorem Tryz.lays171 : Go.Proofs.Lays.n171 Tryz.prog Tryz.lays171_ren := {
  mixed := by kernel_rfl
  f129 := Tryz.func145.trans (congrArg some (by kernel_rfl))
  f171 := Tryz.func44.trans (congrArg some (by kernel_rfl))
  f243 := Tryz.func66.trans (congrArg some (by kernel_rfl))
  f246 := Tryz.func92.trans (congrArg some (by kernel_rfl))
  f283 := Tryz.func111.trans (congrArg some (by kernel_rfl))
  f284 := Tryz.func112.trans (congrArg some (by kernel_rfl))
  f285 := Tryz.func113.trans (congrArg some (by kernel_rfl))
  f286 := Tryz.func114.trans (congrArg some (by kernel_rfl))
  f317 := Tryz.func144.trans (congrArg some (by kernel_rfl))
  f318 := Tryz.func146.trans (congrArg some (by kernel_rfl))
  f319 := Tryz.func147.trans (congrArg some (by kernel_rfl))
  f320 := Tryz.func148.trans (congrArg some (by kernel_rfl))
  f337 := Tryz.func169.trans (congrArg some (by kernel_rfl))
  f338 := Tryz.func170.trans (congrArg some (by kernel_rfl))
  t0 := Tryz.underlying0
  a0 := Tryz.isAgg0
  z0 := Tryz.sizeOf0
  v0 := Tryz.zeroValue0
  t2 := Tryz.underlying2
  a2 := Tryz.isAgg2
  z2 := Tryz.sizeOf2
  v2 := Tryz.zeroValue2
  t3 := Tryz.underlying3
  a3 := Tryz.isAgg3
  z3 := Tryz.sizeOf3
  v3 := Tryz.zeroValue3
  t4 := Tryz.underlying4
  a4 := Tryz.isAgg4
  z4 := Tryz.sizeOf4
  v4 := Tryz.zeroValue4
  t5 := Tryz.underlying5
  a5 := Tryz.isAgg5
  z5 := Tryz.sizeOf5
  v5 := Tryz.zeroValue5
  t9 := Tryz.underlying9
  a9 := Tryz.isAgg9
  z9 := Tryz.sizeOf9
  v9 := Tryz.zeroValue9
  t20 := Tryz.underlying20
  a20 := Tryz.isAgg20
  z20 := Tryz.sizeOf20
  v20 := Tryz.zeroValue20
  t37 := Tryz.underlying44
  a37 := Tryz.isAgg44
  z37 := Tryz.sizeOf44
  v37 := Tryz.zeroValue44
  t46 := Tryz.underlying154
  a46 := Tryz.isAgg154
  z46 := Tryz.sizeOf154
  v46 := Tryz.zeroValue154
  t51 := Tryz.underlying164
  a51 := Tryz.isAgg164
  z51 := Tryz.sizeOf164
  v51 := Tryz.zeroValue164
  t53 := Tryz.underlying133
  a53 := Tryz.isAgg133
  z53 := Tryz.sizeOf133
  v53 := Tryz.zeroValue133
  t171 := Tryz.underlying132
  a171 := Tryz.isAgg132
  z171 := Tryz.sizeOf132
  v171 := Tryz.zeroValue132
  t173 := Tryz.underlying136
  a173 := Tryz.isAgg136
  z173 := Tryz.sizeOf136
  v173 := Tryz.zeroValue136
  t212 := Tryz.underlying163
  a212 := Tryz.isAgg163
  z212 := Tryz.sizeOf163
  v212 := Tryz.zeroValue163
  t213 := Tryz.underlying165
  a213 := Tryz.isAgg165
  z213 := Tryz.sizeOf165
  t232 := Tryz.underlying210
  a232 := Tryz.isAgg210
  z232 := Tryz.sizeOf210
  v232 := Tryz.zeroValue210
  t233 := Tryz.underlying211
  a233 := Tryz.isAgg211
  z233 := Tryz.sizeOf211
  v233 := Tryz.zeroValue211
  g17 := by kernel_rfl
  g18 := by kernel_rfl
  g19 := by kernel_rfl }
def Tryz.lays138_ren : Go.Shelf.Ren := ⟨fun | 138 => 105 | 195 => 131 | 218 => 133 | 143 => 106 | 219 => 107 | 217 => 134 | 225 => 135 | 224 => 136 | 267 => 137 | 266 => 164 | 314 => 165 | n => n, fun | 9 => 9 | 3 => 3 | 4 => 4 | 5 => 5 | 0 => 0 | 46 => 154 | 146 => 185 | 51 => 164 | n => n, fun | 1 => 1 | n => n⟩
theorem Tryz.lays138 : Go.Proofs.Lays.n138 Tryz.prog Tryz.lays138_ren := {
  mixed := by kernel_rfl
  f138 := Tryz.func105.trans (congrArg some (by kernel_rfl))
  f143 := Tryz.func106.trans (congrArg some (by kernel_rfl))
  f195 := Tryz.func131.trans (congrArg some (by kernel_rfl))
  f217 := Tryz.func134.trans (congrArg some (by kernel_rfl))
  f218 := Tryz.func133.trans (congrArg some (by kernel_rfl))
  f219 := Tryz.func107.trans (congrArg some (by kernel_rfl))
  f224 := Tryz.func136.trans (congrArg some (by kernel_rfl))
  f225 := Tryz.func135.trans (congrArg some (by kernel_rfl))
  f266 := Tryz.func164.trans (congrArg some (by kernel_rfl))
  f267 := Tryz.func137.trans (congrArg some (by kernel_rfl))
  f314 := Tryz.func165.trans (congrArg some (by kernel_rfl))
  t0 := Tryz.underlying0
  a0 := Tryz.isAgg0
  z0 := Tryz.sizeOf0
  v0 := Tryz.zeroValue0
  t3 := Tryz.underlying3
  a3 := Tryz.isAgg3
  z3 := Tryz.sizeOf3
  v3 := Tryz.zeroValue3
  t4 := Tryz.underlying4
  a4 := Tryz.isAgg4
  z4 := Tryz.sizeOf4
  v4 := Tryz.zeroValue4
  t5 := Tryz.underlying5
  a5 := Tryz.isAgg5
  z5 := Tryz.sizeOf5
  v5 := Tryz.zeroValue5
  t9 := Tryz.underlying9
  a9 := Tryz.isAgg9
  z9 := Tryz.sizeOf9
  v9 := Tryz.zeroValue9
  t46 := Tryz.underlying154
  a46 := Tryz.isAgg154
  z46 := Tryz.sizeOf154
  v46 := Tryz.zeroValue154
  t51 := Tryz.underlying164
  a51 := Tryz.isAgg164
  z51 := Tryz.sizeOf164
  v51 := Tryz.zeroValue164
  t146 := Tryz.underlying185
  a146 := Tryz.isAgg185
  z146 := Tryz.sizeOf185
  v146 := Tryz.zeroValue185
  g1 := by kernel_rfl }
def Tryz.lays156_ren : Go.Shelf.Ren := ⟨fun | 156 => 69 | 165 => 94 | 166 => 45 | 169 => 47 | 240 => 67 | 241 => 115 | 276 => 93 | 277 => 149 | n => n, fun | 31 => 22 | 9 => 9 | 3 => 3 | 4 => 4 | 0 => 0 | 20 => 20 | 72 => 80 | 76 => 83 | 70 => 78 | 37 => 44 | 75 => 82 | 127 => 105 | 164 => 117 | 5 => 5 | 80 => 86 | n => n, fun | n => n⟩
theorem Tryz.lays156 : Go.Proofs.Lays.n156 Tryz.prog Tryz.lays156_ren := {
  mixed := by kernel_rfl
  f156 := Tryz.func69.trans (congrArg some (by kernel_rfl))
  f165 := Tryz.func94.trans (congrArg some (by kernel_rfl))
  f166 := Tryz.func45.trans (congrArg some (by kernel_rfl))
  f169 := Tryz.func47.trans (congrArg some (by kernel_rfl))
  f240 := Tryz.func67.trans (congrArg some (by kernel_rfl))
  f241 := Tryz.func115.trans (congrArg some (by kernel_rfl))
  f276 := Tryz.func93.trans (congrArg some (by kernel_rfl))
  f277 := Tryz.func149.trans (congrArg some (by kernel_rfl))
  t0 := Tryz.underlying0
  a0 := Tryz.isAgg0
  z0 := Tryz.sizeOf0
  v0 := Tryz.zeroValue0
  t3 := Tryz.underlying3
  a3 := Tryz.isAgg3
  z3 := Tryz.sizeOf3
  v3 := Tryz.zeroValue3
  t4 := Tryz.underlying4
  a4 := Tryz.isAgg4
  z4 := Tryz.sizeOf4
  v4 := Tryz.zeroValue4
  t9 := Tryz.underlying9
  a9 := Tryz.isAgg9
  z9 := Tryz.sizeOf9
  v9 := Tryz.zeroValue9
  t20 := Tryz.underlying20
  a20 := Tryz.isAgg20
  z20 := Tryz.sizeOf20
  v20 := Tryz.zeroValue20
  t31 := Tryz.underlying22
  a31 := Tryz.isAgg22
  z31 := Tryz.sizeOf22
  v31 := Tryz.zeroValue22
  t37 := Tryz.underlying44
  a37 := Tryz.isAgg44
  z37 := Tryz.sizeOf44
  v37 := Tryz.zeroValue44
  t70 := Tryz.underlying78
  a70 := Tryz.isAgg78
  z70 := Tryz.sizeOf78
  v70 := Tryz.zeroValue78
  t72 := Tryz.underlying80
  a72 := Tryz.isAgg80
  z72 := Tryz.sizeOf80
  v72 := Tryz.zeroValue80
  t75 := Tryz.underlying82
  a75 := Tryz.isAgg82
  z75 := Tryz.sizeOf82
  v75 := Tryz.zeroValue82
  t76 := Tryz.underlying83
  a76 := Tryz.isAgg83
  z76 := Tryz.sizeOf83
  v76 := Tryz.zeroValue83
  t127 := Tryz.underlying105
  a127 := Tryz.isAgg105
  z127 := Tryz.sizeOf105
  v127 := Tryz.zeroValue105
  t164 := Tryz.underlying117
  a164 := Tryz.isAgg117
  z164 := Tryz.sizeOf117
  v164 := Tryz.zeroValue117 }
end Go.Proofs
namespace Go.VI
open Go Go.Proofs Go.Shelf Go.RowKit
section
variable {P : Program} {ρ : Ren}
theorem modify_alike {a : Array Obj} {k : Nat} {f g : Obj → Obj} {o : Obj} (h : a[k]? = some o) (e : f o = g o) : a.modify k f = a.modify k g := by
  apply Array.ext_getElem?
  intro i
  rw [Array.getElem?_modify, Array.getElem?_modify]
  by_cases hi : k = i
  · subst hi; rw [if_pos rfl, if_pos rfl, h]; simp [e]
  · rw [if_neg hi, if_neg hi]
theorem modify_id {a : Array Obj} {k : Nat} {g : Obj → Obj} {o : Obj} (h : a[k]? = some o) (e : g o = o) : a = a.modify k g := by
  apply Array.ext_getElem?
  intro i
  rw [Array.getElem?_modify]
  by_cases hi : k = i
  · subst hi; rw [if_pos rfl, h]; simp [e]
  · rw [if_neg hi]
theorem setRow_self {w : World} {A : Nat} {cs : Array Value} {T : TypeId} {fz : Nat × Nat} (h : w.heap[A]? = some (.cells cs T fz)) : w.setRow A cs = w := by
  unfold World.setRow
  rw [← modify_id h rfl]
theorem setCell_row {w : World} {A j : Nat} {cs : Array Value} {T : TypeId} {fz : Nat × Nat} {v : Value} (h : w.heap[A]? = some (.cells cs T fz)) : w.setCell ⟨A, j, none⟩ v = w.setRow A (cs.setIfInBounds j v) := by
  have e : (w.heap.modify A fun | .cells c elem frozen => .cells (if (⟨A, j, none⟩ : Addr).spot.isSome then c else c.setIfInBounds j v) elem frozen | o => o) = w.heap.modify A fun | .cells _ elem frozen => .cells (cs.setIfInBounds j v) elem frozen | o => o := modify_alike h rfl
  unfold World.setRow World.setCell
  exact congrArg (fun hp => ({ w with heap := hp } : World)) e
theorem wpList_append_ran {ops : Array Oper} {rest : List Oper} {o : Oper} {a : Act} {w : World} {Q : Exit → Act → World → Prop} (hgd : o.guard = none) (sl x : Operand) (t u : TypeId)
    (ho : o.op = .call { callee := .builtin .append, args := #[sl, x], argTypes := #[t, u] }) (v s y : Value) (hs : a.eval sl = v) (hx : a.eval x = s) (w2 : World)
    (hr : (Builtin.append_ #[t, u] o.type #[v, s]).run P w = .ok y w2) (h : wpList P ops Q rest (a.put o.dst y) w2) : wpList P ops Q (o :: rest) a w := by
  refine wpList_plain hgd fun K hK => ?_
  unfold Oper.wp execOp
  simp only [ho, resolve, invoke, builtin, Sem.run_bind, Sem.run_pure, Result.andThen_ok, List.map_toArray, List.map_cons, List.map_nil, hs, hx, hr]
  exact hK _ _ h
set_option maxHeartbeats 2000000 in
set_option maxRecDepth 100000 in
theorem bd_write (L : Lays.n166 P ρ) (X : Builder.Extra P ρ) (w : World) (A : Nat) (p : Value) (xa ya : Option Addr) (xn xc yn yc : Nat) (s : ByteArray) (w2 : World) (hbk : w.heap[A]? = some (.cells #[p, .slice xa xn xc] (ρ.t 72) (0, 0))) (hp : p = .pointer none ∨ p = .pointer (some ⟨A, 0, none⟩))
    (hr : (Builtin.append_ #[ρ.t 37, ρ.t 9] (ρ.t 37) #[.slice xa xn xc, .string s]).run P (w.setRow A #[.pointer (some ⟨A, 0, none⟩), .slice xa xn xc]) = .ok (.slice ya yn yc) w2) (hb2 : w2.heap[A]? = some (.cells #[.pointer (some ⟨A, 0, none⟩), .slice xa xn xc] (ρ.t 72) (0, 0))) :
    Calls P (ρ.f 166) #[.pointer (some ⟨A, 0, none⟩), .string s] w fun e w' => (∃ v, e = .returned v) ∧ w' = w2.setRow A #[.pointer (some ⟨A, 0, none⟩), .slice ya yn yc] := by
  have hcc : Calls P (ρ.f 240) #[.pointer (some ⟨A, 0, none⟩)] w fun e w' => e = .returned (.tuple #[]) ∧ w' = w.setRow A #[.pointer (some ⟨A, 0, none⟩), .slice xa xn xc] := by
    have c0 : w.cell? ⟨A, 0, none⟩ = some p := by rw [Lib.cell_of_heap hbk]; rfl
    rcases hp with rfl | rfl
    · refine (Any.Builder_copyCheck_fresh { L with } X.toX72 A w c0 (by simp [World.shape?, hbk]) (Lib.frozen_of_heap hbk 0)).mono ?_
      rintro e w' ⟨rfl, rfl⟩
      exact ⟨rfl, setCell_row hbk⟩
    · refine (Any.Builder_copyCheck_used { L with } X.toX72 A w c0).mono ?_
      rintro e w' ⟨rfl, rfl⟩
      exact ⟨rfl, (setRow_self hbk).symm⟩
  have hb1 : (w.setRow A #[.pointer (some ⟨A, 0, none⟩), .slice xa xn xc]).heap[A]? = some (.cells #[.pointer (some ⟨A, 0, none⟩), .slice xa xn xc] (ρ.t 72) (0, 0)) := setRow_heap w A _ _ _ (0, 0) hbk
  generalize w.setRow A #[.pointer (some ⟨A, 0, none⟩), .slice xa xn xc] = w1 at hcc hb1 hr
  have mixed := L.mixed
  have t72 := L.t72; have a72 := L.a72; have z72 := L.z72; have v72 := L.v72; have u72 := run_underlying L.t72
  have t70 := L.t70; have a70 := L.a70; have z70 := L.z70; have v70 := L.v70; have u70 := run_underlying L.t70
  have t37 := L.t37; have a37 := L.a37; have z37 := L.z37; have v37 := L.v37; have u37 := run_underlying L.t37
  have t3 := L.t3; have a3 := L.a3; have z3 := L.z3; have v3 := L.v3; have u3 := run_underlying L.t3
  have t9 := L.t9; have a9 := L.a9; have z9 := L.z9; have v9 := L.v9; have u9 := run_underlying L.t9
  have t4 := L.t4; have a4 := L.a4; have z4 := L.z4; have v4 := L.v4; have u4 := run_underlying L.t4
  have t164 := L.t164; have a164 := L.a164; have z164 := L.z164; have v164 := L.v164; have u164 := run_underlying L.t164
  have t5 := X.t5; have a5 := X.a5; have z5 := X.z5; have v5 := X.v5; have u5 := run_underlying X.t5
  have e240 : ∀ args w, (callFunc (ρ.f 240) args).run P w = .ok (.enter (ρ.f 240) args) w := enters_of L.f240 (by kernel_rfl) rfl
  have c0 : w1.cell? ⟨A, 0, none⟩ = some (.pointer (some ⟨A, 0, none⟩)) := by rw [Lib.cell_of_heap hb1]; rfl
  have c1 : w1.cell? ⟨A, 1, none⟩ = some (.slice xa xn xc) := by rw [Lib.cell_of_heap hb1]; rfl
  have d0 : w2.cell? ⟨A, 0, none⟩ = some (.pointer (some ⟨A, 0, none⟩)) := by rw [Lib.cell_of_heap hb2]; rfl
  have d1 : w2.cell? ⟨A, 1, none⟩ = some (.slice xa xn xc) := by rw [Lib.cell_of_heap hb2]; rfl
  have f1 : w2.frozen? ⟨A, 1, none⟩ = false := Lib.frozen_of_heap hb2 1
  go_enter L.f166, Body.n166_ntmps ρ
  go_wp2_with (go_at_fn (ρ.f 240); refine hcc.mono ?_)
  rintro e w1' ⟨rfl, rfl⟩
  go_wp2_with (at_builtin; refine wpList_append_ran rfl _ _ (ρ.t 37) (ρ.t 9) rfl _ _ _ rfl rfl w2 hr ?_)
  go_wp2
  go_ret2
  exact ⟨⟨_, rfl⟩, setCell_row hb2⟩
theorem freeze_froze {w : World} {g n : Nat} {arr : Array Value} {T : TypeId} {fz : Nat × Nat} (h : w.heap[g]? = some (.cells arr T fz)) : Froze w (w.drew.freeze ⟨g, 0, none⟩ n) g := by
  have hlt : g < w.heap.size := (Array.getElem?_eq_some_iff.1 h).1
  unfold World.freeze
  by_cases hn : n = 0
  · rw [if_pos hn]
    exact ⟨fun arr T fz h => ⟨fz, h⟩, fun _ _ => rfl, rfl, rfl, rfl, rfl⟩
  · rw [if_neg hn]
    refine ⟨fun arr T fz h' => ?_, fun k' hk => ?_, by show (w.heap.modify g _).size = _; rw [Array.size_modify], rfl, rfl, rfl⟩
    · obtain ⟨lo, hi⟩ := fz
      refine ⟨if lo == hi then (0, 0 + n) else (min lo 0, max hi (0 + n)), ?_⟩
      show (w.heap.modify g _)[g]? = _
      rw [Array.getElem?_modify, if_pos rfl, h']
      rfl
    · show (w.heap.modify g _)[k']? = _
      rw [Array.getElem?_modify, if_neg (Ne.symm hk)]
set_option maxHeartbeats 1000000 in
set_option maxRecDepth 100000 in
theorem bd_str (L : Lays.n169 P ρ) (X : Builder.Extra P ρ) (w : World) (A g len cap : Nat) (p : Value) (arr : Array Value) (fz : Nat × Nat) (l : List UInt8) (hbk : w.heap[A]? = some (.cells #[p, .slice (some ⟨g, 0, none⟩) len cap] (ρ.t 72) (0, 0))) (hg : w.heap[g]? = some (.cells arr (ρ.t 5) fz)) (hlen : len = l.length) (h0 : l ≠ []) (hc : len ≤ cap) (hcs : cap ≤ arr.size) (h63 : len ≤ 9223372036854775807)
    (hcell : ∀ (j : Nat) (x : UInt8), l[j]? = some x → arr[j]? = some (.int .u8 x.toNat)) :
    Calls P (ρ.f 169) #[.pointer (some ⟨A, 0, none⟩)] w fun e w' => e = .returned (.string ⟨l.toArray⟩) ∧ Froze w w' g := by
  subst hlen
  have hl0 : l.length ≠ 0 := by simpa using h0
  have hF := freeze_froze (n := l.length) hg
  have c1 : w.drew.cell? ⟨A, 1, none⟩ = some (.slice (some ⟨g, 0, none⟩) l.length cap) := by
    have : w.drew.heap[A]? = some (.cells #[p, .slice (some ⟨g, 0, none⟩) l.length cap] (ρ.t 72) (0, 0)) := hbk
    rw [Lib.cell_of_heap this]; rfl
  have hSD : (Builtin.unsafeSliceData_ #[(ρ.t 37)] (ρ.t 127) #[.slice (some ⟨g, 0, none⟩) l.length cap]).run P w.drew = .ok (.pointer (some ⟨g, 0, none⟩)) w.drew :=
    Lib.run_unsafeSliceData_row _ _ _ _ _ _ (by omega)
  have hUS : (Builtin.unsafeString_ #[(ρ.t 127), (ρ.t 3)] (ρ.t 9) #[.pointer (some ⟨g, 0, none⟩), .int .i64 l.length]).run P w.drew = .ok (.string ⟨l.toArray⟩) (w.drew.freeze ⟨g, 0, none⟩ l.length) := by
    refine Lib.run_unsafeString_row w.drew (ρ.t 127) (ρ.t 3) (ρ.t 9) (ρ.t 5) L.t127 X.cellsByte g arr.size (by have hg' : w.drew.heap[g]? = some (.cells arr (ρ.t 5) fz) := hg; simp [World.shape?, hg']) l h0 (by omega) (by omega) ?_
    intro j x hx
    have hg' : w.drew.heap[g]? = some (.cells arr (ρ.t 5) fz) := hg
    exact (cell_hd hg').trans (hcell j x hx)
  have mixed := L.mixed
  have t72 := L.t72; have a72 := L.a72; have z72 := L.z72; have v72 := L.v72; have u72 := run_underlying L.t72
  have t70 := L.t70; have a70 := L.a70; have z70 := L.z70; have v70 := L.v70; have u70 := run_underlying L.t70
  have t37 := L.t37; have a37 := L.a37; have z37 := L.z37; have v37 := L.v37; have u37 := run_underlying L.t37
  have t127 := L.t127; have a127 := L.a127; have z127 := L.z127; have v127 := L.v127; have u127 := run_underlying L.t127
  have t3 := L.t3; have a3 := L.a3; have z3 := L.z3; have v3 := L.v3; have u3 := run_underlying L.t3
  have t9 := L.t9; have a9 := L.a9; have z9 := L.z9; have v9 := L.v9; have u9 := run_underlying L.t9
  have t5 := X.t5; have a5 := X.a5; have z5 := X.z5; have v5 := X.v5; have u5 := run_underlying X.t5
  go_enter L.f169, Body.n169_ntmps ρ
  go_wp2
  go_region_o
  all_goals (go_wp2; go_ret; exact ⟨rfl, hF⟩)
end
theorem tryBuilderX : Builder.Extra Tryz.prog Tryz.lays156_ren where
  sizeBuilder := by kernel_rfl
  liesBuilder := by kernel_rfl
  t5 := Tryz.underlying5
  a5 := Tryz.isAgg5
  z5 := Tryz.sizeOf5
  v5 := Tryz.zeroValue5
  infoByte := by kernel_rfl
  cellsByte := by kernel_rfl
  sizeByte := by kernel_rfl
  neB5 := by decide
def bdT : Bd := ⟨45, 47, 80, 44, 5, 9⟩
theorem bdT_ok : BdOk Tryz.prog bdT where
  slice := Tryz.underlying44
  entW := enters_of Tryz.func45 (by kernel_rfl) rfl
  entS := enters_of Tryz.func47 (by kernel_rfl) rfl
  write := fun w A p xa ya xn xc yn yc s w2 hbk hp hr hb2 => bd_write { Tryz.lays156 with } tryBuilderX w A p xa ya xn xc yn yc s w2 hbk hp hr hb2
  str := fun w A g len cap p arr fz l hbk hg hlen h0 hc hcs h63 hcell => bd_str { Tryz.lays156 with } tryBuilderX w A g len cap p arr fz l hbk hg hlen h0 hc hcs h63 hcell
end Go.VI
open Go
namespace Go.VI
open Go.Proofs
def tyL : List (Nat × TI) := [(2, ⟨1, [.int .i64 0], 8, .int .i64⟩),
 (3, ⟨1, [.int .i64 0], 8, .int .i64⟩),
 (4, ⟨1, [.bool false], 1, .bool⟩),
 (5, ⟨1, [.int .u8 0], 1, .int .u8⟩),
 (6, ⟨1, [.int .u8 0], 1, .int .u8⟩),
 (8, ⟨4, [.int .i64 0, .int .i64 0, .bool false, .int .u8 0], 24, .struct [(0, 1, false), (1, 1, false), (2, 1, false), (3, 1, false)]⟩),
 (9, ⟨1, [.str ByteArray.empty], 16, .str⟩),
 (10, ⟨1, [.str ByteArray.empty], 16, .str⟩),
 (11, ⟨1, [.str ByteArray.empty], 16, .str⟩),
 (12, ⟨1, [.int .u64 0], 8, .int .u64⟩),
 (14, ⟨2, [.str ByteArray.empty, .int .u64 0], 24, .struct [(0, 1, false), (1, 1, false)]⟩),
 (15, ⟨1, [.nilp], 8, .ptr⟩),
 (16, ⟨1, [.nilp], 8, .ptr⟩),
 (17, ⟨1, [.nilp], 8, .ptr⟩),
 (19, ⟨1, [.nilp], 8, .struct [(0, 1, false)]⟩),
 (20, ⟨1, [.niliface], 16, .iface⟩),
 (21, ⟨1, [.int .i32 0], 4, .int .i32⟩),
 (22, ⟨1, [.nils], 24, .slice 4 9⟩),
 (24, ⟨1, [.nils], 24, .slice 0 3⟩),
 (26, ⟨7, [.str ByteArray.empty, .str ByteArray.empty, .nils, .nils, .str ByteArray.empty, .int .i64 0, .nils], 128, .struct [(0, 1, false), (1, 1, false), (2, 1, false), (3, 1, false), (4, 1, false), (5, 1, false), (6, 1, false)]⟩),
 (27, ⟨1, [.int .i64 0], 8, .int .i64⟩),
 (31, ⟨2, [.int .i64 0, .nils], 32, .struct [(0, 1, false), (1, 1, false)]⟩),
 (32, ⟨7, [.str ByteArray.empty, .str ByteArray.empty, .nils, .nils, .str ByteArray.empty, .int .i64 0, .nils], 128, .struct [(0, 1, false), (1, 1, false), (2, 1, false), (3, 1, false), (4, 1, false), (5, 1, false), (6, 1, false)]⟩),
 (37, ⟨1, [.nils], 24, .slice 11 26⟩),
 (40, ⟨1, [.nils], 24, .slice 8 42⟩),
 (42, ⟨2, [.int .i64 0, .nils], 32, .struct [(0, 1, false), (1, 1, false)]⟩),
 (43, ⟨1, [.nilfn], 8, .func⟩),
 (44, ⟨1, [.nils], 24, .slice 1 5⟩),
 (48, ⟨1, [.nils], 24, .slice 6 75⟩),
 (50, ⟨2, [.nils, .int .i64 0], 32, .struct [(0, 1, false), (1, 1, false)]⟩),
 (56, ⟨1, [.nils], 24, .slice 7 32⟩),
 (72, ⟨1, [.nils], 24, .slice 8 31⟩),
 (75, ⟨8, [.str ByteArray.empty, .int .i64 0, .int .i64 0, .str ByteArray.empty, .nils, .str ByteArray.empty, .int .i64 0, .nils], 120, .struct [(0, 1, false), (1, 1, false), (2, 1, false), (3, 1, false), (4, 1, false), (5, 1, false), (6, 1, false), (7, 1, false)]⟩),
 (78, ⟨1, [.nilp], 8, .ptr⟩),
 (80, ⟨2, [.nilp, .nils], 32, .struct [(0, 1, false), (1, 1, false)]⟩),
 (82, ⟨1, [.niliface], 16, .iface⟩),
 (91, ⟨1, [.nilm], 8, .map⟩),
 (98, ⟨2, [.str ByteArray.empty, .str ByteArray.empty], 32, .struct [(0, 1, false), (1, 1, false)]⟩),
 (105, ⟨1, [.nilp], 8, .ptr⟩),
 (121, ⟨2, [.str ByteArray.empty, .str ByteArray.empty], 32, .struct [(0, 1, false), (1, 1, false)]⟩),
 (133, ⟨1, [.int .u64 0], 8, .int .u64⟩),
 (138, ⟨1, [.nilp], 8, .ptr⟩),
 (140, ⟨2, [.str ByteArray.empty, .niliface], 32, .struct [(0, 1, false), (1, 1, false)]⟩),
 (148, ⟨1, [.nilp], 8, .ptr⟩),
 (154, ⟨1, [.int .u64 0], 8, .int .u64⟩),
 (156, ⟨1, [.int .i64 0], 8, .int .i64⟩),
 (159, ⟨1, [.nilp], 8, .ptr⟩),
 (164, ⟨1, [.int .u32 0], 4, .int .u32⟩),
 (170, ⟨2, [.bool false, .str ByteArray.empty], 24, .struct [(0, 1, false), (1, 1, false)]⟩),
 (174, ⟨1, [.nilfn], 8, .func⟩),
 (177, ⟨1, [.nilp], 8, .ptr⟩),
 (179, ⟨1, [.int .i64 0], 8, .struct [(0, 1, false)]⟩),
 (190, ⟨3, [.str ByteArray.empty, .str ByteArray.empty, .niliface], 48, .struct [(0, 1, false), (1, 1, false), (2, 1, false)]⟩),
 (195, ⟨1, [.nils], 24, .slice 2 164⟩),
 (204, ⟨2, [.int .u8 0, .int .u8 0], 2, .struct [(0, 1, false), (1, 1, false)]⟩),
 (207, ⟨1, [.nilp], 8, .ptr⟩),
 (209, ⟨1, [.str ByteArray.empty], 16, .struct [(0, 1, false)]⟩),
 (229, ⟨1, [.int .u8 0], 1, .int .u8⟩)]
def tyT : Ty := ⟨look tyL, [0, 3, 4, 5], some bdT⟩
theorem tyT_ok : TyOk Tryz.prog tyT := tableOk_ok (show tableOk Tryz.prog tyL = true by kernel_rfl) (fun B h => by cases h; exact bdT_ok)
theorem mix : Tryz.prog.follows .mixedOrders = true := by kernel_rfl
noncomputable def Tf.shape_Right.c : Code := (Proofs.Tryz.f20.body).getD .skip
noncomputable def Tf.shape_Right.b3 : Code := codeAt [1, 1, 0, 1, 0, 0] Tf.shape_Right.c
def Tf.shape_Right.s3 (F : Nat) (L : (Int × (Int × ((List Int) × ((List Int) × Int)))) → Option (Bool ⊕ Int)) (x : (Int × (Int × ((List Int) × ((List Int) × Int))))) : Option (Bool ⊕ Int) :=
 (bif (decide (x.1 < x.2.2.2.2)) then (bif (inR x.1 (List.length x.2.2.2.1)) then (bif (decide ((List.getD x.2.2.2.1 (Int.toNat x.1) (0 : Int)) < (1 : Int))) then (some (.inl Bool.false))
 else (bif (decide ((List.getD x.2.2.2.1 (Int.toNat x.1) (0 : Int)) > (64 : Int))) then (some (.inl Bool.false))
 else (bif (decide (((List.length x.2.2.1) : Int) > (4 : Int))) then (some (.inl Bool.false))
 else (L ((IntKind.wrap .i64 (x.1 + (1 : Int))), ((IntKind.wrap .i64 (x.2.1 * (List.getD x.2.2.2.1 (Int.toNat x.1) (0 : Int)))), (x.2.2.1, (x.2.2.2.1, x.2.2.2.2))))))))
 else none)
 else (some (.inr x.2.1)))
def Tf.shape_Right.l3 (F : Nat) : (Int × (Int × ((List Int) × ((List Int) × Int)))) → Option (Bool ⊕ Int) := iter (Tf.shape_Right.s3 F) F
theorem Tf.shape_Right.s3_ok (F : Nat) (L a) : exec tyT (look [] : Fns) 29 (look [] : Loops) Tf.shape_Right.b3 (rebuild [.slot 8, .slot 3, .view 0 0, .view 6 0, .slot 7] (encKs [.int .i64, .int .i64, .sl 0, .sl 0, .int .i64] a)) (bodyK [.slot 8, .slot 3, .view 0 0, .view 6 0, .slot 7] [.int .i64, .int .i64, .sl 0, .sl 0, .int .i64] [⟨.ret, [.slot 2], [.bool]⟩, ⟨.exit 0, [.slot 3], [.int .i64]⟩] L) = Tf.shape_Right.s3 F L a := by kernel_rfl
theorem Tf.shape_Right.l3_ok (F : Nat) : LoopOk Proofs.Tryz.prog tyT.G 29 Tf.shape_Right.b3 (fun st κ => hand [.slot 8, .slot 3, .view 0 0, .view 6 0, .slot 7] [.int .i64, .int .i64, .sl 0, .sl 0, .int .i64] [⟨.ret, [.slot 2], [.bool]⟩, ⟨.exit 0, [.slot 3], [.int .i64]⟩] (Tf.shape_Right.l3 F) st κ) :=
  loop_ok tyT_ok rfl mix .nil (Λ := (look [] : Loops)) (LoopsOk.of (bs := []) (by kernel_rfl) .nil) (Tf.shape_Right.s3_ok F) F
def Tf.shape_Right.f (F : Nat) (a : (List Int)) : Option Bool :=
 (Option.bind (Tf.shape_Right.l3 F ((0 : Int), ((1 : Int), (a, (a, ((List.length a) : Int)))))) (fun y8 => (sumE y8 (fun y9 => (some y9)) (fun y9 => (some (decide (y9 ≤ (64 : Int))))))))
theorem Tf.shape_Right.f_ok (F : Nat) (a) : exec tyT (look [] : Fns) 29 (look [(3, fun st κ => hand [.slot 8, .slot 3, .view 0 0, .view 6 0, .slot 7] [.int .i64, .int .i64, .sl 0, .sl 0, .int .i64] [⟨.ret, [.slot 2], [.bool]⟩, ⟨.exit 0, [.slot 3], [.int .i64]⟩] (Tf.shape_Right.l3 F) st κ)] : Loops) Tf.shape_Right.c (init [.v 0] (encKs [.sl 0] a)) (finT (look [] : Fns) (⟨[.v 0], [.p]⟩ : Sig) [2] [.pure] [.bool]) = Tf.shape_Right.f F a := by kernel_rfl
def Tf.shape_Right.e (F : Nat) : Fn := mkFn (⟨[.v 0], [.p]⟩ : Sig) [.sl 0] [.pure] [.bool] (Tf.shape_Right.f F)
theorem Tf.shape_Right.ok (F : Nat) : EntryOk Proofs.Tryz.prog tyT.G 20 (Tf.shape_Right.e F) :=
  fn_ok tyT_ok rfl mix .nil (Λ := (look [(3, fun st κ => hand [.slot 8, .slot 3, .view 0 0, .view 6 0, .slot 7] [.int .i64, .int .i64, .sl 0, .sl 0, .int .i64] [⟨.ret, [.slot 2], [.bool]⟩, ⟨.exit 0, [.slot 3], [.int .i64]⟩] (Tf.shape_Right.l3 F) st κ)] : Loops)) (fn := Proofs.Tryz.f20) (c := Tf.shape_Right.c) (LoopsOk.of (bs := [Tf.shape_Right.b3]) (by kernel_rfl) (.cons rfl (Tf.shape_Right.l3_ok F) .nil)) (by kernel_rfl) (by kernel_rfl) (by kernel_rfl) (by kernel_rfl) (res1 (by kernel_rfl)) (by decide) (Tf.shape_Right.f_ok F)
end Go.VI
namespace Go.VI
open Go Go.Proofs Go.RowKit
theorem str_arg {w : World} {F : Nat → Prop} {s : ByteArray} {x : Value} (h : Rep w F (.str s) x) : x = .string s := by cases h; rfl
theorem vals1 {w : World} {F : Nat → Prop} {v : V} {vals : List Value} (hl : vals.length = 1) (h : ∀ (i : Nat) v' x, [v][i]? = some v' → vals[i]? = some x → Rep w F v' x) : ∃ x, vals = [x] ∧ Rep w F v x := by
  match vals, hl with
  | [x], _ => exact ⟨x, rfl, h 0 v x rfl rfl⟩
def atoiT (s : ByteArray) : Option (Int × Bool) := bif Nat.ble s.size 281474976710656 then some (match Go.Lib.atoiAll s.data.toList with
  | .ok v => (v, true)
  | .range => (Go.Lib.atoiSat s.data.toList, false)
  | _ => (0, false)) else none
def Tf.strconv_Atoi.f (F : Nat) (a : ByteArray) : Option (Int × Bool) := atoiT a
def Tf.strconv_Atoi.e (F : Nat) : Fn := mkFn (⟨[.p], [.p, .p]⟩ : Sig) [.str] [.pure, .pure] [.int .i64, .err] (Tf.strconv_Atoi.f F)
theorem below_bytes (w : World) (T : TypeId) (s : ByteArray) : Below w.heap.size w (Go.Lib.bytesWorld w T s) := ⟨rfl, rfl, rfl, by rw [Go.Lib.bytesWorld_size]; omega, fun j hj => Go.Lib.bytesWorld_at_old w T s j hj⟩
theorem two_res {w' : World} {v : Int} {b : Bool} {x : Value} (hx : ∀ F, Rep w' F (.errv b) x) : ∀ (j : Nat) r y F', (encKs [.int .i64, .err] (v, b))[j]? = some r → ([.int .i64 v, x] : List Value)[j]? = some y → Rep w' F' r y := by
  intro j r y F' hj hy
  match j, hj, hy with
  | 0, hj, hy => cases hj; cases hy; exact .int _ _
  | 1, hj, hy => cases hj; cases hy; exact hx F'
theorem Tf.strconv_Atoi.ok (F : Nat) : EntryOk Tryz.prog tyT.G 91 (Tf.strconv_Atoi.e F) := by
  refine entry_rep (enters_of Tryz.func91 (by kernel_rfl) rfl) (by simp [still]) rfl (by simp) rfl fun a y w F' vals h hl hr hG => ?_
  obtain ⟨x, rfl, hx⟩ := vals1 hl hr
  have := str_arg hx
  subst this
  unfold Tf.strconv_Atoi.f atoiT at h
  cases hc : Nat.ble a.size 281474976710656 with
  | false => rw [hc] at h; cases h
  | true =>
    have hsz := Nat.le_of_ble_eq_true hc
    rw [hc] at h
    cases hat : Go.Lib.atoiAll a.data.toList with
    | ok v =>
      rw [hat] at h
      cases h
      refine (Any.strconv_Atoi_ok Tryz.laysC172 a (by omega) v hat w).mono ?_
      rintro e w' ⟨rfl, hw⟩
      refine ⟨[.int .i64 v, .nilIface], rfl, rfl, two_res fun _ => .errn, ?_⟩
      rcases hw with rfl | ⟨t, rfl⟩
      · exact Below.refl _ _
      · exact below_bytes _ _ _
    | range =>
      rw [hat] at h
      cases h
      obtain ⟨t, u, hv⟩ := hG 5 (by decide)
      refine (Any.strconv_Atoi_range Tryz.laysC172 a hsz hat _ w hv (.inr ⟨t, u, rfl⟩)).mono ?_
      rintro e w' ⟨N, rfl, _, _, hb⟩
      exact ⟨[.int .i64 _, _], rfl, rfl, two_res fun _ => .errs, hb⟩
    | _ =>
      rw [hat] at h
      cases h
      obtain ⟨t, u, hv⟩ := hG 4 (by decide)
      refine (Any.strconv_Atoi_syntax Tryz.laysC172 a hsz hat _ w hv (.inr ⟨t, u, rfl⟩)).mono ?_
      rintro e w' ⟨N, rfl, _, _, hb⟩
      exact ⟨[.int .i64 0, _], rfl, rfl, two_res fun _ => .errs, hb⟩
def Tf.strconv_Itoa.f (F : Nat) (a : Int) : Option ByteArray := bif (decide (0 ≤ a)) && (decide (a < 100)) then some ⟨(Go.Lib.decDigits a.toNat).toArray⟩ else none
def Tf.strconv_Itoa.e (F : Nat) : Fn := mkFn (⟨[.p], [.p]⟩ : Sig) [.int .i64] [.pure] [.str] (Tf.strconv_Itoa.f F)
theorem Tf.strconv_Itoa.ok (F : Nat) : EntryOk Tryz.prog tyT.G 44 (Tf.strconv_Itoa.e F) := by
  refine entry_pure (aks := [.int .i64]) (rt := .str) (enters_of Tryz.func44 (by kernel_rfl) rfl) rfl (fun a => rfl) (fun y => rfl) fun (a : Int) y w h => ?_
  unfold Tf.strconv_Itoa.f at h
  cases hc : (decide (0 ≤ a)) && (decide (a < 100)) with
  | false => rw [hc] at h; cases h
  | true =>
    rw [hc] at h
    cases h
    simp only [Bool.and_eq_true, decide_eq_true_eq] at hc
    have h1 := (Any.strconv_Itoa_small Tryz.lays171 a.toNat (by omega) w).mono (R' := fun e w' => e = .returned (zval (.str ⟨(Go.Lib.decDigits a.toNat).toArray⟩)) ∧ Below w.heap.size w w') (by
      rintro e w' ⟨rfl, rfl⟩
      exact ⟨rfl, Below.refl _ _⟩)
    rw [show ((a.toNat : Nat) : Int) = a by omega] at h1
    exact h1
def Tf.strings_Count.f (F : Nat) (a : ByteArray × ByteArray) : Option Int := bif Nat.beq a.2.size 1 then some ((Go.Lib.countByte a.1.data.toList (a.2.data.toList.getD 0 0) : Nat) : Int) else none
def Tf.strings_Count.e (F : Nat) : Fn := mkFn (⟨[.p, .p], [.p]⟩ : Sig) [.str, .str] [.pure] [.int .i64] (Tf.strings_Count.f F)
theorem Tf.strings_Count.ok (F : Nat) : EntryOk Tryz.prog tyT.G 105 (Tf.strings_Count.e F) := by
  refine entry_pure (aks := [.str, .str]) (rt := .int .i64) (enters_of Tryz.func105 (by kernel_rfl) rfl) rfl (fun a => rfl) (fun y => rfl) fun a y w h => ?_
  unfold Tf.strings_Count.f at h
  cases hc : Nat.beq a.2.size 1 with
  | false => rw [hc] at h; cases h
  | true =>
    rw [hc] at h
    cases h
    obtain ⟨c, hc'⟩ := Go.Lib.one_byte a.2 (Nat.eq_of_beq_eq_true hc)
    have h1 := (Any.strings_Count_one Tryz.lays138 a.1 c w).mono (R' := fun e w' => e = .returned (zval (.int .i64 ((Go.Lib.countByte a.1.data.toList (a.2.data.toList.getD 0 0) : Nat) : Int))) ∧ Below w.heap.size w w') (by
      rintro e w' ⟨rfl, rfl⟩
      exact ⟨by rw [hc']; rfl, Below.refl _ _⟩)
    rw [← hc'] at h1
    exact h1
def Tf.strings_explode.f (F : Nat) (a : ByteArray × Int) : Option (List ByteArray) := none
def Tf.strings_explode.e (F : Nat) : Fn := mkFn (⟨[.p, .p], [.p]⟩ : Sig) [.str, .int .i64] [.pure] [.sl 4] (Tf.strings_explode.f F)
theorem Tf.strings_explode.ok (F : Nat) : EntryOk Tryz.prog tyT.G 104 (Tf.strings_explode.e F) := entry_none fun _ => rfl
noncomputable def Tf.read_number.c : Code := (Proofs.Tryz.f77.body).getD .skip
def Tf.read_number.f (F : Nat) (a : ByteArray) : Option (Int × Bool) :=
 (Option.bind (Tf.strconv_Atoi.f F a) (fun y7 => (bif y7.2 then (bif (decide (y7.1 ≥ (0 : Int))) then (bif (decide (y7.1 < (100 : Int))) then (Option.bind (Tf.strconv_Itoa.f F y7.1) (fun y27 => (some (y7.1, (seqB y27 a)))))
 else (some (y7.1, Bool.false)))
 else (some (y7.1, Bool.false)))
 else (some (y7.1, Bool.false)))))
theorem Tf.read_number.f_ok (F : Nat) (a) : exec tyT (look [(44, Tf.strconv_Itoa.e F), (91, Tf.strconv_Atoi.e F)] : Fns) 28 (look [] : Loops) Tf.read_number.c (init [.p] (encKs [.str] a)) (finT (look [(44, Tf.strconv_Itoa.e F), (91, Tf.strconv_Atoi.e F)] : Fns) (⟨[.p], [.p, .p]⟩ : Sig) [2, 3] [.pure, .pure] [.int .i64, .bool]) = Tf.read_number.f F a := by kernel_rfl
def Tf.read_number.e (F : Nat) : Fn := mkFn (⟨[.p], [.p, .p]⟩ : Sig) [.str] [.pure, .pure] [.int .i64, .bool] (Tf.read_number.f F)
theorem Tf.read_number.ok (F : Nat) : EntryOk Proofs.Tryz.prog tyT.G 77 (Tf.read_number.e F) :=
  fn_ok tyT_ok rfl mix (.cons (Tf.strconv_Itoa.ok F) (.cons (Tf.strconv_Atoi.ok F) .nil)) (Λ := (look [] : Loops)) (fn := Proofs.Tryz.f77) (c := Tf.read_number.c) (LoopsOk.of (bs := []) (by kernel_rfl) .nil) (by kernel_rfl) (by kernel_rfl) (by kernel_rfl) (by kernel_rfl) (res2 (by kernel_rfl)) (by decide) (Tf.read_number.f_ok F)
noncomputable def Tf.read_dims.c : Code := (Proofs.Tryz.f58.body).getD .skip
noncomputable def Tf.read_dims.b3 : Code := codeAt [1, 1, 0, 1, 0, 0] Tf.read_dims.c
def Tf.read_dims.s3 (F : Nat) (L : (Int × ((List Int) × ((List ByteArray) × Int))) → Option (((List Int) × Bool) ⊕ (List Int))) (x : (Int × ((List Int) × ((List ByteArray) × Int)))) : Option (((List Int) × Bool) ⊕ (List Int)) :=
 (bif (decide (x.1 < x.2.2.2)) then (bif (inR x.1 (List.length x.2.2.1)) then (Option.bind (Tf.read_number.f F (List.getD x.2.2.1 (Int.toNat x.1) (dflt 4))) (fun y16 => (bif (!y16.2) then (some (.inl (([] : List Int), Bool.false)))
 else (bif (Nat.ble ((List.length x.2.1) + 1) 1099511627776) then (L ((IntKind.wrap .i64 (x.1 + (1 : Int))), ((x.2.1 ++ (List.set (List.replicate 1 (0 : Int)) 0 y16.1)), (x.2.2.1, x.2.2.2))))
 else none))))
 else none)
 else (some (.inr x.2.1)))
def Tf.read_dims.l3 (F : Nat) : (Int × ((List Int) × ((List ByteArray) × Int))) → Option (((List Int) × Bool) ⊕ (List Int)) := iter (Tf.read_dims.s3 F) F
theorem Tf.read_dims.s3_ok (F : Nat) (L a) : exec tyT (look [(20, Tf.shape_Right.e F), (77, Tf.read_number.e F)] : Fns) 30 (look [] : Loops) Tf.read_dims.b3 (rebuild [.slot 11, .own 4 0, .view 9 4, .slot 10] (encKs [.int .i64, .sl 0, .sl 4, .int .i64] a)) (bodyK [.slot 11, .own 4 0, .view 9 4, .slot 10] [.int .i64, .sl 0, .sl 4, .int .i64] [⟨.ret, [.own 2 0, .slot 3], [.sl 0, .bool]⟩, ⟨.exit 0, [.own 4 0], [.sl 0]⟩] L) = Tf.read_dims.s3 F L a := by kernel_rfl
theorem Tf.read_dims.l3_ok (F : Nat) : LoopOk Proofs.Tryz.prog tyT.G 30 Tf.read_dims.b3 (fun st κ => hand [.slot 11, .own 4 0, .view 9 4, .slot 10] [.int .i64, .sl 0, .sl 4, .int .i64] [⟨.ret, [.own 2 0, .slot 3], [.sl 0, .bool]⟩, ⟨.exit 0, [.own 4 0], [.sl 0]⟩] (Tf.read_dims.l3 F) st κ) :=
  loop_ok tyT_ok rfl mix (.cons (Tf.shape_Right.ok F) (.cons (Tf.read_number.ok F) .nil)) (Λ := (look [] : Loops)) (LoopsOk.of (bs := []) (by kernel_rfl) .nil) (Tf.read_dims.s3_ok F) F
def Tf.read_dims.f (F : Nat) (a : (List ByteArray)) : Option ((List Int) × Bool) :=
 (Option.bind (Tf.read_dims.l3 F ((0 : Int), (([] : List Int), (a, ((List.length a) : Int))))) (fun y9 => (sumE y9 (fun y10 => (some (y10.1, y10.2))) (fun y10 => (Option.bind (Tf.shape_Right.f F y10) (fun y14 => (some (y10, y14))))))))
theorem Tf.read_dims.f_ok (F : Nat) (a) : exec tyT (look [(20, Tf.shape_Right.e F), (77, Tf.read_number.e F)] : Fns) 30 (look [(3, fun st κ => hand [.slot 11, .own 4 0, .view 9 4, .slot 10] [.int .i64, .sl 0, .sl 4, .int .i64] [⟨.ret, [.own 2 0, .slot 3], [.sl 0, .bool]⟩, ⟨.exit 0, [.own 4 0], [.sl 0]⟩] (Tf.read_dims.l3 F) st κ)] : Loops) Tf.read_dims.c (init [.v 4] (encKs [.sl 4] a)) (finT (look [(20, Tf.shape_Right.e F), (77, Tf.read_number.e F)] : Fns) (⟨[.v 4], [.o 0, .p]⟩ : Sig) [2, 3] [.own, .pure] [.sl 0, .bool]) = Tf.read_dims.f F a := by kernel_rfl
def Tf.read_dims.e (F : Nat) : Fn := mkFn (⟨[.v 4], [.o 0, .p]⟩ : Sig) [.sl 4] [.own, .pure] [.sl 0, .bool] (Tf.read_dims.f F)
theorem Tf.read_dims.ok (F : Nat) : EntryOk Proofs.Tryz.prog tyT.G 58 (Tf.read_dims.e F) :=
  fn_ok tyT_ok rfl mix (.cons (Tf.shape_Right.ok F) (.cons (Tf.read_number.ok F) .nil)) (Λ := (look [(3, fun st κ => hand [.slot 11, .own 4 0, .view 9 4, .slot 10] [.int .i64, .sl 0, .sl 4, .int .i64] [⟨.ret, [.own 2 0, .slot 3], [.sl 0, .bool]⟩, ⟨.exit 0, [.own 4 0], [.sl 0]⟩] (Tf.read_dims.l3 F) st κ)] : Loops)) (fn := Proofs.Tryz.f58) (c := Tf.read_dims.c) (LoopsOk.of (bs := [Tf.read_dims.b3]) (by kernel_rfl) (.cons rfl (Tf.read_dims.l3_ok F) .nil)) (by kernel_rfl) (by kernel_rfl) (by kernel_rfl) (by kernel_rfl) (res2 (by kernel_rfl)) (by decide) (Tf.read_dims.f_ok F)
end Go.VI
namespace Go.VI
open Go Go.Proofs Go.RowKit
theorem lt_of_blt {a b : Nat} (h : Nat.blt a b = true) : a < b := Nat.le_of_ble_eq_true h
def Tf.strings_Trim.f (F : Nat) (a : ByteArray × ByteArray) : Option ByteArray := bif Nat.ble a.1.size 9223372036854775807 && Nat.blt a.2.size 4294967281 && a.2.data.toList.all (fun b => Nat.blt b.toNat 128) then some ⟨(Go.Lib.trimS a.1.data.toList a.2.data.toList).toArray⟩ else none
def Tf.strings_Trim.e (F : Nat) : Fn := mkFn (⟨[.p, .p], [.p]⟩ : Sig) [.str, .str] [.pure] [.str] (Tf.strings_Trim.f F)
theorem Tf.strings_Trim.ok (F : Nat) : EntryOk Tryz.prog tyT.G 98 (Tf.strings_Trim.e F) := by
  refine entry_pure (aks := [.str, .str]) (rt := .str) (enters_of Tryz.func98 (by kernel_rfl) rfl) rfl (fun a => rfl) (fun y => rfl) fun a y w h => ?_
  unfold Tf.strings_Trim.f at h
  cases hc : Nat.ble a.1.size 9223372036854775807 && Nat.blt a.2.size 4294967281 && a.2.data.toList.all (fun b => Nat.blt b.toNat 128) with
  | false => rw [hc] at h; cases h
  | true =>
    rw [hc] at h
    cases h
    simp only [Bool.and_eq_true] at hc
    exact Any.strings_Trim_laid Tryz.lays160 (by kernel_rfl) a.1 a.2 w (Nat.le_of_ble_eq_true hc.1.1) (lt_of_blt hc.1.2) (fun j b hb => lt_of_blt (List.all_eq_true.1 hc.2 b (List.mem_of_getElem? hb)))
def Tf.internal_stringslite_Index.f (F : Nat) (a : ByteArray × ByteArray) : Option Int := bif Nat.beq a.2.size 1 then some (Go.Lib.indexByte a.1.data.toList (a.2.data.toList.getD 0 0)) else none
def Tf.internal_stringslite_Index.e (F : Nat) : Fn := mkFn (⟨[.p, .p], [.p]⟩ : Sig) [.str, .str] [.pure] [.int .i64] (Tf.internal_stringslite_Index.f F)
theorem Tf.internal_stringslite_Index.ok (F : Nat) : EntryOk Tryz.prog tyT.G 107 (Tf.internal_stringslite_Index.e F) := by
  refine entry_pure (aks := [.str, .str]) (rt := .int .i64) (enters_of Tryz.func107 (by kernel_rfl) rfl) rfl (fun a => rfl) (fun y => rfl) fun a y w h => ?_
  unfold Tf.internal_stringslite_Index.f at h
  cases hc : Nat.beq a.2.size 1 with
  | false => rw [hc] at h; cases h
  | true =>
    rw [hc] at h
    cases h
    obtain ⟨c, hc'⟩ := Go.Lib.one_byte a.2 (Nat.eq_of_beq_eq_true hc)
    have h1 := (Any.stringslite_Index_one { Tryz.lays219 with } a.1 c w).mono (R' := fun e w' => e = .returned (zval (.int .i64 (Go.Lib.indexByte a.1.data.toList (a.2.data.toList.getD 0 0)))) ∧ Below w.heap.size w w') (by
      rintro e w' ⟨rfl, rfl⟩
      exact ⟨by rw [hc']; rfl, Below.refl _ _⟩)
    rw [← hc'] at h1
    exact h1
theorem nat_right_closure (w : World) : PredAt Tryz.prog 152 #[] encR (fun r => decide (r < 48) || decide (57 < r)) w := fun W r _ => by
  unfold FnGives
  by_cases h1 : r < 48 <;> by_cases h2 : 57 < r
  all_goals
    have z1 : (r : Int) < 48 ↔ r < 48 := by omega
    have z2 : (57 : Int) < (r : Int) ↔ 57 < r := by omega
    go_enter Tryz.func152, Tryz.ntmps152
    go_wp2
    all_goals first | (exfalso; omega) | (go_ret; exact ⟨by simp [h1, h2], 0, rfl⟩)
def Tf.strings_IndexFunc_nat_Right_1.f (F : Nat) (a : ByteArray × Unit) : Option Int := some (Go.Lib.idxFunc (fun r => decide (r < 48) || decide (57 < r)) true a.1)
def Tf.strings_IndexFunc_nat_Right_1.e (F : Nat) : Fn := mkFn (⟨[.p, .p], [.p]⟩ : Sig) [.str, .fn0 152] [.pure] [.int .i64] (Tf.strings_IndexFunc_nat_Right_1.f F)
theorem Tf.strings_IndexFunc_nat_Right_1.ok (F : Nat) : EntryOk Tryz.prog tyT.G 151 (Tf.strings_IndexFunc_nat_Right_1.e F) := by
  refine entry_pure (aks := [.str, .fn0 152]) (rt := .int .i64) (enters_of Tryz.func151 (by kernel_rfl) rfl) rfl (fun a => rfl) (fun y => rfl) fun a y w h => ?_
  cases h
  exact Any.strings_IndexFunc Tryz.laysGw15 152 #[] (enters_of Tryz.func152 (by kernel_rfl) rfl) _ a.1 w (nat_right_closure w)
noncomputable def Tf.lex_Name.c : Code := (Proofs.Tryz.f80.body).getD .skip
def Tf.lex_Name.f (F : Nat) (a : ByteArray) : Option Bool :=
 (bif (seqB a (⟨#[]⟩ : ByteArray)) then (some Bool.false)
 else (bif (decide (((ByteArray.size a) : Int) > (8 : Int))) then (some Bool.false)
 else (bif (inR (0 : Int) (ByteArray.size a)) then (bif (decide ((byteAt a (0 : Int)) < (97 : Int))) then (some Bool.false)
 else (bif (inR (0 : Int) (ByteArray.size a)) then (bif (decide ((byteAt a (0 : Int)) > (122 : Int))) then (some Bool.false)
 else (Option.bind (Tf.strings_Trim.f F (a, (⟨#[97, 98, 99, 100, 101, 102, 103, 104, 105, 106, 107, 108, 109, 110, 111, 112, 113, 114, 115, 116, 117, 118, 119, 120, 121, 122, 48, 49, 50, 51, 52, 53, 54, 55, 56, 57]⟩ : ByteArray))) (fun y23 => (some (seqB y23 (⟨#[]⟩ : ByteArray))))))
 else none))
 else none)))
theorem Tf.lex_Name.f_ok (F : Nat) (a) : exec tyT (look [(98, Tf.strings_Trim.e F)] : Fns) 23 (look [] : Loops) Tf.lex_Name.c (init [.p] (encKs [.str] a)) (finT (look [(98, Tf.strings_Trim.e F)] : Fns) (⟨[.p], [.p]⟩ : Sig) [2] [.pure] [.bool]) = Tf.lex_Name.f F a := by kernel_rfl
def Tf.lex_Name.e (F : Nat) : Fn := mkFn (⟨[.p], [.p]⟩ : Sig) [.str] [.pure] [.bool] (Tf.lex_Name.f F)
theorem Tf.lex_Name.ok (F : Nat) : EntryOk Proofs.Tryz.prog tyT.G 80 (Tf.lex_Name.e F) :=
  fn_ok tyT_ok rfl mix (.cons (Tf.strings_Trim.ok F) .nil) (Λ := (look [] : Loops)) (fn := Proofs.Tryz.f80) (c := Tf.lex_Name.c) (LoopsOk.of (bs := []) (by kernel_rfl) .nil) (by kernel_rfl) (by kernel_rfl) (by kernel_rfl) (by kernel_rfl) (res1 (by kernel_rfl)) (by decide) (Tf.lex_Name.f_ok F)
noncomputable def Tf.read_names_1.c : Code := (Proofs.Tryz.f79.body).getD .skip
def Tf.read_names_1.f (F : Nat) (a : ByteArray) : Option Bool :=
 (Option.bind (Tf.lex_Name.f F a) (fun y6 => (some (!y6))))
theorem Tf.read_names_1.f_ok (F : Nat) (a) : exec tyT (look [(80, Tf.lex_Name.e F)] : Fns) 6 (look [] : Loops) Tf.read_names_1.c (init [.p] (encKs [.str] a)) (finT (look [(80, Tf.lex_Name.e F)] : Fns) (⟨[.p], [.p]⟩ : Sig) [2] [.pure] [.bool]) = Tf.read_names_1.f F a := by kernel_rfl
def Tf.read_names_1.e (F : Nat) : Fn := mkFn (⟨[.p], [.p]⟩ : Sig) [.str] [.pure] [.bool] (Tf.read_names_1.f F)
theorem Tf.read_names_1.ok (F : Nat) : EntryOk Proofs.Tryz.prog tyT.G 79 (Tf.read_names_1.e F) :=
  fn_ok tyT_ok rfl mix (.cons (Tf.lex_Name.ok F) .nil) (Λ := (look [] : Loops)) (fn := Proofs.Tryz.f79) (c := Tf.read_names_1.c) (LoopsOk.of (bs := []) (by kernel_rfl) .nil) (by kernel_rfl) (by kernel_rfl) (by kernel_rfl) (by kernel_rfl) (res1 (by kernel_rfl)) (by decide) (Tf.read_names_1.f_ok F)
noncomputable def Tf.slices_IndexFunc___string_string__read_names_1.c : Code := (Proofs.Tryz.f97.body).getD .skip
noncomputable def Tf.slices_IndexFunc___string_string__read_names_1.b2 : Code := codeAt [1, 0, 1, 0, 0] Tf.slices_IndexFunc___string_string__read_names_1.c
def Tf.slices_IndexFunc___string_string__read_names_1.s2 (F : Nat) (L : (Int × ((List ByteArray) × (Unit × Int))) → Option (Int ⊕ Unit)) (x : (Int × ((List ByteArray) × (Unit × Int)))) : Option (Int ⊕ Unit) :=
 (bif (decide (x.1 < x.2.2.2)) then (bif (inR x.1 (List.length x.2.1)) then (Option.bind (Tf.read_names_1.f F (List.getD x.2.1 (Int.toNat x.1) (dflt 4))) (fun y17 => (bif y17 then (some (.inl x.1))
 else (L ((IntKind.wrap .i64 (x.1 + (1 : Int))), (x.2.1, ((), x.2.2.2)))))))
 else none)
 else (some (.inr ())))
def Tf.slices_IndexFunc___string_string__read_names_1.l2 (F : Nat) : (Int × ((List ByteArray) × (Unit × Int))) → Option (Int ⊕ Unit) := iter (Tf.slices_IndexFunc___string_string__read_names_1.s2 F) F
theorem Tf.slices_IndexFunc___string_string__read_names_1.s2_ok (F : Nat) (L a) : exec tyT (look [(79, Tf.read_names_1.e F)] : Fns) 19 (look [] : Loops) Tf.slices_IndexFunc___string_string__read_names_1.b2 (rebuild [.slot 8, .view 0 4, .slot 1, .slot 7] (encKs [.int .i64, .sl 4, .fn0 79, .int .i64] a)) (bodyK [.slot 8, .view 0 4, .slot 1, .slot 7] [.int .i64, .sl 4, .fn0 79, .int .i64] [⟨.ret, [.slot 4], [.int .i64]⟩, ⟨.exit 0, [], []⟩] L) = Tf.slices_IndexFunc___string_string__read_names_1.s2 F L a := by kernel_rfl
theorem Tf.slices_IndexFunc___string_string__read_names_1.l2_ok (F : Nat) : LoopOk Proofs.Tryz.prog tyT.G 19 Tf.slices_IndexFunc___string_string__read_names_1.b2 (fun st κ => hand [.slot 8, .view 0 4, .slot 1, .slot 7] [.int .i64, .sl 4, .fn0 79, .int .i64] [⟨.ret, [.slot 4], [.int .i64]⟩, ⟨.exit 0, [], []⟩] (Tf.slices_IndexFunc___string_string__read_names_1.l2 F) st κ) :=
  loop_ok tyT_ok rfl mix (.cons (Tf.read_names_1.ok F) .nil) (Λ := (look [] : Loops)) (LoopsOk.of (bs := []) (by kernel_rfl) .nil) (Tf.slices_IndexFunc___string_string__read_names_1.s2_ok F) F
def Tf.slices_IndexFunc___string_string__read_names_1.f (F : Nat) (a : ((List ByteArray) × Unit)) : Option Int :=
 (Option.bind (Tf.slices_IndexFunc___string_string__read_names_1.l2 F ((0 : Int), (a.1, ((), ((List.length a.1) : Int))))) (fun y7 => (sumE y7 (fun y8 => (some y8)) (fun y8 => (some (-(1 : Int)))))))
theorem Tf.slices_IndexFunc___string_string__read_names_1.f_ok (F : Nat) (a) : exec tyT (look [(79, Tf.read_names_1.e F)] : Fns) 19 (look [(2, fun st κ => hand [.slot 8, .view 0 4, .slot 1, .slot 7] [.int .i64, .sl 4, .fn0 79, .int .i64] [⟨.ret, [.slot 4], [.int .i64]⟩, ⟨.exit 0, [], []⟩] (Tf.slices_IndexFunc___string_string__read_names_1.l2 F) st κ)] : Loops) Tf.slices_IndexFunc___string_string__read_names_1.c (init [.v 4, .p] (encKs [.sl 4, .fn0 79] a)) (finT (look [(79, Tf.read_names_1.e F)] : Fns) (⟨[.v 4, .p], [.p]⟩ : Sig) [4] [.pure] [.int .i64]) = Tf.slices_IndexFunc___string_string__read_names_1.f F a := by kernel_rfl
def Tf.slices_IndexFunc___string_string__read_names_1.e (F : Nat) : Fn := mkFn (⟨[.v 4, .p], [.p]⟩ : Sig) [.sl 4, .fn0 79] [.pure] [.int .i64] (Tf.slices_IndexFunc___string_string__read_names_1.f F)
theorem Tf.slices_IndexFunc___string_string__read_names_1.ok (F : Nat) : EntryOk Proofs.Tryz.prog tyT.G 97 (Tf.slices_IndexFunc___string_string__read_names_1.e F) :=
  fn_ok tyT_ok rfl mix (.cons (Tf.read_names_1.ok F) .nil) (Λ := (look [(2, fun st κ => hand [.slot 8, .view 0 4, .slot 1, .slot 7] [.int .i64, .sl 4, .fn0 79, .int .i64] [⟨.ret, [.slot 4], [.int .i64]⟩, ⟨.exit 0, [], []⟩] (Tf.slices_IndexFunc___string_string__read_names_1.l2 F) st κ)] : Loops)) (fn := Proofs.Tryz.f97) (c := Tf.slices_IndexFunc___string_string__read_names_1.c) (LoopsOk.of (bs := [Tf.slices_IndexFunc___string_string__read_names_1.b2]) (by kernel_rfl) (.cons rfl (Tf.slices_IndexFunc___string_string__read_names_1.l2_ok F) .nil)) (by kernel_rfl) (by kernel_rfl) (by kernel_rfl) (by kernel_rfl) (res1 (by kernel_rfl)) (by decide) (Tf.slices_IndexFunc___string_string__read_names_1.f_ok F)
noncomputable def Tf.slices_ContainsFunc___string_string__read_names_1.c : Code := (Proofs.Tryz.f78.body).getD .skip
def Tf.slices_ContainsFunc___string_string__read_names_1.f (F : Nat) (a : ((List ByteArray) × Unit)) : Option Bool :=
 (Option.bind (Tf.slices_IndexFunc___string_string__read_names_1.f F (a.1, ())) (fun y7 => (some (decide (y7 ≥ (0 : Int))))))
theorem Tf.slices_ContainsFunc___string_string__read_names_1.f_ok (F : Nat) (a) : exec tyT (look [(97, Tf.slices_IndexFunc___string_string__read_names_1.e F), (79, Tf.read_names_1.e F)] : Fns) 9 (look [] : Loops) Tf.slices_ContainsFunc___string_string__read_names_1.c (init [.v 4, .p] (encKs [.sl 4, .fn0 79] a)) (finT (look [(97, Tf.slices_IndexFunc___string_string__read_names_1.e F), (79, Tf.read_names_1.e F)] : Fns) (⟨[.v 4, .p], [.p]⟩ : Sig) [4] [.pure] [.bool]) = Tf.slices_ContainsFunc___string_string__read_names_1.f F a := by kernel_rfl
def Tf.slices_ContainsFunc___string_string__read_names_1.e (F : Nat) : Fn := mkFn (⟨[.v 4, .p], [.p]⟩ : Sig) [.sl 4, .fn0 79] [.pure] [.bool] (Tf.slices_ContainsFunc___string_string__read_names_1.f F)
theorem Tf.slices_ContainsFunc___string_string__read_names_1.ok (F : Nat) : EntryOk Proofs.Tryz.prog tyT.G 78 (Tf.slices_ContainsFunc___string_string__read_names_1.e F) :=
  fn_ok tyT_ok rfl mix (.cons (Tf.slices_IndexFunc___string_string__read_names_1.ok F) (.cons (Tf.read_names_1.ok F) .nil)) (Λ := (look [] : Loops)) (fn := Proofs.Tryz.f78) (c := Tf.slices_ContainsFunc___string_string__read_names_1.c) (LoopsOk.of (bs := []) (by kernel_rfl) .nil) (by kernel_rfl) (by kernel_rfl) (by kernel_rfl) (by kernel_rfl) (res1 (by kernel_rfl)) (by decide) (Tf.slices_ContainsFunc___string_string__read_names_1.f_ok F)
noncomputable def Tf.read_names.c : Code := (Proofs.Tryz.f59.body).getD .skip
def Tf.read_names.f (F : Nat) (a : (List ByteArray)) : Option Bool :=
 (Option.bind (Tf.slices_ContainsFunc___string_string__read_names_1.f F (a, ())) (fun y6 => (some (!y6))))
theorem Tf.read_names.f_ok (F : Nat) (a) : exec tyT (look [(78, Tf.slices_ContainsFunc___string_string__read_names_1.e F), (79, Tf.read_names_1.e F)] : Fns) 6 (look [] : Loops) Tf.read_names.c (init [.v 4] (encKs [.sl 4] a)) (finT (look [(78, Tf.slices_ContainsFunc___string_string__read_names_1.e F), (79, Tf.read_names_1.e F)] : Fns) (⟨[.v 4], [.p]⟩ : Sig) [2] [.pure] [.bool]) = Tf.read_names.f F a := by kernel_rfl
def Tf.read_names.e (F : Nat) : Fn := mkFn (⟨[.v 4], [.p]⟩ : Sig) [.sl 4] [.pure] [.bool] (Tf.read_names.f F)
theorem Tf.read_names.ok (F : Nat) : EntryOk Proofs.Tryz.prog tyT.G 59 (Tf.read_names.e F) :=
  fn_ok tyT_ok rfl mix (.cons (Tf.slices_ContainsFunc___string_string__read_names_1.ok F) (.cons (Tf.read_names_1.ok F) .nil)) (Λ := (look [] : Loops)) (fn := Proofs.Tryz.f59) (c := Tf.read_names.c) (LoopsOk.of (bs := []) (by kernel_rfl) .nil) (by kernel_rfl) (by kernel_rfl) (by kernel_rfl) (by kernel_rfl) (res1 (by kernel_rfl)) (by decide) (Tf.read_names.f_ok F)
noncomputable def Tf.nat_Right_1.c : Code := (Proofs.Tryz.f152.body).getD .skip
def Tf.nat_Right_1.f (F : Nat) (a : Int) : Option Bool :=
 (bif (decide (a < (48 : Int))) then (some Bool.true)
 else (some (decide (a > (57 : Int)))))
theorem Tf.nat_Right_1.f_ok (F : Nat) (a) : exec tyT (look [] : Fns) 9 (look [] : Loops) Tf.nat_Right_1.c (init [.p] (encKs [.int .i32] a)) (finT (look [] : Fns) (⟨[.p], [.p]⟩ : Sig) [2] [.pure] [.bool]) = Tf.nat_Right_1.f F a := by kernel_rfl
def Tf.nat_Right_1.e (F : Nat) : Fn := mkFn (⟨[.p], [.p]⟩ : Sig) [.int .i32] [.pure] [.bool] (Tf.nat_Right_1.f F)
theorem Tf.nat_Right_1.ok (F : Nat) : EntryOk Proofs.Tryz.prog tyT.G 152 (Tf.nat_Right_1.e F) :=
  fn_ok tyT_ok rfl mix .nil (Λ := (look [] : Loops)) (fn := Proofs.Tryz.f152) (c := Tf.nat_Right_1.c) (LoopsOk.of (bs := []) (by kernel_rfl) .nil) (by kernel_rfl) (by kernel_rfl) (by kernel_rfl) (by kernel_rfl) (res1 (by kernel_rfl)) (by decide) (Tf.nat_Right_1.f_ok F)
noncomputable def Tf.nat_Right.c : Code := (Proofs.Tryz.f117.body).getD .skip
def Tf.nat_Right.f (F : Nat) (a : ByteArray) : Option Bool :=
 (bif (seqB a (⟨#[]⟩ : ByteArray)) then (some Bool.false)
 else (bif (inR (0 : Int) (ByteArray.size a)) then (bif ((byteAt a (0 : Int)) == (48 : Int)) then (bif (decide (((ByteArray.size a) : Int) > (1 : Int))) then (some Bool.false)
 else (Option.bind (Tf.strings_IndexFunc_nat_Right_1.f F (a, ())) (fun y18 => (some (decide (y18 < (0 : Int)))))))
 else (Option.bind (Tf.strings_IndexFunc_nat_Right_1.f F (a, ())) (fun y15 => (some (decide (y15 < (0 : Int)))))))
 else none))
theorem Tf.nat_Right.f_ok (F : Nat) (a) : exec tyT (look [(151, Tf.strings_IndexFunc_nat_Right_1.e F), (152, Tf.nat_Right_1.e F)] : Fns) 18 (look [] : Loops) Tf.nat_Right.c (init [.p] (encKs [.str] a)) (finT (look [(151, Tf.strings_IndexFunc_nat_Right_1.e F), (152, Tf.nat_Right_1.e F)] : Fns) (⟨[.p], [.p]⟩ : Sig) [2] [.pure] [.bool]) = Tf.nat_Right.f F a := by kernel_rfl
def Tf.nat_Right.e (F : Nat) : Fn := mkFn (⟨[.p], [.p]⟩ : Sig) [.str] [.pure] [.bool] (Tf.nat_Right.f F)
theorem Tf.nat_Right.ok (F : Nat) : EntryOk Proofs.Tryz.prog tyT.G 117 (Tf.nat_Right.e F) :=
  fn_ok tyT_ok rfl mix (.cons (Tf.strings_IndexFunc_nat_Right_1.ok F) (.cons (Tf.nat_Right_1.ok F) .nil)) (Λ := (look [] : Loops)) (fn := Proofs.Tryz.f117) (c := Tf.nat_Right.c) (LoopsOk.of (bs := []) (by kernel_rfl) .nil) (by kernel_rfl) (by kernel_rfl) (by kernel_rfl) (by kernel_rfl) (res1 (by kernel_rfl)) (by decide) (Tf.nat_Right.f_ok F)
noncomputable def Tf.internal_stringslite_HasPrefix.c : Code := (Proofs.Tryz.f138.body).getD .skip
def Tf.internal_stringslite_HasPrefix.f (F : Nat) (a : (ByteArray × ByteArray)) : Option Bool :=
 (bif (decide (((ByteArray.size a.1) : Int) ≥ ((ByteArray.size a.2) : Int))) then (bif ((decide ((0 : Int) ≤ ((ByteArray.size a.2) : Int))) && (decide (((ByteArray.size a.2) : Int) ≤ ((ByteArray.size a.1) : Int)))) then (some (seqB (ByteArray.extract a.1 0 (Int.toNat ((ByteArray.size a.2) : Int))) a.2))
 else none)
 else (some Bool.false))
theorem Tf.internal_stringslite_HasPrefix.f_ok (F : Nat) (a) : exec tyT (look [] : Fns) 18 (look [] : Loops) Tf.internal_stringslite_HasPrefix.c (init [.p, .p] (encKs [.str, .str] a)) (finT (look [] : Fns) (⟨[.p, .p], [.p]⟩ : Sig) [4] [.pure] [.bool]) = Tf.internal_stringslite_HasPrefix.f F a := by kernel_rfl
def Tf.internal_stringslite_HasPrefix.e (F : Nat) : Fn := mkFn (⟨[.p, .p], [.p]⟩ : Sig) [.str, .str] [.pure] [.bool] (Tf.internal_stringslite_HasPrefix.f F)
theorem Tf.internal_stringslite_HasPrefix.ok (F : Nat) : EntryOk Proofs.Tryz.prog tyT.G 138 (Tf.internal_stringslite_HasPrefix.e F) :=
  fn_ok tyT_ok rfl mix .nil (Λ := (look [] : Loops)) (fn := Proofs.Tryz.f138) (c := Tf.internal_stringslite_HasPrefix.c) (LoopsOk.of (bs := []) (by kernel_rfl) .nil) (by kernel_rfl) (by kernel_rfl) (by kernel_rfl) (by kernel_rfl) (res1 (by kernel_rfl)) (by decide) (Tf.internal_stringslite_HasPrefix.f_ok F)
noncomputable def Tf.internal_stringslite_CutPrefix.c : Code := (Proofs.Tryz.f108.body).getD .skip
def Tf.internal_stringslite_CutPrefix.f (F : Nat) (a : (ByteArray × ByteArray)) : Option (ByteArray × Bool) :=
 (Option.bind (Tf.internal_stringslite_HasPrefix.f F (a.1, a.2)) (fun y8 => (bif (!y8) then (some (a.1, Bool.false))
 else (bif ((decide ((0 : Int) ≤ ((ByteArray.size a.2) : Int))) && (decide (((ByteArray.size a.2) : Int) ≤ ((ByteArray.size a.1) : Int)))) then (some ((ByteArray.extract a.1 (Int.toNat ((ByteArray.size a.2) : Int)) (ByteArray.size a.1)), Bool.true))
 else none))))
theorem Tf.internal_stringslite_CutPrefix.f_ok (F : Nat) (a) : exec tyT (look [(138, Tf.internal_stringslite_HasPrefix.e F)] : Fns) 15 (look [] : Loops) Tf.internal_stringslite_CutPrefix.c (init [.p, .p] (encKs [.str, .str] a)) (finT (look [(138, Tf.internal_stringslite_HasPrefix.e F)] : Fns) (⟨[.p, .p], [.p, .p]⟩ : Sig) [4, 5] [.pure, .pure] [.str, .bool]) = Tf.internal_stringslite_CutPrefix.f F a := by kernel_rfl
def Tf.internal_stringslite_CutPrefix.e (F : Nat) : Fn := mkFn (⟨[.p, .p], [.p, .p]⟩ : Sig) [.str, .str] [.pure, .pure] [.str, .bool] (Tf.internal_stringslite_CutPrefix.f F)
theorem Tf.internal_stringslite_CutPrefix.ok (F : Nat) : EntryOk Proofs.Tryz.prog tyT.G 108 (Tf.internal_stringslite_CutPrefix.e F) :=
  fn_ok tyT_ok rfl mix (.cons (Tf.internal_stringslite_HasPrefix.ok F) .nil) (Λ := (look [] : Loops)) (fn := Proofs.Tryz.f108) (c := Tf.internal_stringslite_CutPrefix.c) (LoopsOk.of (bs := []) (by kernel_rfl) .nil) (by kernel_rfl) (by kernel_rfl) (by kernel_rfl) (by kernel_rfl) (res2 (by kernel_rfl)) (by decide) (Tf.internal_stringslite_CutPrefix.f_ok F)
noncomputable def Tf.strings_CutPrefix.c : Code := (Proofs.Tryz.f90.body).getD .skip
def Tf.strings_CutPrefix.f (F : Nat) (a : (ByteArray × ByteArray)) : Option (ByteArray × Bool) :=
 (Option.bind (Tf.internal_stringslite_CutPrefix.f F (a.1, a.2)) (fun y8 => (some (y8.1, y8.2))))
theorem Tf.strings_CutPrefix.f_ok (F : Nat) (a) : exec tyT (look [(108, Tf.internal_stringslite_CutPrefix.e F)] : Fns) 11 (look [] : Loops) Tf.strings_CutPrefix.c (init [.p, .p] (encKs [.str, .str] a)) (finT (look [(108, Tf.internal_stringslite_CutPrefix.e F)] : Fns) (⟨[.p, .p], [.p, .p]⟩ : Sig) [4, 5] [.pure, .pure] [.str, .bool]) = Tf.strings_CutPrefix.f F a := by kernel_rfl
def Tf.strings_CutPrefix.e (F : Nat) : Fn := mkFn (⟨[.p, .p], [.p, .p]⟩ : Sig) [.str, .str] [.pure, .pure] [.str, .bool] (Tf.strings_CutPrefix.f F)
theorem Tf.strings_CutPrefix.ok (F : Nat) : EntryOk Proofs.Tryz.prog tyT.G 90 (Tf.strings_CutPrefix.e F) :=
  fn_ok tyT_ok rfl mix (.cons (Tf.internal_stringslite_CutPrefix.ok F) .nil) (Λ := (look [] : Loops)) (fn := Proofs.Tryz.f90) (c := Tf.strings_CutPrefix.c) (LoopsOk.of (bs := []) (by kernel_rfl) .nil) (by kernel_rfl) (by kernel_rfl) (by kernel_rfl) (by kernel_rfl) (res2 (by kernel_rfl)) (by decide) (Tf.strings_CutPrefix.f_ok F)
noncomputable def Tf.whole_read.c : Code := (Proofs.Tryz.f150.body).getD .skip
def Tf.whole_read.f (F : Nat) (a : ByteArray) : Option ((Bool × ByteArray) × Bool) :=
 (Option.bind (Tf.strings_CutPrefix.f F (a, (⟨#[45]⟩ : ByteArray))) (fun y7 => (Option.bind (Tf.nat_Right.f F y7.1) (fun y18 => (bif y18 then (bif y7.2 then (some ((y7.2, y7.1), (!(seqB y7.1 (⟨#[48]⟩ : ByteArray)))))
 else (some ((y7.2, y7.1), Bool.true)))
 else (some ((y7.2, y7.1), Bool.false)))))))
theorem Tf.whole_read.f_ok (F : Nat) (a) : exec tyT (look [(90, Tf.strings_CutPrefix.e F), (117, Tf.nat_Right.e F)] : Fns) 24 (look [] : Loops) Tf.whole_read.c (init [.p] (encKs [.str] a)) (finC tyT (look [(90, Tf.strings_CutPrefix.e F), (117, Tf.nat_Right.e F)] : Fns) 24 2 170 (⟨[.p], [.p, .p]⟩ : Sig) [2, 3] [.pure, .pure] [.st [.bool, .str], .bool]) = Tf.whole_read.f F a := by kernel_rfl
def Tf.whole_read.e (F : Nat) : Fn := mkFn (⟨[.p], [.p, .p]⟩ : Sig) [.str] [.pure, .pure] [.st [.bool, .str], .bool] (Tf.whole_read.f F)
theorem Tf.whole_read.ok (F : Nat) : EntryOk Proofs.Tryz.prog tyT.G 150 (Tf.whole_read.e F) :=
  fn_okC tyT_ok rfl mix (.cons (Tf.strings_CutPrefix.ok F) (.cons (Tf.nat_Right.ok F) .nil)) (Λ := (look [] : Loops)) (fn := Proofs.Tryz.f150) (c := Tf.whole_read.c) (LoopsOk.of (bs := []) (by kernel_rfl) .nil) (by kernel_rfl) (by kernel_rfl) (by kernel_rfl) (by kernel_rfl) (resC1 (by kernel_rfl) (by kernel_rfl)) (by decide) (Tf.whole_read.f_ok F)
noncomputable def Tf.whole_Right.c : Code := (Proofs.Tryz.f116.body).getD .skip
def Tf.whole_Right.f (F : Nat) (a : ByteArray) : Option Bool :=
 (Option.bind (Tf.whole_read.f F a) (fun y6 => (some y6.2)))
theorem Tf.whole_Right.f_ok (F : Nat) (a) : exec tyT (look [(150, Tf.whole_read.e F)] : Fns) 11 (look [] : Loops) Tf.whole_Right.c (init [.p] (encKs [.str] a)) (finT (look [(150, Tf.whole_read.e F)] : Fns) (⟨[.p], [.p]⟩ : Sig) [2] [.pure] [.bool]) = Tf.whole_Right.f F a := by kernel_rfl
def Tf.whole_Right.e (F : Nat) : Fn := mkFn (⟨[.p], [.p]⟩ : Sig) [.str] [.pure] [.bool] (Tf.whole_Right.f F)
theorem Tf.whole_Right.ok (F : Nat) : EntryOk Proofs.Tryz.prog tyT.G 116 (Tf.whole_Right.e F) :=
  fn_ok tyT_ok rfl mix (.cons (Tf.whole_read.ok F) .nil) (Λ := (look [] : Loops)) (fn := Proofs.Tryz.f116) (c := Tf.whole_Right.c) (LoopsOk.of (bs := []) (by kernel_rfl) .nil) (by kernel_rfl) (by kernel_rfl) (by kernel_rfl) (by kernel_rfl) (res1 (by kernel_rfl)) (by decide) (Tf.whole_Right.f_ok F)
noncomputable def Tf.strings_HasPrefix.c : Code := (Proofs.Tryz.f153.body).getD .skip
def Tf.strings_HasPrefix.f (F : Nat) (a : (ByteArray × ByteArray)) : Option Bool :=
 (Option.bind (Tf.internal_stringslite_HasPrefix.f F (a.1, a.2)) (fun y7 => (some y7)))
theorem Tf.strings_HasPrefix.f_ok (F : Nat) (a) : exec tyT (look [(138, Tf.internal_stringslite_HasPrefix.e F)] : Fns) 8 (look [] : Loops) Tf.strings_HasPrefix.c (init [.p, .p] (encKs [.str, .str] a)) (finT (look [(138, Tf.internal_stringslite_HasPrefix.e F)] : Fns) (⟨[.p, .p], [.p]⟩ : Sig) [4] [.pure] [.bool]) = Tf.strings_HasPrefix.f F a := by kernel_rfl
def Tf.strings_HasPrefix.e (F : Nat) : Fn := mkFn (⟨[.p, .p], [.p]⟩ : Sig) [.str, .str] [.pure] [.bool] (Tf.strings_HasPrefix.f F)
theorem Tf.strings_HasPrefix.ok (F : Nat) : EntryOk Proofs.Tryz.prog tyT.G 153 (Tf.strings_HasPrefix.e F) :=
  fn_ok tyT_ok rfl mix (.cons (Tf.internal_stringslite_HasPrefix.ok F) .nil) (Λ := (look [] : Loops)) (fn := Proofs.Tryz.f153) (c := Tf.strings_HasPrefix.c) (LoopsOk.of (bs := []) (by kernel_rfl) .nil) (by kernel_rfl) (by kernel_rfl) (by kernel_rfl) (by kernel_rfl) (res1 (by kernel_rfl)) (by decide) (Tf.strings_HasPrefix.f_ok F)
noncomputable def Tf._whole_number__text.c : Code := (Proofs.Tryz.f172.body).getD .skip
def Tf._whole_number__text.f (F : Nat) (a : (Bool × ByteArray)) : Option ByteArray :=
 (bif a.1 then (bif (!(seqB a.2 (⟨#[48]⟩ : ByteArray))) then (bif (Nat.ble (1 + (ByteArray.size a.2)) 4611686018427387904) then (some ((⟨#[45]⟩ : ByteArray) ++ a.2))
 else none)
 else (some a.2))
 else (some a.2))
theorem Tf._whole_number__text.f_ok (F : Nat) (a) : exec tyT (look [] : Fns) 15 (look [] : Loops) Tf._whole_number__text.c (init [.p] (encKs [.st [.bool, .str]] a)) (finT (look [] : Fns) (⟨[.p], [.p]⟩ : Sig) [2] [.pure] [.str]) = Tf._whole_number__text.f F a := by kernel_rfl
def Tf._whole_number__text.e (F : Nat) : Fn := mkFn (⟨[.p], [.p]⟩ : Sig) [.st [.bool, .str]] [.pure] [.str] (Tf._whole_number__text.f F)
theorem Tf._whole_number__text.ok (F : Nat) : EntryOk Proofs.Tryz.prog tyT.G 172 (Tf._whole_number__text.e F) :=
  fn_ok tyT_ok rfl mix .nil (Λ := (look [] : Loops)) (fn := Proofs.Tryz.f172) (c := Tf._whole_number__text.c) (LoopsOk.of (bs := []) (by kernel_rfl) .nil) (by kernel_rfl) (by kernel_rfl) (by kernel_rfl) (by kernel_rfl) (res1 (by kernel_rfl)) (by decide) (Tf._whole_number__text.f_ok F)
noncomputable def Tf.whole_Neg.c : Code := (Proofs.Tryz.f154.body).getD .skip
def Tf.whole_Neg.f (F : Nat) (a : ByteArray) : Option (ByteArray × Int) :=
 (Option.bind (Tf.whole_read.f F a) (fun y7 => (bif (!y7.2) then (some ((⟨#[]⟩ : ByteArray), (2 : Int)))
 else (Option.bind (Tf._whole_number__text.f F ((!y7.1.1), y7.1.2)) (fun y23 => (some (y23, (0 : Int))))))))
theorem Tf.whole_Neg.f_ok (F : Nat) (a) : exec tyT (look [(150, Tf.whole_read.e F), (172, Tf._whole_number__text.e F)] : Fns) 19 (look [] : Loops) Tf.whole_Neg.c (init [.p] (encKs [.str] a)) (finT (look [(150, Tf.whole_read.e F), (172, Tf._whole_number__text.e F)] : Fns) (⟨[.p], [.p, .p]⟩ : Sig) [2, 3] [.pure, .pure] [.str, .int .i64]) = Tf.whole_Neg.f F a := by kernel_rfl
def Tf.whole_Neg.e (F : Nat) : Fn := mkFn (⟨[.p], [.p, .p]⟩ : Sig) [.str] [.pure, .pure] [.str, .int .i64] (Tf.whole_Neg.f F)
theorem Tf.whole_Neg.ok (F : Nat) : EntryOk Proofs.Tryz.prog tyT.G 154 (Tf.whole_Neg.e F) :=
  fn_ok tyT_ok rfl mix (.cons (Tf.whole_read.ok F) (.cons (Tf._whole_number__text.ok F) .nil)) (Λ := (look [] : Loops)) (fn := Proofs.Tryz.f154) (c := Tf.whole_Neg.c) (LoopsOk.of (bs := []) (by kernel_rfl) .nil) (by kernel_rfl) (by kernel_rfl) (by kernel_rfl) (by kernel_rfl) (res2 (by kernel_rfl)) (by decide) (Tf.whole_Neg.f_ok F)
noncomputable def Tf.internal_stringslite_TrimPrefix.c : Code := (Proofs.Tryz.f181.body).getD .skip
def Tf.internal_stringslite_TrimPrefix.f (F : Nat) (a : (ByteArray × ByteArray)) : Option ByteArray :=
 (Option.bind (Tf.internal_stringslite_HasPrefix.f F (a.1, a.2)) (fun y7 => (bif y7 then (bif ((decide ((0 : Int) ≤ ((ByteArray.size a.2) : Int))) && (decide (((ByteArray.size a.2) : Int) ≤ ((ByteArray.size a.1) : Int)))) then (some (ByteArray.extract a.1 (Int.toNat ((ByteArray.size a.2) : Int)) (ByteArray.size a.1)))
 else none)
 else (some a.1))))
theorem Tf.internal_stringslite_TrimPrefix.f_ok (F : Nat) (a) : exec tyT (look [(138, Tf.internal_stringslite_HasPrefix.e F)] : Fns) 13 (look [] : Loops) Tf.internal_stringslite_TrimPrefix.c (init [.p, .p] (encKs [.str, .str] a)) (finT (look [(138, Tf.internal_stringslite_HasPrefix.e F)] : Fns) (⟨[.p, .p], [.p]⟩ : Sig) [4] [.pure] [.str]) = Tf.internal_stringslite_TrimPrefix.f F a := by kernel_rfl
def Tf.internal_stringslite_TrimPrefix.e (F : Nat) : Fn := mkFn (⟨[.p, .p], [.p]⟩ : Sig) [.str, .str] [.pure] [.str] (Tf.internal_stringslite_TrimPrefix.f F)
theorem Tf.internal_stringslite_TrimPrefix.ok (F : Nat) : EntryOk Proofs.Tryz.prog tyT.G 181 (Tf.internal_stringslite_TrimPrefix.e F) :=
  fn_ok tyT_ok rfl mix (.cons (Tf.internal_stringslite_HasPrefix.ok F) .nil) (Λ := (look [] : Loops)) (fn := Proofs.Tryz.f181) (c := Tf.internal_stringslite_TrimPrefix.c) (LoopsOk.of (bs := []) (by kernel_rfl) .nil) (by kernel_rfl) (by kernel_rfl) (by kernel_rfl) (by kernel_rfl) (res1 (by kernel_rfl)) (by decide) (Tf.internal_stringslite_TrimPrefix.f_ok F)
noncomputable def Tf.strings_TrimPrefix.c : Code := (Proofs.Tryz.f173.body).getD .skip
def Tf.strings_TrimPrefix.f (F : Nat) (a : (ByteArray × ByteArray)) : Option ByteArray :=
 (Option.bind (Tf.internal_stringslite_TrimPrefix.f F (a.1, a.2)) (fun y7 => (some y7)))
theorem Tf.strings_TrimPrefix.f_ok (F : Nat) (a) : exec tyT (look [(181, Tf.internal_stringslite_TrimPrefix.e F)] : Fns) 8 (look [] : Loops) Tf.strings_TrimPrefix.c (init [.p, .p] (encKs [.str, .str] a)) (finT (look [(181, Tf.internal_stringslite_TrimPrefix.e F)] : Fns) (⟨[.p, .p], [.p]⟩ : Sig) [4] [.pure] [.str]) = Tf.strings_TrimPrefix.f F a := by kernel_rfl
def Tf.strings_TrimPrefix.e (F : Nat) : Fn := mkFn (⟨[.p, .p], [.p]⟩ : Sig) [.str, .str] [.pure] [.str] (Tf.strings_TrimPrefix.f F)
theorem Tf.strings_TrimPrefix.ok (F : Nat) : EntryOk Proofs.Tryz.prog tyT.G 173 (Tf.strings_TrimPrefix.e F) :=
  fn_ok tyT_ok rfl mix (.cons (Tf.internal_stringslite_TrimPrefix.ok F) .nil) (Λ := (look [] : Loops)) (fn := Proofs.Tryz.f173) (c := Tf.strings_TrimPrefix.c) (LoopsOk.of (bs := []) (by kernel_rfl) .nil) (by kernel_rfl) (by kernel_rfl) (by kernel_rfl) (by kernel_rfl) (res1 (by kernel_rfl)) (by decide) (Tf.strings_TrimPrefix.f_ok F)
noncomputable def Tf.rat_size.c : Code := (Proofs.Tryz.f155.body).getD .skip
def Tf.rat_size.f (F : Nat) (a : ByteArray) : Option ByteArray :=
 (Option.bind (Tf.strings_TrimPrefix.f F (a, (⟨#[45]⟩ : ByteArray))) (fun y6 => (some y6)))
theorem Tf.rat_size.f_ok (F : Nat) (a) : exec tyT (look [(173, Tf.strings_TrimPrefix.e F)] : Fns) 5 (look [] : Loops) Tf.rat_size.c (init [.p] (encKs [.str] a)) (finT (look [(173, Tf.strings_TrimPrefix.e F)] : Fns) (⟨[.p], [.p]⟩ : Sig) [2] [.pure] [.str]) = Tf.rat_size.f F a := by kernel_rfl
def Tf.rat_size.e (F : Nat) : Fn := mkFn (⟨[.p], [.p]⟩ : Sig) [.str] [.pure] [.str] (Tf.rat_size.f F)
theorem Tf.rat_size.ok (F : Nat) : EntryOk Proofs.Tryz.prog tyT.G 155 (Tf.rat_size.e F) :=
  fn_ok tyT_ok rfl mix (.cons (Tf.strings_TrimPrefix.ok F) .nil) (Λ := (look [] : Loops)) (fn := Proofs.Tryz.f155) (c := Tf.rat_size.c) (LoopsOk.of (bs := []) (by kernel_rfl) .nil) (by kernel_rfl) (by kernel_rfl) (by kernel_rfl) (by kernel_rfl) (res1 (by kernel_rfl)) (by decide) (Tf.rat_size.f_ok F)
noncomputable def Tf.nat_trim.c : Code := (Proofs.Tryz.f182.body).getD .skip
noncomputable def Tf.nat_trim.b1 : Code := codeAt [1, 0, 0, 0] Tf.nat_trim.c
def Tf.nat_trim.s1 (F : Nat) (L : (List Int) → Option (List Int)) (x : (List Int)) : Option (List Int) :=
 (bif (decide (((List.length x) : Int) > (0 : Int))) then (bif (inR (IntKind.wrap .i64 (((List.length x) : Int) - (1 : Int))) (List.length x)) then (bif ((List.getD x (Int.toNat (IntKind.wrap .i64 (((List.length x) : Int) - (1 : Int)))) (0 : Int)) == (0 : Int)) then (bif ((decide ((0 : Int) ≤ (IntKind.wrap .i64 (((List.length x) : Int) - (1 : Int))))) && (decide ((IntKind.wrap .i64 (((List.length x) : Int) - (1 : Int))) ≤ ((List.length x) : Int)))) then (L (List.take ((Int.toNat (IntKind.wrap .i64 (((List.length x) : Int) - (1 : Int)))) - 0) x))
 else none)
 else (some x))
 else none)
 else (some x))
def Tf.nat_trim.l1 (F : Nat) : (List Int) → Option (List Int) := iter (Tf.nat_trim.s1 F) F
theorem Tf.nat_trim.s1_ok (F : Nat) (L a) : exec tyT (look [] : Fns) 21 (look [] : Loops) Tf.nat_trim.b1 (rebuild [.own 0 2] (encKs [.sl 2] a)) (bodyK [.own 0 2] [.sl 2] [⟨.exit 0, [.own 0 2], [.sl 2]⟩] L) = Tf.nat_trim.s1 F L a := by kernel_rfl
theorem Tf.nat_trim.l1_ok (F : Nat) : LoopOk Proofs.Tryz.prog tyT.G 21 Tf.nat_trim.b1 (fun st κ => hand [.own 0 2] [.sl 2] [⟨.exit 0, [.own 0 2], [.sl 2]⟩] (Tf.nat_trim.l1 F) st κ) :=
  loop_ok tyT_ok rfl mix .nil (Λ := (look [] : Loops)) (LoopsOk.of (bs := []) (by kernel_rfl) .nil) (Tf.nat_trim.s1_ok F) F
def Tf.nat_trim.f (F : Nat) (a : (List Int)) : Option (List Int) :=
 (Option.bind (Tf.nat_trim.l1 F a) (fun y4 => (some y4)))
theorem Tf.nat_trim.f_ok (F : Nat) (a) : exec tyT (look [] : Fns) 21 (look [(1, fun st κ => hand [.own 0 2] [.sl 2] [⟨.exit 0, [.own 0 2], [.sl 2]⟩] (Tf.nat_trim.l1 F) st κ)] : Loops) Tf.nat_trim.c (init [.o 2] (encKs [.sl 2] a)) (finT (look [] : Fns) (⟨[.o 2], [.o 2]⟩ : Sig) [2] [.own] [.sl 2]) = Tf.nat_trim.f F a := by kernel_rfl
def Tf.nat_trim.e (F : Nat) : Fn := mkFn (⟨[.o 2], [.o 2]⟩ : Sig) [.sl 2] [.own] [.sl 2] (Tf.nat_trim.f F)
theorem Tf.nat_trim.ok (F : Nat) : EntryOk Proofs.Tryz.prog tyT.G 182 (Tf.nat_trim.e F) :=
  fn_ok tyT_ok rfl mix .nil (Λ := (look [(1, fun st κ => hand [.own 0 2] [.sl 2] [⟨.exit 0, [.own 0 2], [.sl 2]⟩] (Tf.nat_trim.l1 F) st κ)] : Loops)) (fn := Proofs.Tryz.f182) (c := Tf.nat_trim.c) (LoopsOk.of (bs := [Tf.nat_trim.b1]) (by kernel_rfl) (.cons rfl (Tf.nat_trim.l1_ok F) .nil)) (by kernel_rfl) (by kernel_rfl) (by kernel_rfl) (by kernel_rfl) (res1 (by kernel_rfl)) (by decide) (Tf.nat_trim.f_ok F)
noncomputable def Tf.nat_step.c : Code := (Proofs.Tryz.f192.body).getD .skip
noncomputable def Tf.nat_step.b3 : Code := codeAt [1, 1, 0, 1, 0, 0] Tf.nat_step.c
def Tf.nat_step.s3 (F : Nat) (L : (Int × ((List Int) × (Int × (Int × ((List Int) × Int))))) → Option (Int × (List Int))) (x : (Int × ((List Int) × (Int × (Int × ((List Int) × Int)))))) : Option (Int × (List Int)) :=
 (bif (decide (x.1 < x.2.2.2.2.2)) then (bif (inR x.1 (List.length x.2.2.2.2.1)) then (bif (Nat.ble ((List.length x.2.1) + 1) 1099511627776) then (L ((IntKind.wrap .i64 (x.1 + (1 : Int))), ((x.2.1 ++ (List.set (List.replicate 1 (0 : Int)) 0 (Go.IntKind.wrap IntKind.u32 (Go.IntKind.wrap IntKind.u64 (x.2.2.2.1 + (Go.IntKind.wrap IntKind.u64 ((Go.IntKind.wrap IntKind.u64 (List.getD x.2.2.2.2.1 (Int.toNat x.1) (0 : Int))) * x.2.2.1))))))), (x.2.2.1, ((Int.fdiv (Go.IntKind.wrap IntKind.u64 (x.2.2.2.1 + (Go.IntKind.wrap IntKind.u64 ((Go.IntKind.wrap IntKind.u64 (List.getD x.2.2.2.2.1 (Int.toNat x.1) (0 : Int))) * x.2.2.1)))) (4294967296 : Int)), (x.2.2.2.2.1, x.2.2.2.2.2))))))
 else none)
 else none)
 else (some (x.2.2.2.1, x.2.1)))
def Tf.nat_step.l3 (F : Nat) : (Int × ((List Int) × (Int × (Int × ((List Int) × Int))))) → Option (Int × (List Int)) := iter (Tf.nat_step.s3 F) F
theorem Tf.nat_step.s3_ok (F : Nat) (L a) : exec tyT (look [(182, Tf.nat_trim.e F)] : Fns) 40 (look [] : Loops) Tf.nat_step.b3 (rebuild [.slot 16, .own 7 2, .slot 1, .slot 2, .view 14 2, .slot 15] (encKs [.int .i64, .sl 2, .int .u64, .int .u64, .sl 2, .int .i64] a)) (bodyK [.slot 16, .own 7 2, .slot 1, .slot 2, .view 14 2, .slot 15] [.int .i64, .sl 2, .int .u64, .int .u64, .sl 2, .int .i64] [⟨.exit 0, [.slot 2, .own 7 2], [.int .u64, .sl 2]⟩] L) = Tf.nat_step.s3 F L a := by kernel_rfl
theorem Tf.nat_step.l3_ok (F : Nat) : LoopOk Proofs.Tryz.prog tyT.G 40 Tf.nat_step.b3 (fun st κ => hand [.slot 16, .own 7 2, .slot 1, .slot 2, .view 14 2, .slot 15] [.int .i64, .sl 2, .int .u64, .int .u64, .sl 2, .int .i64] [⟨.exit 0, [.slot 2, .own 7 2], [.int .u64, .sl 2]⟩] (Tf.nat_step.l3 F) st κ) :=
  loop_ok tyT_ok rfl mix (.cons (Tf.nat_trim.ok F) .nil) (Λ := (look [] : Loops)) (LoopsOk.of (bs := []) (by kernel_rfl) .nil) (Tf.nat_step.s3_ok F) F
def Tf.nat_step.f (F : Nat) (a : ((List Int) × (Int × Int))) : Option (List Int) :=
 (bif ((Bool.true && (decide ((0 : Int) ≤ (IntKind.wrap .i64 (((List.length a.1) : Int) + (1 : Int)))))) && (decide ((IntKind.wrap .i64 (((List.length a.1) : Int) + (1 : Int))) ≤ (1099511627776 : Int)))) then (Option.bind (Tf.nat_step.l3 F ((0 : Int), ((List.replicate 0 (0 : Int)), (a.2.1, (a.2.2, (a.1, ((List.length a.1) : Int))))))) (fun y12 => (bif (Nat.ble ((List.length y12.2) + 1) 1099511627776) then (Option.bind (Tf.nat_trim.f F (y12.2 ++ (List.set (List.replicate 1 (0 : Int)) 0 (Go.IntKind.wrap IntKind.u32 y12.1)))) (fun y19 => (some y19)))
 else none)))
 else none)
theorem Tf.nat_step.f_ok (F : Nat) (a) : exec tyT (look [(182, Tf.nat_trim.e F)] : Fns) 40 (look [(3, fun st κ => hand [.slot 16, .own 7 2, .slot 1, .slot 2, .view 14 2, .slot 15] [.int .i64, .sl 2, .int .u64, .int .u64, .sl 2, .int .i64] [⟨.exit 0, [.slot 2, .own 7 2], [.int .u64, .sl 2]⟩] (Tf.nat_step.l3 F) st κ)] : Loops) Tf.nat_step.c (init [.v 2, .p, .p] (encKs [.sl 2, .int .u64, .int .u64] a)) (finT (look [(182, Tf.nat_trim.e F)] : Fns) (⟨[.v 2, .p, .p], [.o 2]⟩ : Sig) [6] [.own] [.sl 2]) = Tf.nat_step.f F a := by kernel_rfl
def Tf.nat_step.e (F : Nat) : Fn := mkFn (⟨[.v 2, .p, .p], [.o 2]⟩ : Sig) [.sl 2, .int .u64, .int .u64] [.own] [.sl 2] (Tf.nat_step.f F)
theorem Tf.nat_step.ok (F : Nat) : EntryOk Proofs.Tryz.prog tyT.G 192 (Tf.nat_step.e F) :=
  fn_ok tyT_ok rfl mix (.cons (Tf.nat_trim.ok F) .nil) (Λ := (look [(3, fun st κ => hand [.slot 16, .own 7 2, .slot 1, .slot 2, .view 14 2, .slot 15] [.int .i64, .sl 2, .int .u64, .int .u64, .sl 2, .int .i64] [⟨.exit 0, [.slot 2, .own 7 2], [.int .u64, .sl 2]⟩] (Tf.nat_step.l3 F) st κ)] : Loops)) (fn := Proofs.Tryz.f192) (c := Tf.nat_step.c) (LoopsOk.of (bs := [Tf.nat_step.b3]) (by kernel_rfl) (.cons rfl (Tf.nat_step.l3_ok F) .nil)) (by kernel_rfl) (by kernel_rfl) (by kernel_rfl) (by kernel_rfl) (res1 (by kernel_rfl)) (by decide) (Tf.nat_step.f_ok F)
noncomputable def Tf.nat_read.c : Code := (Proofs.Tryz.f183.body).getD .skip
noncomputable def Tf.nat_read.b6 : Code := codeAt [1, 1, 0, 0, 0, 1, 0, 1, 1, 0, 1, 0, 0] Tf.nat_read.c
def Tf.nat_read.s6 (F : Nat) (L : (Int × (ByteArray × (Int × (Int × ((List Int) × Int))))) → Option (Int × (ByteArray × (Int × (List Int))))) (x : (Int × (ByteArray × (Int × (Int × ((List Int) × Int)))))) : Option (Int × (ByteArray × (Int × (List Int)))) :=
 (bif (decide (x.1 < x.2.2.2.2.2)) then (bif (inR x.1 (ByteArray.size x.2.1)) then (L ((IntKind.wrap .i64 (x.1 + (1 : Int))), (x.2.1, ((Go.IntKind.wrap IntKind.u64 ((Go.IntKind.wrap IntKind.u64 ((10 : Int) * x.2.2.1)) + (Go.IntKind.wrap IntKind.u64 (Go.IntKind.wrap IntKind.u8 ((byteAt x.2.1 x.1) - (48 : Int)))))), (x.2.2.2.1, (x.2.2.2.2.1, x.2.2.2.2.2))))))
 else none)
 else (some (x.2.2.2.1, (x.2.1, (x.2.2.1, x.2.2.2.2.1)))))
def Tf.nat_read.l6 (F : Nat) : (Int × (ByteArray × (Int × (Int × ((List Int) × Int))))) → Option (Int × (ByteArray × (Int × (List Int)))) := iter (Tf.nat_read.s6 F) F
theorem Tf.nat_read.s6_ok (F : Nat) (L a) : exec tyT (look [(192, Tf.nat_step.e F)] : Fns) 35 (look [] : Loops) Tf.nat_read.b6 (rebuild [.slot 16, .slot 0, .slot 5, .slot 4, .own 3 2, .slot 15] (encKs [.int .i64, .str, .int .u64, .int .i64, .sl 2, .int .i64] a)) (bodyK [.slot 16, .slot 0, .slot 5, .slot 4, .own 3 2, .slot 15] [.int .i64, .str, .int .u64, .int .i64, .sl 2, .int .i64] [⟨.exit 2, [.slot 4, .slot 0, .slot 5, .own 3 2], [.int .i64, .str, .int .u64, .sl 2]⟩] L) = Tf.nat_read.s6 F L a := by kernel_rfl
theorem Tf.nat_read.l6_ok (F : Nat) : LoopOk Proofs.Tryz.prog tyT.G 35 Tf.nat_read.b6 (fun st κ => hand [.slot 16, .slot 0, .slot 5, .slot 4, .own 3 2, .slot 15] [.int .i64, .str, .int .u64, .int .i64, .sl 2, .int .i64] [⟨.exit 2, [.slot 4, .slot 0, .slot 5, .own 3 2], [.int .i64, .str, .int .u64, .sl 2]⟩] (Tf.nat_read.l6 F) st κ) :=
  loop_ok tyT_ok rfl mix (.cons (Tf.nat_step.ok F) .nil) (Λ := (look [] : Loops)) (LoopsOk.of (bs := []) (by kernel_rfl) .nil) (Tf.nat_read.s6_ok F) F
noncomputable def Tf.nat_read.b2 : Code := codeAt [1, 1, 0, 0, 0] Tf.nat_read.c
def Tf.nat_read.s2 (F : Nat) (L : (ByteArray × (List Int)) → Option (List Int)) (x : (ByteArray × (List Int))) : Option (List Int) :=
 (bif (decide (((ByteArray.size x.1) : Int) > (0 : Int))) then (Option.bind (Tf.nat_read.l6 F ((0 : Int), (x.1, ((0 : Int), ((IntKind.wrap .i64 ((Int.tmod (IntKind.wrap .i64 (((ByteArray.size x.1) : Int) - (1 : Int))) (9 : Int)) + (1 : Int))), (x.2, (IntKind.wrap .i64 ((Int.tmod (IntKind.wrap .i64 (((ByteArray.size x.1) : Int) - (1 : Int))) (9 : Int)) + (1 : Int))))))))) (fun y18 => (Option.bind (Tf.nat_step.f F (y18.2.2.2, ((1000000000 : Int), y18.2.2.1))) (fun y22 => (bif ((decide ((0 : Int) ≤ y18.1)) && (decide (y18.1 ≤ ((ByteArray.size y18.2.1) : Int)))) then (L ((ByteArray.extract y18.2.1 (Int.toNat y18.1) (ByteArray.size y18.2.1)), y22))
 else none)))))
 else (some x.2))
def Tf.nat_read.l2 (F : Nat) : (ByteArray × (List Int)) → Option (List Int) := iter (Tf.nat_read.s2 F) F
theorem Tf.nat_read.s2_ok (F : Nat) (L a) : exec tyT (look [(192, Tf.nat_step.e F)] : Fns) 35 (look [(6, fun st κ => hand [.slot 16, .slot 0, .slot 5, .slot 4, .own 3 2, .slot 15] [.int .i64, .str, .int .u64, .int .i64, .sl 2, .int .i64] [⟨.exit 2, [.slot 4, .slot 0, .slot 5, .own 3 2], [.int .i64, .str, .int .u64, .sl 2]⟩] (Tf.nat_read.l6 F) st κ)] : Loops) Tf.nat_read.b2 (rebuild [.slot 0, .own 3 2] (encKs [.str, .sl 2] a)) (bodyK [.slot 0, .own 3 2] [.str, .sl 2] [⟨.exit 0, [.own 3 2], [.sl 2]⟩] L) = Tf.nat_read.s2 F L a := by kernel_rfl
theorem Tf.nat_read.l2_ok (F : Nat) : LoopOk Proofs.Tryz.prog tyT.G 35 Tf.nat_read.b2 (fun st κ => hand [.slot 0, .own 3 2] [.str, .sl 2] [⟨.exit 0, [.own 3 2], [.sl 2]⟩] (Tf.nat_read.l2 F) st κ) :=
  loop_ok tyT_ok rfl mix (.cons (Tf.nat_step.ok F) .nil) (Λ := (look [(6, fun st κ => hand [.slot 16, .slot 0, .slot 5, .slot 4, .own 3 2, .slot 15] [.int .i64, .str, .int .u64, .int .i64, .sl 2, .int .i64] [⟨.exit 2, [.slot 4, .slot 0, .slot 5, .own 3 2], [.int .i64, .str, .int .u64, .sl 2]⟩] (Tf.nat_read.l6 F) st κ)] : Loops)) (LoopsOk.of (bs := [Tf.nat_read.b6]) (by kernel_rfl) (.cons rfl (Tf.nat_read.l6_ok F) .nil)) (Tf.nat_read.s2_ok F) F
def Tf.nat_read.f (F : Nat) (a : ByteArray) : Option (List Int) :=
 (Option.bind (Tf.nat_read.l2 F (a, ([] : List Int))) (fun y5 => (some y5)))
theorem Tf.nat_read.f_ok (F : Nat) (a) : exec tyT (look [(192, Tf.nat_step.e F)] : Fns) 35 (look [(2, fun st κ => hand [.slot 0, .own 3 2] [.str, .sl 2] [⟨.exit 0, [.own 3 2], [.sl 2]⟩] (Tf.nat_read.l2 F) st κ)] : Loops) Tf.nat_read.c (init [.p] (encKs [.str] a)) (finT (look [(192, Tf.nat_step.e F)] : Fns) (⟨[.p], [.o 2]⟩ : Sig) [2] [.own] [.sl 2]) = Tf.nat_read.f F a := by kernel_rfl
def Tf.nat_read.e (F : Nat) : Fn := mkFn (⟨[.p], [.o 2]⟩ : Sig) [.str] [.own] [.sl 2] (Tf.nat_read.f F)
theorem Tf.nat_read.ok (F : Nat) : EntryOk Proofs.Tryz.prog tyT.G 183 (Tf.nat_read.e F) :=
  fn_ok tyT_ok rfl mix (.cons (Tf.nat_step.ok F) .nil) (Λ := (look [(2, fun st κ => hand [.slot 0, .own 3 2] [.str, .sl 2] [⟨.exit 0, [.own 3 2], [.sl 2]⟩] (Tf.nat_read.l2 F) st κ)] : Loops)) (fn := Proofs.Tryz.f183) (c := Tf.nat_read.c) (LoopsOk.of (bs := [Tf.nat_read.b2]) (by kernel_rfl) (.cons rfl (Tf.nat_read.l2_ok F) .nil)) (by kernel_rfl) (by kernel_rfl) (by kernel_rfl) (by kernel_rfl) (res1 (by kernel_rfl)) (by decide) (Tf.nat_read.f_ok F)
noncomputable def Tf.nat_both.c : Code := (Proofs.Tryz.f174.body).getD .skip
def Tf.nat_both.f (F : Nat) (a : (ByteArray × ByteArray)) : Option ((List Int) × ((List Int) × Bool)) :=
 (Option.bind (Tf.nat_Right.f F a.1) (fun y8 => (bif (!y8) then (some (([] : List Int), (([] : List Int), Bool.false)))
 else (Option.bind (Tf.nat_Right.f F a.2) (fun y13 => (bif (!y13) then (some (([] : List Int), (([] : List Int), Bool.false)))
 else (Option.bind (Tf.nat_read.f F a.1) (fun y18 => (Option.bind (Tf.nat_trim.f F y18) (fun y20 => (Option.bind (Tf.nat_read.f F a.2) (fun y23 => (Option.bind (Tf.nat_trim.f F y23) (fun y25 => (some (y20, (y25, Bool.true)))))))))))))))))
theorem Tf.nat_both.f_ok (F : Nat) (a) : exec tyT (look [(117, Tf.nat_Right.e F), (182, Tf.nat_trim.e F), (183, Tf.nat_read.e F)] : Fns) 21 (look [] : Loops) Tf.nat_both.c (init [.p, .p] (encKs [.str, .str] a)) (finT (look [(117, Tf.nat_Right.e F), (182, Tf.nat_trim.e F), (183, Tf.nat_read.e F)] : Fns) (⟨[.p, .p], [.o 2, .o 2, .p]⟩ : Sig) [4, 5, 6] [.own, .own, .pure] [.sl 2, .sl 2, .bool]) = Tf.nat_both.f F a := by kernel_rfl
def Tf.nat_both.e (F : Nat) : Fn := mkFn (⟨[.p, .p], [.o 2, .o 2, .p]⟩ : Sig) [.str, .str] [.own, .own, .pure] [.sl 2, .sl 2, .bool] (Tf.nat_both.f F)
theorem Tf.nat_both.ok (F : Nat) : EntryOk Proofs.Tryz.prog tyT.G 174 (Tf.nat_both.e F) :=
  fn_ok tyT_ok rfl mix (.cons (Tf.nat_Right.ok F) (.cons (Tf.nat_trim.ok F) (.cons (Tf.nat_read.ok F) .nil))) (Λ := (look [] : Loops)) (fn := Proofs.Tryz.f174) (c := Tf.nat_both.c) (LoopsOk.of (bs := []) (by kernel_rfl) .nil) (by kernel_rfl) (by kernel_rfl) (by kernel_rfl) (by kernel_rfl) (res3 (by kernel_rfl)) (by decide) (Tf.nat_both.f_ok F)
noncomputable def Tf.nat_compare.c : Code := (Proofs.Tryz.f184.body).getD .skip
noncomputable def Tf.nat_compare.b6 : Code := codeAt [1, 1, 0, 1, 0, 0] Tf.nat_compare.c
def Tf.nat_compare.s6 (F : Nat) (L : (Int × ((List Int) × (List Int))) → Option (Int ⊕ Unit)) (x : (Int × ((List Int) × (List Int)))) : Option (Int ⊕ Unit) :=
 (bif (decide (x.1 ≥ (0 : Int))) then (bif (inR x.1 (List.length x.2.2)) then (bif (inR x.1 (List.length x.2.1)) then (bif ((List.getD x.2.2 (Int.toNat x.1) (0 : Int)) != (List.getD x.2.1 (Int.toNat x.1) (0 : Int))) then (bif (inR x.1 (List.length x.2.2)) then (bif (inR x.1 (List.length x.2.1)) then (bif (decide ((List.getD x.2.2 (Int.toNat x.1) (0 : Int)) < (List.getD x.2.1 (Int.toNat x.1) (0 : Int)))) then (some (.inl (-(1 : Int))))
 else (some (.inl (1 : Int))))
 else none)
 else none)
 else (L ((IntKind.wrap .i64 (x.1 - (1 : Int))), (x.2.1, x.2.2))))
 else none)
 else none)
 else (some (.inr ())))
def Tf.nat_compare.l6 (F : Nat) : (Int × ((List Int) × (List Int))) → Option (Int ⊕ Unit) := iter (Tf.nat_compare.s6 F) F
theorem Tf.nat_compare.s6_ok (F : Nat) (L a) : exec tyT (look [] : Fns) 41 (look [] : Loops) Tf.nat_compare.b6 (rebuild [.slot 5, .view 1 2, .view 0 2] (encKs [.int .i64, .sl 2, .sl 2] a)) (bodyK [.slot 5, .view 1 2, .view 0 2] [.int .i64, .sl 2, .sl 2] [⟨.ret, [.slot 4], [.int .i64]⟩, ⟨.exit 0, [], []⟩] L) = Tf.nat_compare.s6 F L a := by kernel_rfl
theorem Tf.nat_compare.l6_ok (F : Nat) : LoopOk Proofs.Tryz.prog tyT.G 41 Tf.nat_compare.b6 (fun st κ => hand [.slot 5, .view 1 2, .view 0 2] [.int .i64, .sl 2, .sl 2] [⟨.ret, [.slot 4], [.int .i64]⟩, ⟨.exit 0, [], []⟩] (Tf.nat_compare.l6 F) st κ) :=
  loop_ok tyT_ok rfl mix .nil (Λ := (look [] : Loops)) (LoopsOk.of (bs := []) (by kernel_rfl) .nil) (Tf.nat_compare.s6_ok F) F
def Tf.nat_compare.f (F : Nat) (a : ((List Int) × (List Int))) : Option Int :=
 (bif (((List.length a.1) : Int) != ((List.length a.2) : Int)) then (bif (decide (((List.length a.1) : Int) < ((List.length a.2) : Int))) then (some (-(1 : Int)))
 else (some (1 : Int)))
 else (Option.bind (Tf.nat_compare.l6 F ((IntKind.wrap .i64 (((List.length a.1) : Int) - (1 : Int))), (a.2, a.1))) (fun y13 => (sumE y13 (fun y14 => (some y14)) (fun y14 => (some (0 : Int)))))))
theorem Tf.nat_compare.f_ok (F : Nat) (a) : exec tyT (look [] : Fns) 41 (look [(6, fun st κ => hand [.slot 5, .view 1 2, .view 0 2] [.int .i64, .sl 2, .sl 2] [⟨.ret, [.slot 4], [.int .i64]⟩, ⟨.exit 0, [], []⟩] (Tf.nat_compare.l6 F) st κ)] : Loops) Tf.nat_compare.c (init [.v 2, .v 2] (encKs [.sl 2, .sl 2] a)) (finT (look [] : Fns) (⟨[.v 2, .v 2], [.p]⟩ : Sig) [4] [.pure] [.int .i64]) = Tf.nat_compare.f F a := by kernel_rfl
def Tf.nat_compare.e (F : Nat) : Fn := mkFn (⟨[.v 2, .v 2], [.p]⟩ : Sig) [.sl 2, .sl 2] [.pure] [.int .i64] (Tf.nat_compare.f F)
theorem Tf.nat_compare.ok (F : Nat) : EntryOk Proofs.Tryz.prog tyT.G 184 (Tf.nat_compare.e F) :=
  fn_ok tyT_ok rfl mix .nil (Λ := (look [(6, fun st κ => hand [.slot 5, .view 1 2, .view 0 2] [.int .i64, .sl 2, .sl 2] [⟨.ret, [.slot 4], [.int .i64]⟩, ⟨.exit 0, [], []⟩] (Tf.nat_compare.l6 F) st κ)] : Loops)) (fn := Proofs.Tryz.f184) (c := Tf.nat_compare.c) (LoopsOk.of (bs := [Tf.nat_compare.b6]) (by kernel_rfl) (.cons rfl (Tf.nat_compare.l6_ok F) .nil)) (by kernel_rfl) (by kernel_rfl) (by kernel_rfl) (by kernel_rfl) (res1 (by kernel_rfl)) (by decide) (Tf.nat_compare.f_ok F)
noncomputable def Tf.slices_Clone_limbs.c : Code := (Proofs.Tryz.f188.body).getD .skip
def Tf.slices_Clone_limbs.f (F : Nat) (a : List Int) : Option (List Int) := cloneT 2 a
def Tf.slices_Clone_limbs.e (F : Nat) : Fn := mkFn (⟨[.v 2], [.o 2]⟩ : Sig) [.sl 2] [.own] [.sl 2] (Tf.slices_Clone_limbs.f F)
theorem Tf.slices_Clone_limbs.ok (F : Nat) : EntryOk Proofs.Tryz.prog tyT.G 188 (Tf.slices_Clone_limbs.e F) :=
  clone_ok tyT_ok rfl mix (fn := Proofs.Tryz.f188) (t := 2) (T := 195) (T' := 195) (e := 164) (r0 := codeAt [0] Tf.slices_Clone_limbs.c) (A := codeAt [1, 0, 1, 0] Tf.slices_Clone_limbs.c) (B := codeAt [1, 1] Tf.slices_Clone_limbs.c) (id := 1)
    (o1 := nthOp (codeAt [1, 0, 0] Tf.slices_Clone_limbs.c) 0) (o2 := nthOp (codeAt [1, 0, 0] Tf.slices_Clone_limbs.c) 1) (by kernel_rfl) (by kernel_rfl) (by kernel_rfl) (by kernel_rfl) (res1 (by kernel_rfl))
    (by kernel_rfl) (by kernel_rfl) (by kernel_rfl) (by kernel_rfl) (by kernel_rfl) (by kernel_rfl) (by kernel_rfl) (by kernel_rfl) (by kernel_rfl)
    (S0 := fun l => stAt tyT 8 (codeAt [0] Tf.slices_Clone_limbs.c) [.v 2] [.sl 2 l]) (fun l => by kernel_rfl) (fun l => by kernel_rfl) (fun l => by kernel_rfl) (by kernel_rfl)
noncomputable def Tf.nat_small.c : Code := (Proofs.Tryz.f185.body).getD .skip
noncomputable def Tf.nat_small.b4 : Code := codeAt [1, 1, 1, 0, 1, 0, 0] Tf.nat_small.c
def Tf.nat_small.s4 (F : Nat) (L : (Int × (Int × ((List Int) × Int))) → Option (Int × (List Int))) (x : (Int × (Int × ((List Int) × Int)))) : Option (Int × (List Int)) :=
 (bif (decide (x.1 ≥ (0 : Int))) then (bif (inR x.1 (List.length x.2.2.1)) then (bif (!(x.2.1 == (0 : Int))) then (bif (inR x.1 (List.length x.2.2.1)) then (bif (!(x.2.1 == (0 : Int))) then (L ((IntKind.wrap .i64 (x.1 - (1 : Int))), (x.2.1, ((List.set x.2.2.1 (Int.toNat x.1) (Go.IntKind.wrap IntKind.u32 (Go.IntKind.wrap IntKind.u64 (Int.tdiv (Go.IntKind.wrap IntKind.u64 ((BitVec.toNat (HOr.hOr (BitVec.ofInt 64 (Go.IntKind.wrap IntKind.u64 (x.2.2.2 * (4294967296 : Int)))) (BitVec.ofInt 64 (Go.IntKind.wrap IntKind.u64 (List.getD x.2.2.1 (Int.toNat x.1) (0 : Int)))))) : Int)) x.2.1)))), (Int.tmod (Go.IntKind.wrap IntKind.u64 ((BitVec.toNat (HOr.hOr (BitVec.ofInt 64 (Go.IntKind.wrap IntKind.u64 (x.2.2.2 * (4294967296 : Int)))) (BitVec.ofInt 64 (Go.IntKind.wrap IntKind.u64 (List.getD x.2.2.1 (Int.toNat x.1) (0 : Int)))))) : Int)) x.2.1)))))
 else none)
 else none)
 else none)
 else none)
 else (some (x.2.2.2, x.2.2.1)))
def Tf.nat_small.l4 (F : Nat) : (Int × (Int × ((List Int) × Int))) → Option (Int × (List Int)) := iter (Tf.nat_small.s4 F) F
theorem Tf.nat_small.s4_ok (F : Nat) (L a) : exec tyT (look [(182, Tf.nat_trim.e F), (188, Tf.slices_Clone_limbs.e F)] : Fns) 39 (look [] : Loops) Tf.nat_small.b4 (rebuild [.slot 8, .slot 1, .own 6 2, .slot 7] (encKs [.int .i64, .int .u64, .sl 2, .int .u64] a)) (bodyK [.slot 8, .slot 1, .own 6 2, .slot 7] [.int .i64, .int .u64, .sl 2, .int .u64] [⟨.exit 0, [.slot 7, .own 6 2], [.int .u64, .sl 2]⟩] L) = Tf.nat_small.s4 F L a := by kernel_rfl
theorem Tf.nat_small.l4_ok (F : Nat) : LoopOk Proofs.Tryz.prog tyT.G 39 Tf.nat_small.b4 (fun st κ => hand [.slot 8, .slot 1, .own 6 2, .slot 7] [.int .i64, .int .u64, .sl 2, .int .u64] [⟨.exit 0, [.slot 7, .own 6 2], [.int .u64, .sl 2]⟩] (Tf.nat_small.l4 F) st κ) :=
  loop_ok tyT_ok rfl mix (.cons (Tf.nat_trim.ok F) (.cons (Tf.slices_Clone_limbs.ok F) .nil)) (Λ := (look [] : Loops)) (LoopsOk.of (bs := []) (by kernel_rfl) .nil) (Tf.nat_small.s4_ok F) F
def Tf.nat_small.f (F : Nat) (a : ((List Int) × Int)) : Option ((List Int) × Int) :=
 (Option.bind (Tf.slices_Clone_limbs.f F a.1) (fun y7 => (Option.bind (Tf.nat_small.l4 F ((IntKind.wrap .i64 (((List.length y7) : Int) - (1 : Int))), (a.2, (y7, (0 : Int))))) (fun y14 => (Option.bind (Tf.nat_trim.f F y14.2) (fun y17 => (some (y17, y14.1))))))))
theorem Tf.nat_small.f_ok (F : Nat) (a) : exec tyT (look [(182, Tf.nat_trim.e F), (188, Tf.slices_Clone_limbs.e F)] : Fns) 39 (look [(4, fun st κ => hand [.slot 8, .slot 1, .own 6 2, .slot 7] [.int .i64, .int .u64, .sl 2, .int .u64] [⟨.exit 0, [.slot 7, .own 6 2], [.int .u64, .sl 2]⟩] (Tf.nat_small.l4 F) st κ)] : Loops) Tf.nat_small.c (init [.v 2, .p] (encKs [.sl 2, .int .u64] a)) (finT (look [(182, Tf.nat_trim.e F), (188, Tf.slices_Clone_limbs.e F)] : Fns) (⟨[.v 2, .p], [.o 2, .p]⟩ : Sig) [4, 5] [.own, .pure] [.sl 2, .int .u64]) = Tf.nat_small.f F a := by kernel_rfl
def Tf.nat_small.e (F : Nat) : Fn := mkFn (⟨[.v 2, .p], [.o 2, .p]⟩ : Sig) [.sl 2, .int .u64] [.own, .pure] [.sl 2, .int .u64] (Tf.nat_small.f F)
theorem Tf.nat_small.ok (F : Nat) : EntryOk Proofs.Tryz.prog tyT.G 185 (Tf.nat_small.e F) :=
  fn_ok tyT_ok rfl mix (.cons (Tf.nat_trim.ok F) (.cons (Tf.slices_Clone_limbs.ok F) .nil)) (Λ := (look [(4, fun st κ => hand [.slot 8, .slot 1, .own 6 2, .slot 7] [.int .i64, .int .u64, .sl 2, .int .u64] [⟨.exit 0, [.slot 7, .own 6 2], [.int .u64, .sl 2]⟩] (Tf.nat_small.l4 F) st κ)] : Loops)) (fn := Proofs.Tryz.f185) (c := Tf.nat_small.c) (LoopsOk.of (bs := [Tf.nat_small.b4]) (by kernel_rfl) (.cons rfl (Tf.nat_small.l4_ok F) .nil)) (by kernel_rfl) (by kernel_rfl) (by kernel_rfl) (by kernel_rfl) (res2 (by kernel_rfl)) (by decide) (Tf.nat_small.f_ok F)
noncomputable def Tf.nat_shift.c : Code := (Proofs.Tryz.f186.body).getD .skip
def Tf.nat_shift.f (F : Nat) (a : ((List Int) × Int)) : Option (List Int) :=
 (bif (decide ((0 : Int) ≤ a.2)) then (Option.bind (Tf.nat_step.f F (a.1, ((Go.IntKind.wrap IntKind.u64 ((1 : Int) * ((2 : Int) ^ (Min.min (Int.toNat a.2) 64)))), (0 : Int)))) (fun y8 => (some y8)))
 else none)
theorem Tf.nat_shift.f_ok (F : Nat) (a) : exec tyT (look [(192, Tf.nat_step.e F)] : Fns) 9 (look [] : Loops) Tf.nat_shift.c (init [.v 2, .p] (encKs [.sl 2, .int .u64] a)) (finT (look [(192, Tf.nat_step.e F)] : Fns) (⟨[.v 2, .p], [.o 2]⟩ : Sig) [4] [.own] [.sl 2]) = Tf.nat_shift.f F a := by kernel_rfl
def Tf.nat_shift.e (F : Nat) : Fn := mkFn (⟨[.v 2, .p], [.o 2]⟩ : Sig) [.sl 2, .int .u64] [.own] [.sl 2] (Tf.nat_shift.f F)
theorem Tf.nat_shift.ok (F : Nat) : EntryOk Proofs.Tryz.prog tyT.G 186 (Tf.nat_shift.e F) :=
  fn_ok tyT_ok rfl mix (.cons (Tf.nat_step.ok F) .nil) (Λ := (look [] : Loops)) (fn := Proofs.Tryz.f186) (c := Tf.nat_shift.c) (LoopsOk.of (bs := []) (by kernel_rfl) .nil) (by kernel_rfl) (by kernel_rfl) (by kernel_rfl) (by kernel_rfl) (res1 (by kernel_rfl)) (by decide) (Tf.nat_shift.f_ok F)
noncomputable def Tf.nat_sub.c : Code := (Proofs.Tryz.f193.body).getD .skip
noncomputable def Tf.nat_sub.b4 : Code := codeAt [1, 1, 1, 0, 1, 0, 0] Tf.nat_sub.c
def Tf.nat_sub.s4 (F : Nat) (L : (Int × ((List Int) × ((List Int) × (Int × Int)))) → Option (List Int)) (x : (Int × ((List Int) × ((List Int) × (Int × Int))))) : Option (List Int) :=
 (bif (decide (x.1 < x.2.2.2.2)) then (bif (decide (x.1 < ((List.length x.2.2.1) : Int))) then (bif (inR x.1 (List.length x.2.2.1)) then (bif (inR x.1 (List.length x.2.1)) then (bif (decide ((Go.IntKind.wrap IntKind.u64 (List.getD x.2.1 (Int.toNat x.1) (0 : Int))) < (Go.IntKind.wrap IntKind.u64 (x.2.2.2.1 + (Go.IntKind.wrap IntKind.u64 (List.getD x.2.2.1 (Int.toNat x.1) (0 : Int))))))) then (bif (inR x.1 (List.length x.2.1)) then (bif (inR x.1 (List.length x.2.1)) then (L ((IntKind.wrap .i64 (x.1 + (1 : Int))), ((List.set x.2.1 (Int.toNat x.1) (Go.IntKind.wrap IntKind.u32 (Go.IntKind.wrap IntKind.u64 ((Go.IntKind.wrap IntKind.u64 ((Go.IntKind.wrap IntKind.u64 (List.getD x.2.1 (Int.toNat x.1) (0 : Int))) + (4294967296 : Int))) - (Go.IntKind.wrap IntKind.u64 (x.2.2.2.1 + (Go.IntKind.wrap IntKind.u64 (List.getD x.2.2.1 (Int.toNat x.1) (0 : Int))))))))), (x.2.2.1, ((1 : Int), x.2.2.2.2)))))
 else none)
 else none)
 else (bif (inR x.1 (List.length x.2.1)) then (bif (inR x.1 (List.length x.2.1)) then (L ((IntKind.wrap .i64 (x.1 + (1 : Int))), ((List.set x.2.1 (Int.toNat x.1) (Go.IntKind.wrap IntKind.u32 (Go.IntKind.wrap IntKind.u64 ((Go.IntKind.wrap IntKind.u64 ((Go.IntKind.wrap IntKind.u64 (List.getD x.2.1 (Int.toNat x.1) (0 : Int))) + (0 : Int))) - (Go.IntKind.wrap IntKind.u64 (x.2.2.2.1 + (Go.IntKind.wrap IntKind.u64 (List.getD x.2.2.1 (Int.toNat x.1) (0 : Int))))))))), (x.2.2.1, ((0 : Int), x.2.2.2.2)))))
 else none)
 else none))
 else none)
 else none)
 else (bif (inR x.1 (List.length x.2.1)) then (bif (decide ((Go.IntKind.wrap IntKind.u64 (List.getD x.2.1 (Int.toNat x.1) (0 : Int))) < x.2.2.2.1)) then (bif (inR x.1 (List.length x.2.1)) then (bif (inR x.1 (List.length x.2.1)) then (L ((IntKind.wrap .i64 (x.1 + (1 : Int))), ((List.set x.2.1 (Int.toNat x.1) (Go.IntKind.wrap IntKind.u32 (Go.IntKind.wrap IntKind.u64 ((Go.IntKind.wrap IntKind.u64 ((Go.IntKind.wrap IntKind.u64 (List.getD x.2.1 (Int.toNat x.1) (0 : Int))) + (4294967296 : Int))) - x.2.2.2.1)))), (x.2.2.1, ((1 : Int), x.2.2.2.2)))))
 else none)
 else none)
 else (bif (inR x.1 (List.length x.2.1)) then (bif (inR x.1 (List.length x.2.1)) then (L ((IntKind.wrap .i64 (x.1 + (1 : Int))), ((List.set x.2.1 (Int.toNat x.1) (Go.IntKind.wrap IntKind.u32 (Go.IntKind.wrap IntKind.u64 ((Go.IntKind.wrap IntKind.u64 ((Go.IntKind.wrap IntKind.u64 (List.getD x.2.1 (Int.toNat x.1) (0 : Int))) + (0 : Int))) - x.2.2.2.1)))), (x.2.2.1, ((0 : Int), x.2.2.2.2)))))
 else none)
 else none))
 else none))
 else (some x.2.1))
def Tf.nat_sub.l4 (F : Nat) : (Int × ((List Int) × ((List Int) × (Int × Int)))) → Option (List Int) := iter (Tf.nat_sub.s4 F) F
theorem Tf.nat_sub.s4_ok (F : Nat) (L a) : exec tyT (look [(182, Tf.nat_trim.e F), (188, Tf.slices_Clone_limbs.e F)] : Fns) 52 (look [] : Loops) Tf.nat_sub.b4 (rebuild [.slot 13, .own 5 2, .view 1 2, .slot 6, .slot 12] (encKs [.int .i64, .sl 2, .sl 2, .int .u64, .int .i64] a)) (bodyK [.slot 13, .own 5 2, .view 1 2, .slot 6, .slot 12] [.int .i64, .sl 2, .sl 2, .int .u64, .int .i64] [⟨.exit 0, [.own 5 2], [.sl 2]⟩] L) = Tf.nat_sub.s4 F L a := by kernel_rfl
theorem Tf.nat_sub.l4_ok (F : Nat) : LoopOk Proofs.Tryz.prog tyT.G 52 Tf.nat_sub.b4 (fun st κ => hand [.slot 13, .own 5 2, .view 1 2, .slot 6, .slot 12] [.int .i64, .sl 2, .sl 2, .int .u64, .int .i64] [⟨.exit 0, [.own 5 2], [.sl 2]⟩] (Tf.nat_sub.l4 F) st κ) :=
  loop_ok tyT_ok rfl mix (.cons (Tf.nat_trim.ok F) (.cons (Tf.slices_Clone_limbs.ok F) .nil)) (Λ := (look [] : Loops)) (LoopsOk.of (bs := []) (by kernel_rfl) .nil) (Tf.nat_sub.s4_ok F) F
def Tf.nat_sub.f (F : Nat) (a : ((List Int) × (List Int))) : Option (List Int) :=
 (Option.bind (Tf.slices_Clone_limbs.f F a.1) (fun y6 => (Option.bind (Tf.nat_sub.l4 F ((0 : Int), (y6, (a.2, ((0 : Int), ((List.length y6) : Int)))))) (fun y12 => (Option.bind (Tf.nat_trim.f F y12) (fun y15 => (some y15)))))))
theorem Tf.nat_sub.f_ok (F : Nat) (a) : exec tyT (look [(182, Tf.nat_trim.e F), (188, Tf.slices_Clone_limbs.e F)] : Fns) 52 (look [(4, fun st κ => hand [.slot 13, .own 5 2, .view 1 2, .slot 6, .slot 12] [.int .i64, .sl 2, .sl 2, .int .u64, .int .i64] [⟨.exit 0, [.own 5 2], [.sl 2]⟩] (Tf.nat_sub.l4 F) st κ)] : Loops) Tf.nat_sub.c (init [.v 2, .v 2] (encKs [.sl 2, .sl 2] a)) (finT (look [(182, Tf.nat_trim.e F), (188, Tf.slices_Clone_limbs.e F)] : Fns) (⟨[.v 2, .v 2], [.o 2]⟩ : Sig) [4] [.own] [.sl 2]) = Tf.nat_sub.f F a := by kernel_rfl
def Tf.nat_sub.e (F : Nat) : Fn := mkFn (⟨[.v 2, .v 2], [.o 2]⟩ : Sig) [.sl 2, .sl 2] [.own] [.sl 2] (Tf.nat_sub.f F)
theorem Tf.nat_sub.ok (F : Nat) : EntryOk Proofs.Tryz.prog tyT.G 193 (Tf.nat_sub.e F) :=
  fn_ok tyT_ok rfl mix (.cons (Tf.nat_trim.ok F) (.cons (Tf.slices_Clone_limbs.ok F) .nil)) (Λ := (look [(4, fun st κ => hand [.slot 13, .own 5 2, .view 1 2, .slot 6, .slot 12] [.int .i64, .sl 2, .sl 2, .int .u64, .int .i64] [⟨.exit 0, [.own 5 2], [.sl 2]⟩] (Tf.nat_sub.l4 F) st κ)] : Loops)) (fn := Proofs.Tryz.f193) (c := Tf.nat_sub.c) (LoopsOk.of (bs := [Tf.nat_sub.b4]) (by kernel_rfl) (.cons rfl (Tf.nat_sub.l4_ok F) .nil)) (by kernel_rfl) (by kernel_rfl) (by kernel_rfl) (by kernel_rfl) (res1 (by kernel_rfl)) (by decide) (Tf.nat_sub.f_ok F)
noncomputable def Tf.nat_guess.c : Code := (Proofs.Tryz.f187.body).getD .skip
noncomputable def Tf.nat_guess.b6 : Code := codeAt [1, 1, 1, 1, 1, 1, 0, 0, 0] Tf.nat_guess.c
def Tf.nat_guess.s6 (F : Nat) (L : ((List Int) × ((List Int) × (Int × (Int × ((List Int) × (List Int)))))) → Option (Int × ((List Int) × (Int × ((List Int) × (List Int)))))) (x : ((List Int) × ((List Int) × (Int × (Int × ((List Int) × (List Int))))))) : Option (Int × ((List Int) × (Int × ((List Int) × (List Int))))) :=
 (Option.bind (Tf.slices_Clone_limbs.f F x.2.2.2.2.2) (fun y49 => (Option.bind (Tf.nat_trim.f F y49) (fun y51 => (Option.bind (Tf.nat_compare.f F (x.2.1, y51)) (fun y53 => (bif (decide (y53 > (0 : Int))) then (Option.bind (Tf.nat_sub.f F (x.2.1, x.1)) (fun y61 => (L (x.1, (y61, ((Go.IntKind.wrap IntKind.u64 (x.2.2.1 - (1 : Int))), (x.2.2.2.1, (x.2.2.2.2.1, x.2.2.2.2.2))))))))
 else (some (x.2.2.2.1, (x.2.2.2.2.1, (x.2.2.1, (x.2.2.2.2.2, x.2.1))))))))))))
def Tf.nat_guess.l6 (F : Nat) : ((List Int) × ((List Int) × (Int × (Int × ((List Int) × (List Int)))))) → Option (Int × ((List Int) × (Int × ((List Int) × (List Int))))) := iter (Tf.nat_guess.s6 F) F
theorem Tf.nat_guess.s6_ok (F : Nat) (L a) : exec tyT (look [(182, Tf.nat_trim.e F), (184, Tf.nat_compare.e F), (188, Tf.slices_Clone_limbs.e F), (192, Tf.nat_step.e F), (193, Tf.nat_sub.e F)] : Fns) 90 (look [] : Loops) Tf.nat_guess.b6 (rebuild [.view 1 2, .own 13 2, .slot 11, .slot 2, .io 0 2, .own 12 2] (encKs [.sl 2, .sl 2, .int .u64, .int .i64, .sl 2, .sl 2] a)) (bodyK [.view 1 2, .own 13 2, .slot 11, .slot 2, .io 0 2, .own 12 2] [.sl 2, .sl 2, .int .u64, .int .i64, .sl 2, .sl 2] [⟨.exit 0, [.slot 2, .io 0 2, .slot 11, .own 12 2, .own 13 2], [.int .i64, .sl 2, .int .u64, .sl 2, .sl 2]⟩] L) = Tf.nat_guess.s6 F L a := by kernel_rfl
theorem Tf.nat_guess.l6_ok (F : Nat) : LoopOk Proofs.Tryz.prog tyT.G 90 Tf.nat_guess.b6 (fun st κ => hand [.view 1 2, .own 13 2, .slot 11, .slot 2, .io 0 2, .own 12 2] [.sl 2, .sl 2, .int .u64, .int .i64, .sl 2, .sl 2] [⟨.exit 0, [.slot 2, .io 0 2, .slot 11, .own 12 2, .own 13 2], [.int .i64, .sl 2, .int .u64, .sl 2, .sl 2]⟩] (Tf.nat_guess.l6 F) st κ) :=
  loop_ok tyT_ok rfl mix (.cons (Tf.nat_trim.ok F) (.cons (Tf.nat_compare.ok F) (.cons (Tf.slices_Clone_limbs.ok F) (.cons (Tf.nat_step.ok F) (.cons (Tf.nat_sub.ok F) .nil))))) (Λ := (look [] : Loops)) (LoopsOk.of (bs := []) (by kernel_rfl) .nil) (Tf.nat_guess.s6_ok F) F
noncomputable def Tf.nat_guess.b11 : Code := codeAt [1, 1, 1, 1, 1, 1, 1, 1, 0, 1, 0, 0] Tf.nat_guess.c
def Tf.nat_guess.s11 (F : Nat) (L : (Int × ((List Int) × (Int × ((List Int) × (Int × Int))))) → Option ((List Int) × Int)) (x : (Int × ((List Int) × (Int × ((List Int) × (Int × Int)))))) : Option ((List Int) × Int) :=
 (bif (decide (x.1 < x.2.2.2.2.2)) then (bif (inR (IntKind.wrap .i64 (x.2.2.1 + x.1)) (List.length x.2.2.2.1)) then (bif (decide (x.1 < ((List.length x.2.1) : Int))) then (bif (inR x.1 (List.length x.2.1)) then (bif (inR (IntKind.wrap .i64 (x.2.2.1 + x.1)) (List.length (List.set x.2.2.2.1 (Int.toNat (IntKind.wrap .i64 (x.2.2.1 + x.1))) (0 : Int)))) then (L ((IntKind.wrap .i64 (x.1 + (1 : Int))), (x.2.1, (x.2.2.1, ((List.set (List.set x.2.2.2.1 (Int.toNat (IntKind.wrap .i64 (x.2.2.1 + x.1))) (0 : Int)) (Int.toNat (IntKind.wrap .i64 (x.2.2.1 + x.1))) (List.getD x.2.1 (Int.toNat x.1) (0 : Int))), (x.2.2.2.2.1, x.2.2.2.2.2))))))
 else none)
 else none)
 else (L ((IntKind.wrap .i64 (x.1 + (1 : Int))), (x.2.1, (x.2.2.1, ((List.set x.2.2.2.1 (Int.toNat (IntKind.wrap .i64 (x.2.2.1 + x.1))) (0 : Int)), (x.2.2.2.2.1, x.2.2.2.2.2)))))))
 else none)
 else (some (x.2.2.2.1, x.2.2.2.2.1)))
def Tf.nat_guess.l11 (F : Nat) : (Int × ((List Int) × (Int × ((List Int) × (Int × Int))))) → Option ((List Int) × Int) := iter (Tf.nat_guess.s11 F) F
theorem Tf.nat_guess.s11_ok (F : Nat) (L a) : exec tyT (look [(182, Tf.nat_trim.e F), (184, Tf.nat_compare.e F), (188, Tf.slices_Clone_limbs.e F), (192, Tf.nat_step.e F), (193, Tf.nat_sub.e F)] : Fns) 90 (look [] : Loops) Tf.nat_guess.b11 (rebuild [.slot 66, .own 14 2, .slot 2, .io 0 2, .slot 11, .slot 65] (encKs [.int .i64, .sl 2, .int .i64, .sl 2, .int .u64, .int .i64] a)) (bodyK [.slot 66, .own 14 2, .slot 2, .io 0 2, .slot 11, .slot 65] [.int .i64, .sl 2, .int .i64, .sl 2, .int .u64, .int .i64] [⟨.exit 2, [.io 0 2, .slot 11], [.sl 2, .int .u64]⟩] L) = Tf.nat_guess.s11 F L a := by kernel_rfl
theorem Tf.nat_guess.l11_ok (F : Nat) : LoopOk Proofs.Tryz.prog tyT.G 90 Tf.nat_guess.b11 (fun st κ => hand [.slot 66, .own 14 2, .slot 2, .io 0 2, .slot 11, .slot 65] [.int .i64, .sl 2, .int .i64, .sl 2, .int .u64, .int .i64] [⟨.exit 2, [.io 0 2, .slot 11], [.sl 2, .int .u64]⟩] (Tf.nat_guess.l11 F) st κ) :=
  loop_ok tyT_ok rfl mix (.cons (Tf.nat_trim.ok F) (.cons (Tf.nat_compare.ok F) (.cons (Tf.slices_Clone_limbs.ok F) (.cons (Tf.nat_step.ok F) (.cons (Tf.nat_sub.ok F) .nil))))) (Λ := (look [] : Loops)) (LoopsOk.of (bs := []) (by kernel_rfl) .nil) (Tf.nat_guess.s11_ok F) F
def Tf.nat_guess.f (F : Nat) (a : ((List Int) × ((List Int) × (Int × Int)))) : Option (Int × (List Int)) :=
 (bif (inR (IntKind.wrap .i64 (a.2.2.1 + ((List.length a.2.1) : Int))) (List.length a.1)) then (bif (inR (IntKind.wrap .i64 ((IntKind.wrap .i64 (a.2.2.1 + ((List.length a.2.1) : Int))) - (1 : Int))) (List.length a.1)) then (bif (!(a.2.2.2 == (0 : Int))) then (bif ((decide ((0 : Int) ≤ (IntKind.wrap .i64 ((IntKind.wrap .i64 (a.2.2.1 + ((List.length a.2.1) : Int))) + (1 : Int))))) && (decide ((IntKind.wrap .i64 ((IntKind.wrap .i64 (a.2.2.1 + ((List.length a.2.1) : Int))) + (1 : Int))) ≤ ((List.length a.1) : Int)))) then (bif ((decide ((0 : Int) ≤ a.2.2.1)) && (decide (a.2.2.1 ≤ ((Int.toNat (IntKind.wrap .i64 ((IntKind.wrap .i64 (a.2.2.1 + ((List.length a.2.1) : Int))) + (1 : Int)))) : Int)))) then (Option.bind (Tf.slices_Clone_limbs.f F (List.take ((Int.toNat (IntKind.wrap .i64 ((IntKind.wrap .i64 (a.2.2.1 + ((List.length a.2.1) : Int))) + (1 : Int)))) - (Int.toNat a.2.2.1)) (List.drop (Int.toNat a.2.2.1) a.1))) (fun y38 => (Option.bind (Tf.nat_step.f F (a.2.1, ((mnI (Go.IntKind.wrap IntKind.u64 (Int.tdiv (Go.IntKind.wrap IntKind.u64 ((BitVec.toNat (HOr.hOr (BitVec.ofInt 64 (Go.IntKind.wrap IntKind.u64 ((Go.IntKind.wrap IntKind.u64 (List.getD a.1 (Int.toNat (IntKind.wrap .i64 (a.2.2.1 + ((List.length a.2.1) : Int)))) (0 : Int))) * (4294967296 : Int)))) (BitVec.ofInt 64 (Go.IntKind.wrap IntKind.u64 (List.getD a.1 (Int.toNat (IntKind.wrap .i64 ((IntKind.wrap .i64 (a.2.2.1 + ((List.length a.2.1) : Int))) - (1 : Int)))) (0 : Int)))))) : Int)) a.2.2.2)) (4294967295 : Int)), (0 : Int)))) (fun y43 => (Option.bind (Tf.nat_guess.l6 F (a.2.1, (y43, ((mnI (Go.IntKind.wrap IntKind.u64 (Int.tdiv (Go.IntKind.wrap IntKind.u64 ((BitVec.toNat (HOr.hOr (BitVec.ofInt 64 (Go.IntKind.wrap IntKind.u64 ((Go.IntKind.wrap IntKind.u64 (List.getD a.1 (Int.toNat (IntKind.wrap .i64 (a.2.2.1 + ((List.length a.2.1) : Int)))) (0 : Int))) * (4294967296 : Int)))) (BitVec.ofInt 64 (Go.IntKind.wrap IntKind.u64 (List.getD a.1 (Int.toNat (IntKind.wrap .i64 ((IntKind.wrap .i64 (a.2.2.1 + ((List.length a.2.1) : Int))) - (1 : Int)))) (0 : Int)))))) : Int)) a.2.2.2)) (4294967295 : Int)), (a.2.2.1, (a.1, y38)))))) (fun y45 => (Option.bind (Tf.nat_sub.f F (y45.2.2.2.1, y45.2.2.2.2)) (fun y49 => (Option.bind (Tf.nat_guess.l11 F ((0 : Int), (y49, (y45.1, (y45.2.1, (y45.2.2.1, ((List.length y45.2.2.2.1) : Int))))))) (fun y54 => (some ((Go.IntKind.wrap IntKind.u32 y54.2), y54.1))))))))))))
 else none)
 else none)
 else none)
 else none)
 else none)
theorem Tf.nat_guess.f_ok (F : Nat) (a) : exec tyT (look [(182, Tf.nat_trim.e F), (184, Tf.nat_compare.e F), (188, Tf.slices_Clone_limbs.e F), (192, Tf.nat_step.e F), (193, Tf.nat_sub.e F)] : Fns) 90 (look [(6, fun st κ => hand [.view 1 2, .own 13 2, .slot 11, .slot 2, .io 0 2, .own 12 2] [.sl 2, .sl 2, .int .u64, .int .i64, .sl 2, .sl 2] [⟨.exit 0, [.slot 2, .io 0 2, .slot 11, .own 12 2, .own 13 2], [.int .i64, .sl 2, .int .u64, .sl 2, .sl 2]⟩] (Tf.nat_guess.l6 F) st κ), (11, fun st κ => hand [.slot 66, .own 14 2, .slot 2, .io 0 2, .slot 11, .slot 65] [.int .i64, .sl 2, .int .i64, .sl 2, .int .u64, .int .i64] [⟨.exit 2, [.io 0 2, .slot 11], [.sl 2, .int .u64]⟩] (Tf.nat_guess.l11 F) st κ)] : Loops) Tf.nat_guess.c (init [.m 2, .v 2, .p, .p] (encKs [.sl 2, .sl 2, .int .i64, .int .u64] a)) (finT (look [(182, Tf.nat_trim.e F), (184, Tf.nat_compare.e F), (188, Tf.slices_Clone_limbs.e F), (192, Tf.nat_step.e F), (193, Tf.nat_sub.e F)] : Fns) (⟨[.m 2, .v 2, .p, .p], [.p]⟩ : Sig) [8] [.pure, .row] [.int .u32, .sl 2]) = Tf.nat_guess.f F a := by kernel_rfl
def Tf.nat_guess.e (F : Nat) : Fn := mkFn (⟨[.m 2, .v 2, .p, .p], [.p]⟩ : Sig) [.sl 2, .sl 2, .int .i64, .int .u64] [.pure, .row] [.int .u32, .sl 2] (Tf.nat_guess.f F)
theorem Tf.nat_guess.ok (F : Nat) : EntryOk Proofs.Tryz.prog tyT.G 187 (Tf.nat_guess.e F) :=
  fn_ok tyT_ok rfl mix (.cons (Tf.nat_trim.ok F) (.cons (Tf.nat_compare.ok F) (.cons (Tf.slices_Clone_limbs.ok F) (.cons (Tf.nat_step.ok F) (.cons (Tf.nat_sub.ok F) .nil))))) (Λ := (look [(6, fun st κ => hand [.view 1 2, .own 13 2, .slot 11, .slot 2, .io 0 2, .own 12 2] [.sl 2, .sl 2, .int .u64, .int .i64, .sl 2, .sl 2] [⟨.exit 0, [.slot 2, .io 0 2, .slot 11, .own 12 2, .own 13 2], [.int .i64, .sl 2, .int .u64, .sl 2, .sl 2]⟩] (Tf.nat_guess.l6 F) st κ), (11, fun st κ => hand [.slot 66, .own 14 2, .slot 2, .io 0 2, .slot 11, .slot 65] [.int .i64, .sl 2, .int .i64, .sl 2, .int .u64, .int .i64] [⟨.exit 2, [.io 0 2, .slot 11], [.sl 2, .int .u64]⟩] (Tf.nat_guess.l11 F) st κ)] : Loops)) (fn := Proofs.Tryz.f187) (c := Tf.nat_guess.c) (LoopsOk.of (bs := [Tf.nat_guess.b6, Tf.nat_guess.b11]) (by kernel_rfl) (.cons rfl (Tf.nat_guess.l6_ok F) (.cons rfl (Tf.nat_guess.l11_ok F) .nil))) (by kernel_rfl) (by kernel_rfl) (by kernel_rfl) (by kernel_rfl) (res1 (by kernel_rfl)) (by decide) (Tf.nat_guess.f_ok F)
noncomputable def Tf.nat_divide.c : Code := (Proofs.Tryz.f175.body).getD .skip
noncomputable def Tf.nat_divide.b7 : Code := codeAt [1, 1, 1, 1, 0, 0, 0] Tf.nat_divide.c
def Tf.nat_divide.s7 (F : Nat) (L : (Int × ((List Int) × (List Int))) → Option (Int × ((List Int) × (List Int)))) (x : (Int × ((List Int) × (List Int)))) : Option (Int × ((List Int) × (List Int))) :=
 (bif (inR (IntKind.wrap .i64 (((List.length x.2.2) : Int) - (1 : Int))) (List.length x.2.2)) then (bif (decide ((0 : Int) ≤ x.1)) then (bif ((Int.fdiv (Go.IntKind.wrap IntKind.u32 ((List.getD x.2.2 (Int.toNat (IntKind.wrap .i64 (((List.length x.2.2) : Int) - (1 : Int)))) (0 : Int)) * ((2 : Int) ^ (Min.min (Int.toNat x.1) 32)))) (2147483648 : Int)) == (0 : Int)) then (L ((Go.IntKind.wrap IntKind.u64 (x.1 + (1 : Int))), (x.2.1, x.2.2)))
 else (some (x.1, (x.2.1, x.2.2))))
 else none)
 else none)
def Tf.nat_divide.l7 (F : Nat) : (Int × ((List Int) × (List Int))) → Option (Int × ((List Int) × (List Int))) := iter (Tf.nat_divide.s7 F) F
theorem Tf.nat_divide.s7_ok (F : Nat) (L a) : exec tyT (look [(182, Tf.nat_trim.e F), (184, Tf.nat_compare.e F), (185, Tf.nat_small.e F), (186, Tf.nat_shift.e F), (187, Tf.nat_guess.e F), (188, Tf.slices_Clone_limbs.e F)] : Fns) 108 (look [] : Loops) Tf.nat_divide.b7 (rebuild [.slot 8, .view 0 2, .view 1 2] (encKs [.int .u64, .sl 2, .sl 2] a)) (bodyK [.slot 8, .view 0 2, .view 1 2] [.int .u64, .sl 2, .sl 2] [⟨.exit 0, [.slot 8, .view 0 2, .view 1 2], [.int .u64, .sl 2, .sl 2]⟩] L) = Tf.nat_divide.s7 F L a := by kernel_rfl
theorem Tf.nat_divide.l7_ok (F : Nat) : LoopOk Proofs.Tryz.prog tyT.G 108 Tf.nat_divide.b7 (fun st κ => hand [.slot 8, .view 0 2, .view 1 2] [.int .u64, .sl 2, .sl 2] [⟨.exit 0, [.slot 8, .view 0 2, .view 1 2], [.int .u64, .sl 2, .sl 2]⟩] (Tf.nat_divide.l7 F) st κ) :=
  loop_ok tyT_ok rfl mix (.cons (Tf.nat_trim.ok F) (.cons (Tf.nat_compare.ok F) (.cons (Tf.nat_small.ok F) (.cons (Tf.nat_shift.ok F) (.cons (Tf.nat_guess.ok F) (.cons (Tf.slices_Clone_limbs.ok F) .nil)))))) (Λ := (look [] : Loops)) (LoopsOk.of (bs := []) (by kernel_rfl) .nil) (Tf.nat_divide.s7_ok F) F
noncomputable def Tf.nat_divide.b15 : Code := codeAt [1, 1, 1, 1, 1, 1, 1, 1, 1, 0, 1, 0, 0] Tf.nat_divide.c
def Tf.nat_divide.s15 (F : Nat) (L : (Int × (Int × ((List Int) × ((List Int) × ((List Int) × Int))))) → Option ((List Int) × (Int × (List Int)))) (x : (Int × (Int × ((List Int) × ((List Int) × ((List Int) × Int)))))) : Option ((List Int) × (Int × (List Int))) :=
 (bif (decide (x.1 ≥ (0 : Int))) then (Option.bind (Tf.nat_guess.f F (x.2.2.2.1, (x.2.2.1, (x.1, x.2.1)))) (fun y65 => (bif (inR x.1 (List.length x.2.2.2.2.1)) then (L ((IntKind.wrap .i64 (x.1 - (1 : Int))), (x.2.1, (x.2.2.1, (y65.2, ((List.set x.2.2.2.2.1 (Int.toNat x.1) y65.1), x.2.2.2.2.2))))))
 else none)))
 else (some (x.2.2.2.2.1, (x.2.2.2.2.2, x.2.2.2.1))))
def Tf.nat_divide.l15 (F : Nat) : (Int × (Int × ((List Int) × ((List Int) × ((List Int) × Int))))) → Option ((List Int) × (Int × (List Int))) := iter (Tf.nat_divide.s15 F) F
theorem Tf.nat_divide.s15_ok (F : Nat) (L a) : exec tyT (look [(182, Tf.nat_trim.e F), (184, Tf.nat_compare.e F), (185, Tf.nat_small.e F), (186, Tf.nat_shift.e F), (187, Tf.nat_guess.e F), (188, Tf.slices_Clone_limbs.e F)] : Fns) 108 (look [] : Loops) Tf.nat_divide.b15 (rebuild [.slot 13, .slot 12, .own 10 2, .own 9 2, .own 11 2, .slot 8] (encKs [.int .i64, .int .u64, .sl 2, .sl 2, .sl 2, .int .u64] a)) (bodyK [.slot 13, .slot 12, .own 10 2, .own 9 2, .own 11 2, .slot 8] [.int .i64, .int .u64, .sl 2, .sl 2, .sl 2, .int .u64] [⟨.exit 2, [.own 11 2, .slot 8, .own 9 2], [.sl 2, .int .u64, .sl 2]⟩] L) = Tf.nat_divide.s15 F L a := by kernel_rfl
theorem Tf.nat_divide.l15_ok (F : Nat) : LoopOk Proofs.Tryz.prog tyT.G 108 Tf.nat_divide.b15 (fun st κ => hand [.slot 13, .slot 12, .own 10 2, .own 9 2, .own 11 2, .slot 8] [.int .i64, .int .u64, .sl 2, .sl 2, .sl 2, .int .u64] [⟨.exit 2, [.own 11 2, .slot 8, .own 9 2], [.sl 2, .int .u64, .sl 2]⟩] (Tf.nat_divide.l15 F) st κ) :=
  loop_ok tyT_ok rfl mix (.cons (Tf.nat_trim.ok F) (.cons (Tf.nat_compare.ok F) (.cons (Tf.nat_small.ok F) (.cons (Tf.nat_shift.ok F) (.cons (Tf.nat_guess.ok F) (.cons (Tf.slices_Clone_limbs.ok F) .nil)))))) (Λ := (look [] : Loops)) (LoopsOk.of (bs := []) (by kernel_rfl) .nil) (Tf.nat_divide.s15_ok F) F
def Tf.nat_divide.f (F : Nat) (a : ((List Int) × (List Int))) : Option ((List Int) × (List Int)) :=
 (Option.bind (Tf.nat_compare.f F (a.1, a.2)) (fun y8 => (bif (decide (y8 < (0 : Int))) then (some (([] : List Int), a.1))
 else (bif (((List.length a.2) : Int) == (1 : Int)) then (bif (inR (0 : Int) (List.length a.2)) then (Option.bind (Tf.nat_small.f F (a.1, (Go.IntKind.wrap IntKind.u64 (List.getD a.2 0 (0 : Int))))) (fun y19 => (Option.bind (Tf.nat_trim.f F (List.set (List.replicate 1 (0 : Int)) 0 (Go.IntKind.wrap IntKind.u32 y19.2))) (fun y30 => (some (y19.1, y30))))))
 else none)
 else (Option.bind (Tf.nat_divide.l7 F ((0 : Int), (a.1, a.2))) (fun y14 => (Option.bind (Tf.nat_shift.f F (y14.2.1, y14.1)) (fun y18 => (bif (Nat.ble ((List.length y18) + 1) 1099511627776) then (Option.bind (Tf.nat_shift.f F (y14.2.2, y14.1)) (fun y24 => (bif (((List.length (y18 ++ (List.set (List.replicate 1 (0 : Int)) 0 (0 : Int)))) : Int) == ((List.length y14.2.1) : Int)) then (bif (Nat.ble ((List.length (y18 ++ (List.set (List.replicate 1 (0 : Int)) 0 (0 : Int)))) + 1) 1099511627776) then (bif (((decide ((0 : Int) ≤ (IntKind.wrap .i64 (((List.length ((y18 ++ (List.set (List.replicate 1 (0 : Int)) 0 (0 : Int))) ++ (List.set (List.replicate 1 (0 : Int)) 0 (0 : Int)))) : Int) - ((List.length y24) : Int))))) && (decide ((IntKind.wrap .i64 (((List.length ((y18 ++ (List.set (List.replicate 1 (0 : Int)) 0 (0 : Int))) ++ (List.set (List.replicate 1 (0 : Int)) 0 (0 : Int)))) : Int) - ((List.length y24) : Int))) ≤ (IntKind.wrap .i64 (((List.length ((y18 ++ (List.set (List.replicate 1 (0 : Int)) 0 (0 : Int))) ++ (List.set (List.replicate 1 (0 : Int)) 0 (0 : Int)))) : Int) - ((List.length y24) : Int)))))) && (decide ((IntKind.wrap .i64 (((List.length ((y18 ++ (List.set (List.replicate 1 (0 : Int)) 0 (0 : Int))) ++ (List.set (List.replicate 1 (0 : Int)) 0 (0 : Int)))) : Int) - ((List.length y24) : Int))) ≤ (1099511627776 : Int)))) then (bif (inR (IntKind.wrap .i64 (((List.length y24) : Int) - (1 : Int))) (List.length y24)) then (Option.bind (Tf.nat_divide.l15 F ((IntKind.wrap .i64 (((List.length (List.replicate (Int.toNat (IntKind.wrap .i64 (((List.length ((y18 ++ (List.set (List.replicate 1 (0 : Int)) 0 (0 : Int))) ++ (List.set (List.replicate 1 (0 : Int)) 0 (0 : Int)))) : Int) - ((List.length y24) : Int)))) (0 : Int))) : Int) - (1 : Int))), ((Go.IntKind.wrap IntKind.u64 (List.getD y24 (Int.toNat (IntKind.wrap .i64 (((List.length y24) : Int) - (1 : Int)))) (0 : Int))), (y24, (((y18 ++ (List.set (List.replicate 1 (0 : Int)) 0 (0 : Int))) ++ (List.set (List.replicate 1 (0 : Int)) 0 (0 : Int))), ((List.replicate (Int.toNat (IntKind.wrap .i64 (((List.length ((y18 ++ (List.set (List.replicate 1 (0 : Int)) 0 (0 : Int))) ++ (List.set (List.replicate 1 (0 : Int)) 0 (0 : Int)))) : Int) - ((List.length y24) : Int)))) (0 : Int)), y14.1)))))) (fun y55 => (Option.bind (Tf.slices_Clone_limbs.f F y55.2.2) (fun y58 => (Option.bind (Tf.nat_trim.f F y58) (fun y60 => (bif (decide ((0 : Int) ≤ y55.2.1)) then (Option.bind (Tf.nat_small.f F (y60, (Go.IntKind.wrap IntKind.u64 ((1 : Int) * ((2 : Int) ^ (Min.min (Int.toNat y55.2.1) 64)))))) (fun y66 => (Option.bind (Tf.nat_trim.f F y55.1) (fun y74 => (some (y74, y66.1))))))
 else none)))))))
 else none)
 else none)
 else none)
 else (bif (((decide ((0 : Int) ≤ (IntKind.wrap .i64 (((List.length (y18 ++ (List.set (List.replicate 1 (0 : Int)) 0 (0 : Int)))) : Int) - ((List.length y24) : Int))))) && (decide ((IntKind.wrap .i64 (((List.length (y18 ++ (List.set (List.replicate 1 (0 : Int)) 0 (0 : Int)))) : Int) - ((List.length y24) : Int))) ≤ (IntKind.wrap .i64 (((List.length (y18 ++ (List.set (List.replicate 1 (0 : Int)) 0 (0 : Int)))) : Int) - ((List.length y24) : Int)))))) && (decide ((IntKind.wrap .i64 (((List.length (y18 ++ (List.set (List.replicate 1 (0 : Int)) 0 (0 : Int)))) : Int) - ((List.length y24) : Int))) ≤ (1099511627776 : Int)))) then (bif (inR (IntKind.wrap .i64 (((List.length y24) : Int) - (1 : Int))) (List.length y24)) then (Option.bind (Tf.nat_divide.l15 F ((IntKind.wrap .i64 (((List.length (List.replicate (Int.toNat (IntKind.wrap .i64 (((List.length (y18 ++ (List.set (List.replicate 1 (0 : Int)) 0 (0 : Int)))) : Int) - ((List.length y24) : Int)))) (0 : Int))) : Int) - (1 : Int))), ((Go.IntKind.wrap IntKind.u64 (List.getD y24 (Int.toNat (IntKind.wrap .i64 (((List.length y24) : Int) - (1 : Int)))) (0 : Int))), (y24, ((y18 ++ (List.set (List.replicate 1 (0 : Int)) 0 (0 : Int))), ((List.replicate (Int.toNat (IntKind.wrap .i64 (((List.length (y18 ++ (List.set (List.replicate 1 (0 : Int)) 0 (0 : Int)))) : Int) - ((List.length y24) : Int)))) (0 : Int)), y14.1)))))) (fun y51 => (Option.bind (Tf.slices_Clone_limbs.f F y51.2.2) (fun y54 => (Option.bind (Tf.nat_trim.f F y54) (fun y56 => (bif (decide ((0 : Int) ≤ y51.2.1)) then (Option.bind (Tf.nat_small.f F (y56, (Go.IntKind.wrap IntKind.u64 ((1 : Int) * ((2 : Int) ^ (Min.min (Int.toNat y51.2.1) 64)))))) (fun y62 => (Option.bind (Tf.nat_trim.f F y51.1) (fun y70 => (some (y70, y62.1))))))
 else none)))))))
 else none)
 else none))))
 else none)))))))))
theorem Tf.nat_divide.f_ok (F : Nat) (a) : exec tyT (look [(182, Tf.nat_trim.e F), (184, Tf.nat_compare.e F), (185, Tf.nat_small.e F), (186, Tf.nat_shift.e F), (187, Tf.nat_guess.e F), (188, Tf.slices_Clone_limbs.e F)] : Fns) 108 (look [(7, fun st κ => hand [.slot 8, .view 0 2, .view 1 2] [.int .u64, .sl 2, .sl 2] [⟨.exit 0, [.slot 8, .view 0 2, .view 1 2], [.int .u64, .sl 2, .sl 2]⟩] (Tf.nat_divide.l7 F) st κ), (15, fun st κ => hand [.slot 13, .slot 12, .own 10 2, .own 9 2, .own 11 2, .slot 8] [.int .i64, .int .u64, .sl 2, .sl 2, .sl 2, .int .u64] [⟨.exit 2, [.own 11 2, .slot 8, .own 9 2], [.sl 2, .int .u64, .sl 2]⟩] (Tf.nat_divide.l15 F) st κ)] : Loops) Tf.nat_divide.c (init [.v 2, .v 2] (encKs [.sl 2, .sl 2] a)) (finT (look [(182, Tf.nat_trim.e F), (184, Tf.nat_compare.e F), (185, Tf.nat_small.e F), (186, Tf.nat_shift.e F), (187, Tf.nat_guess.e F), (188, Tf.slices_Clone_limbs.e F)] : Fns) (⟨[.v 2, .v 2], [.o 2, .v 2]⟩ : Sig) [4, 5] [.own, .pure] [.sl 2, .sl 2]) = Tf.nat_divide.f F a := by kernel_rfl
def Tf.nat_divide.e (F : Nat) : Fn := mkFn (⟨[.v 2, .v 2], [.o 2, .v 2]⟩ : Sig) [.sl 2, .sl 2] [.own, .pure] [.sl 2, .sl 2] (Tf.nat_divide.f F)
theorem Tf.nat_divide.ok (F : Nat) : EntryOk Proofs.Tryz.prog tyT.G 175 (Tf.nat_divide.e F) :=
  fn_ok tyT_ok rfl mix (.cons (Tf.nat_trim.ok F) (.cons (Tf.nat_compare.ok F) (.cons (Tf.nat_small.ok F) (.cons (Tf.nat_shift.ok F) (.cons (Tf.nat_guess.ok F) (.cons (Tf.slices_Clone_limbs.ok F) .nil)))))) (Λ := (look [(7, fun st κ => hand [.slot 8, .view 0 2, .view 1 2] [.int .u64, .sl 2, .sl 2] [⟨.exit 0, [.slot 8, .view 0 2, .view 1 2], [.int .u64, .sl 2, .sl 2]⟩] (Tf.nat_divide.l7 F) st κ), (15, fun st κ => hand [.slot 13, .slot 12, .own 10 2, .own 9 2, .own 11 2, .slot 8] [.int .i64, .int .u64, .sl 2, .sl 2, .sl 2, .int .u64] [⟨.exit 2, [.own 11 2, .slot 8, .own 9 2], [.sl 2, .int .u64, .sl 2]⟩] (Tf.nat_divide.l15 F) st κ)] : Loops)) (fn := Proofs.Tryz.f175) (c := Tf.nat_divide.c) (LoopsOk.of (bs := [Tf.nat_divide.b7, Tf.nat_divide.b15]) (by kernel_rfl) (.cons rfl (Tf.nat_divide.l7_ok F) (.cons rfl (Tf.nat_divide.l15_ok F) .nil))) (by kernel_rfl) (by kernel_rfl) (by kernel_rfl) (by kernel_rfl) (res2 (by kernel_rfl)) (by decide) (Tf.nat_divide.f_ok F)
noncomputable def Tf.slices_Reverse___byte_byte_.c : Code := (Proofs.Tryz.f189.body).getD .skip
noncomputable def Tf.slices_Reverse___byte_byte_.b1 : Code := codeAt [1, 0, 0] Tf.slices_Reverse___byte_byte_.c
def Tf.slices_Reverse___byte_byte_.s1 (F : Nat) (L : (Int × (Int × (List Int))) → Option (List Int)) (x : (Int × (Int × (List Int)))) : Option (List Int) :=
 (bif (decide (x.2.1 < x.1)) then (bif (inR x.1 (List.length x.2.2)) then (bif (inR x.2.1 (List.length x.2.2)) then (bif (inR x.2.1 (List.length x.2.2)) then (bif (inR x.1 (List.length (List.set x.2.2 (Int.toNat x.2.1) (List.getD x.2.2 (Int.toNat x.1) (0 : Int))))) then (L ((IntKind.wrap .i64 (x.1 - (1 : Int))), ((IntKind.wrap .i64 (x.2.1 + (1 : Int))), (List.set (List.set x.2.2 (Int.toNat x.2.1) (List.getD x.2.2 (Int.toNat x.1) (0 : Int))) (Int.toNat x.1) (List.getD x.2.2 (Int.toNat x.2.1) (0 : Int))))))
 else none)
 else none)
 else none)
 else none)
 else (some x.2.2))
def Tf.slices_Reverse___byte_byte_.l1 (F : Nat) : (Int × (Int × (List Int))) → Option (List Int) := iter (Tf.slices_Reverse___byte_byte_.s1 F) F
theorem Tf.slices_Reverse___byte_byte_.s1_ok (F : Nat) (L a) : exec tyT (look [] : Fns) 28 (look [] : Loops) Tf.slices_Reverse___byte_byte_.b1 (rebuild [.slot 3, .slot 2, .io 0 1] (encKs [.int .i64, .int .i64, .sl 1] a)) (bodyK [.slot 3, .slot 2, .io 0 1] [.int .i64, .int .i64, .sl 1] [⟨.exit 0, [.io 0 1], [.sl 1]⟩] L) = Tf.slices_Reverse___byte_byte_.s1 F L a := by kernel_rfl
theorem Tf.slices_Reverse___byte_byte_.l1_ok (F : Nat) : LoopOk Proofs.Tryz.prog tyT.G 28 Tf.slices_Reverse___byte_byte_.b1 (fun st κ => hand [.slot 3, .slot 2, .io 0 1] [.int .i64, .int .i64, .sl 1] [⟨.exit 0, [.io 0 1], [.sl 1]⟩] (Tf.slices_Reverse___byte_byte_.l1 F) st κ) :=
  loop_ok tyT_ok rfl mix .nil (Λ := (look [] : Loops)) (LoopsOk.of (bs := []) (by kernel_rfl) .nil) (Tf.slices_Reverse___byte_byte_.s1_ok F) F
def Tf.slices_Reverse___byte_byte_.f (F : Nat) (a : (List Int)) : Option (List Int) :=
 (Option.bind (Tf.slices_Reverse___byte_byte_.l1 F ((IntKind.wrap .i64 (((List.length a) : Int) - (1 : Int))), ((0 : Int), a))) (fun y8 => (some y8)))
theorem Tf.slices_Reverse___byte_byte_.f_ok (F : Nat) (a) : exec tyT (look [] : Fns) 28 (look [(1, fun st κ => hand [.slot 3, .slot 2, .io 0 1] [.int .i64, .int .i64, .sl 1] [⟨.exit 0, [.io 0 1], [.sl 1]⟩] (Tf.slices_Reverse___byte_byte_.l1 F) st κ)] : Loops) Tf.slices_Reverse___byte_byte_.c (init [.m 1] (encKs [.sl 1] a)) (finT (look [] : Fns) (⟨[.m 1], []⟩ : Sig) [] [.row] [.sl 1]) = Tf.slices_Reverse___byte_byte_.f F a := by kernel_rfl
def Tf.slices_Reverse___byte_byte_.e (F : Nat) : Fn := mkFn (⟨[.m 1], []⟩ : Sig) [.sl 1] [.row] [.sl 1] (Tf.slices_Reverse___byte_byte_.f F)
theorem Tf.slices_Reverse___byte_byte_.ok (F : Nat) : EntryOk Proofs.Tryz.prog tyT.G 189 (Tf.slices_Reverse___byte_byte_.e F) :=
  fn_ok tyT_ok rfl mix .nil (Λ := (look [(1, fun st κ => hand [.slot 3, .slot 2, .io 0 1] [.int .i64, .int .i64, .sl 1] [⟨.exit 0, [.io 0 1], [.sl 1]⟩] (Tf.slices_Reverse___byte_byte_.l1 F) st κ)] : Loops)) (fn := Proofs.Tryz.f189) (c := Tf.slices_Reverse___byte_byte_.c) (LoopsOk.of (bs := [Tf.slices_Reverse___byte_byte_.b1]) (by kernel_rfl) (.cons rfl (Tf.slices_Reverse___byte_byte_.l1_ok F) .nil)) (by kernel_rfl) (by kernel_rfl) (by kernel_rfl) (by kernel_rfl) (res0 (by kernel_rfl)) (by decide) (Tf.slices_Reverse___byte_byte_.f_ok F)
noncomputable def Tf.nat_text.c : Code := (Proofs.Tryz.f176.body).getD .skip
noncomputable def Tf.nat_text.b7 : Code := codeAt [1, 1, 1, 0, 0, 0, 1, 0, 1, 0, 1, 0, 0] Tf.nat_text.c
def Tf.nat_text.s7 (F : Nat) (L : (Int × (Int × ((List Int) × (List Int)))) → Option ((List Int) × (List Int))) (x : (Int × (Int × ((List Int) × (List Int))))) : Option ((List Int) × (List Int)) :=
 (bif (decide (x.1 < (9 : Int))) then (bif (decide (((List.length x.2.2.2) : Int) > (0 : Int))) then (bif (Nat.ble ((List.length x.2.2.1) + 1) 1099511627776) then (L ((IntKind.wrap .i64 (x.1 + (1 : Int))), ((Go.IntKind.wrap IntKind.u64 (Int.tdiv x.2.1 (10 : Int))), ((x.2.2.1 ++ (List.set (List.replicate 1 (0 : Int)) 0 (Go.IntKind.wrap IntKind.u8 (Go.IntKind.wrap IntKind.u64 ((48 : Int) + (Int.tmod x.2.1 (10 : Int))))))), x.2.2.2))))
 else none)
 else (bif (decide (x.2.1 > (0 : Int))) then (bif (Nat.ble ((List.length x.2.2.1) + 1) 1099511627776) then (L ((IntKind.wrap .i64 (x.1 + (1 : Int))), ((Go.IntKind.wrap IntKind.u64 (Int.tdiv x.2.1 (10 : Int))), ((x.2.2.1 ++ (List.set (List.replicate 1 (0 : Int)) 0 (Go.IntKind.wrap IntKind.u8 (Go.IntKind.wrap IntKind.u64 ((48 : Int) + (Int.tmod x.2.1 (10 : Int))))))), x.2.2.2))))
 else none)
 else (some (x.2.2.1, x.2.2.2))))
 else (some (x.2.2.1, x.2.2.2)))
def Tf.nat_text.l7 (F : Nat) : (Int × (Int × ((List Int) × (List Int)))) → Option ((List Int) × (List Int)) := iter (Tf.nat_text.s7 F) F
theorem Tf.nat_text.s7_ok (F : Nat) (L a) : exec tyT (look [(185, Tf.nat_small.e F), (189, Tf.slices_Reverse___byte_byte_.e F)] : Fns) 45 (look [] : Loops) Tf.nat_text.b7 (rebuild [.slot 6, .slot 5, .own 3 1, .own 4 2] (encKs [.int .i64, .int .u64, .sl 1, .sl 2] a)) (bodyK [.slot 6, .slot 5, .own 3 1, .own 4 2] [.int .i64, .int .u64, .sl 1, .sl 2] [⟨.exit 2, [.own 3 1, .own 4 2], [.sl 1, .sl 2]⟩] L) = Tf.nat_text.s7 F L a := by kernel_rfl
theorem Tf.nat_text.l7_ok (F : Nat) : LoopOk Proofs.Tryz.prog tyT.G 45 Tf.nat_text.b7 (fun st κ => hand [.slot 6, .slot 5, .own 3 1, .own 4 2] [.int .i64, .int .u64, .sl 1, .sl 2] [⟨.exit 2, [.own 3 1, .own 4 2], [.sl 1, .sl 2]⟩] (Tf.nat_text.l7 F) st κ) :=
  loop_ok tyT_ok rfl mix (.cons (Tf.nat_small.ok F) (.cons (Tf.slices_Reverse___byte_byte_.ok F) .nil)) (Λ := (look [] : Loops)) (LoopsOk.of (bs := []) (by kernel_rfl) .nil) (Tf.nat_text.s7_ok F) F
noncomputable def Tf.nat_text.b4 : Code := codeAt [1, 1, 1, 0, 0, 0] Tf.nat_text.c
def Tf.nat_text.s4 (F : Nat) (L : ((List Int) × (List Int)) → Option (List Int)) (x : ((List Int) × (List Int))) : Option (List Int) :=
 (bif (decide (((List.length x.2) : Int) > (0 : Int))) then (Option.bind (Tf.nat_small.f F (x.2, (1000000000 : Int))) (fun y14 => (Option.bind (Tf.nat_text.l7 F ((0 : Int), (y14.2, (x.1, y14.1)))) (fun y21 => (L (y21.1, y21.2))))))
 else (some x.1))
def Tf.nat_text.l4 (F : Nat) : ((List Int) × (List Int)) → Option (List Int) := iter (Tf.nat_text.s4 F) F
theorem Tf.nat_text.s4_ok (F : Nat) (L a) : exec tyT (look [(185, Tf.nat_small.e F), (189, Tf.slices_Reverse___byte_byte_.e F)] : Fns) 45 (look [(7, fun st κ => hand [.slot 6, .slot 5, .own 3 1, .own 4 2] [.int .i64, .int .u64, .sl 1, .sl 2] [⟨.exit 2, [.own 3 1, .own 4 2], [.sl 1, .sl 2]⟩] (Tf.nat_text.l7 F) st κ)] : Loops) Tf.nat_text.b4 (rebuild [.own 3 1, .view 0 2] (encKs [.sl 1, .sl 2] a)) (bodyK [.own 3 1, .view 0 2] [.sl 1, .sl 2] [⟨.exit 0, [.own 3 1], [.sl 1]⟩] L) = Tf.nat_text.s4 F L a := by kernel_rfl
theorem Tf.nat_text.l4_ok (F : Nat) : LoopOk Proofs.Tryz.prog tyT.G 45 Tf.nat_text.b4 (fun st κ => hand [.own 3 1, .view 0 2] [.sl 1, .sl 2] [⟨.exit 0, [.own 3 1], [.sl 1]⟩] (Tf.nat_text.l4 F) st κ) :=
  loop_ok tyT_ok rfl mix (.cons (Tf.nat_small.ok F) (.cons (Tf.slices_Reverse___byte_byte_.ok F) .nil)) (Λ := (look [(7, fun st κ => hand [.slot 6, .slot 5, .own 3 1, .own 4 2] [.int .i64, .int .u64, .sl 1, .sl 2] [⟨.exit 2, [.own 3 1, .own 4 2], [.sl 1, .sl 2]⟩] (Tf.nat_text.l7 F) st κ)] : Loops)) (LoopsOk.of (bs := [Tf.nat_text.b7]) (by kernel_rfl) (.cons rfl (Tf.nat_text.l7_ok F) .nil)) (Tf.nat_text.s4_ok F) F
def Tf.nat_text.f (F : Nat) (a : (List Int)) : Option ByteArray :=
 (bif (((List.length a) : Int) == (0 : Int)) then (some (⟨#[48]⟩ : ByteArray))
 else (Option.bind (Tf.nat_text.l4 F (([] : List Int), a)) (fun y8 => (Option.bind (Tf.slices_Reverse___byte_byte_.f F y8) (fun y11 => (some (strOf y11)))))))
theorem Tf.nat_text.f_ok (F : Nat) (a) : exec tyT (look [(185, Tf.nat_small.e F), (189, Tf.slices_Reverse___byte_byte_.e F)] : Fns) 45 (look [(4, fun st κ => hand [.own 3 1, .view 0 2] [.sl 1, .sl 2] [⟨.exit 0, [.own 3 1], [.sl 1]⟩] (Tf.nat_text.l4 F) st κ)] : Loops) Tf.nat_text.c (init [.v 2] (encKs [.sl 2] a)) (finT (look [(185, Tf.nat_small.e F), (189, Tf.slices_Reverse___byte_byte_.e F)] : Fns) (⟨[.v 2], [.p]⟩ : Sig) [2] [.pure] [.str]) = Tf.nat_text.f F a := by kernel_rfl
def Tf.nat_text.e (F : Nat) : Fn := mkFn (⟨[.v 2], [.p]⟩ : Sig) [.sl 2] [.pure] [.str] (Tf.nat_text.f F)
theorem Tf.nat_text.ok (F : Nat) : EntryOk Proofs.Tryz.prog tyT.G 176 (Tf.nat_text.e F) :=
  fn_ok tyT_ok rfl mix (.cons (Tf.nat_small.ok F) (.cons (Tf.slices_Reverse___byte_byte_.ok F) .nil)) (Λ := (look [(4, fun st κ => hand [.own 3 1, .view 0 2] [.sl 1, .sl 2] [⟨.exit 0, [.own 3 1], [.sl 1]⟩] (Tf.nat_text.l4 F) st κ)] : Loops)) (fn := Proofs.Tryz.f176) (c := Tf.nat_text.c) (LoopsOk.of (bs := [Tf.nat_text.b4]) (by kernel_rfl) (.cons rfl (Tf.nat_text.l4_ok F) .nil)) (by kernel_rfl) (by kernel_rfl) (by kernel_rfl) (by kernel_rfl) (res1 (by kernel_rfl)) (by decide) (Tf.nat_text.f_ok F)
noncomputable def Tf.nat_Gcd.c : Code := (Proofs.Tryz.f156.body).getD .skip
noncomputable def Tf.nat_Gcd.b4 : Code := codeAt [1, 1, 1, 0, 0, 0] Tf.nat_Gcd.c
def Tf.nat_Gcd.s4 (F : Nat) (L : ((List Int) × (List Int)) → Option (List Int)) (x : ((List Int) × (List Int))) : Option (List Int) :=
 (bif (decide (((List.length x.1) : Int) > (0 : Int))) then (Option.bind (Tf.nat_divide.f F (x.2, x.1)) (fun y25 => (L (y25.2, x.1))))
 else (some x.2))
def Tf.nat_Gcd.l4 (F : Nat) : ((List Int) × (List Int)) → Option (List Int) := iter (Tf.nat_Gcd.s4 F) F
theorem Tf.nat_Gcd.s4_ok (F : Nat) (L a) : exec tyT (look [(174, Tf.nat_both.e F), (175, Tf.nat_divide.e F), (176, Tf.nat_text.e F)] : Fns) 33 (look [] : Loops) Tf.nat_Gcd.b4 (rebuild [.view 7 2, .view 6 2] (encKs [.sl 2, .sl 2] a)) (bodyK [.view 7 2, .view 6 2] [.sl 2, .sl 2] [⟨.exit 0, [.view 6 2], [.sl 2]⟩] L) = Tf.nat_Gcd.s4 F L a := by kernel_rfl
theorem Tf.nat_Gcd.l4_ok (F : Nat) : LoopOk Proofs.Tryz.prog tyT.G 33 Tf.nat_Gcd.b4 (fun st κ => hand [.view 7 2, .view 6 2] [.sl 2, .sl 2] [⟨.exit 0, [.view 6 2], [.sl 2]⟩] (Tf.nat_Gcd.l4 F) st κ) :=
  loop_ok tyT_ok rfl mix (.cons (Tf.nat_both.ok F) (.cons (Tf.nat_divide.ok F) (.cons (Tf.nat_text.ok F) .nil))) (Λ := (look [] : Loops)) (LoopsOk.of (bs := []) (by kernel_rfl) .nil) (Tf.nat_Gcd.s4_ok F) F
def Tf.nat_Gcd.f (F : Nat) (a : (ByteArray × ByteArray)) : Option (ByteArray × Int) :=
 (Option.bind (Tf.nat_both.f F (a.1, a.2)) (fun y8 => (bif (!y8.2.2) then (some ((⟨#[]⟩ : ByteArray), (2 : Int)))
 else (Option.bind (Tf.nat_Gcd.l4 F (y8.2.1, y8.1)) (fun y18 => (Option.bind (Tf.nat_text.f F y18) (fun y21 => (some (y21, (0 : Int))))))))))
theorem Tf.nat_Gcd.f_ok (F : Nat) (a) : exec tyT (look [(174, Tf.nat_both.e F), (175, Tf.nat_divide.e F), (176, Tf.nat_text.e F)] : Fns) 33 (look [(4, fun st κ => hand [.view 7 2, .view 6 2] [.sl 2, .sl 2] [⟨.exit 0, [.view 6 2], [.sl 2]⟩] (Tf.nat_Gcd.l4 F) st κ)] : Loops) Tf.nat_Gcd.c (init [.p, .p] (encKs [.str, .str] a)) (finT (look [(174, Tf.nat_both.e F), (175, Tf.nat_divide.e F), (176, Tf.nat_text.e F)] : Fns) (⟨[.p, .p], [.p, .p]⟩ : Sig) [4, 5] [.pure, .pure] [.str, .int .i64]) = Tf.nat_Gcd.f F a := by kernel_rfl
def Tf.nat_Gcd.e (F : Nat) : Fn := mkFn (⟨[.p, .p], [.p, .p]⟩ : Sig) [.str, .str] [.pure, .pure] [.str, .int .i64] (Tf.nat_Gcd.f F)
theorem Tf.nat_Gcd.ok (F : Nat) : EntryOk Proofs.Tryz.prog tyT.G 156 (Tf.nat_Gcd.e F) :=
  fn_ok tyT_ok rfl mix (.cons (Tf.nat_both.ok F) (.cons (Tf.nat_divide.ok F) (.cons (Tf.nat_text.ok F) .nil))) (Λ := (look [(4, fun st κ => hand [.view 7 2, .view 6 2] [.sl 2, .sl 2] [⟨.exit 0, [.view 6 2], [.sl 2]⟩] (Tf.nat_Gcd.l4 F) st κ)] : Loops)) (fn := Proofs.Tryz.f156) (c := Tf.nat_Gcd.c) (LoopsOk.of (bs := [Tf.nat_Gcd.b4]) (by kernel_rfl) (.cons rfl (Tf.nat_Gcd.l4_ok F) .nil)) (by kernel_rfl) (by kernel_rfl) (by kernel_rfl) (by kernel_rfl) (res2 (by kernel_rfl)) (by decide) (Tf.nat_Gcd.f_ok F)
noncomputable def Tf.nat_Div.c : Code := (Proofs.Tryz.f157.body).getD .skip
def Tf.nat_Div.f (F : Nat) (a : (ByteArray × ByteArray)) : Option (ByteArray × (ByteArray × Int)) :=
 (Option.bind (Tf.nat_both.f F (a.1, a.2)) (fun y9 => (bif (!y9.2.2) then (some ((⟨#[]⟩ : ByteArray), ((⟨#[]⟩ : ByteArray), (2 : Int))))
 else (bif (((List.length y9.2.1) : Int) == (0 : Int)) then (some ((⟨#[]⟩ : ByteArray), ((⟨#[]⟩ : ByteArray), (3 : Int))))
 else (Option.bind (Tf.nat_divide.f F (y9.1, y9.2.1)) (fun y27 => (Option.bind (Tf.nat_text.f F y27.1) (fun y35 => (Option.bind (Tf.nat_text.f F y27.2) (fun y38 => (some (y35, (y38, (0 : Int))))))))))))))
theorem Tf.nat_Div.f_ok (F : Nat) (a) : exec tyT (look [(174, Tf.nat_both.e F), (175, Tf.nat_divide.e F), (176, Tf.nat_text.e F)] : Fns) 36 (look [] : Loops) Tf.nat_Div.c (init [.p, .p] (encKs [.str, .str] a)) (finT (look [(174, Tf.nat_both.e F), (175, Tf.nat_divide.e F), (176, Tf.nat_text.e F)] : Fns) (⟨[.p, .p], [.p, .p, .p]⟩ : Sig) [4, 5, 6] [.pure, .pure, .pure] [.str, .str, .int .i64]) = Tf.nat_Div.f F a := by kernel_rfl
def Tf.nat_Div.e (F : Nat) : Fn := mkFn (⟨[.p, .p], [.p, .p, .p]⟩ : Sig) [.str, .str] [.pure, .pure, .pure] [.str, .str, .int .i64] (Tf.nat_Div.f F)
theorem Tf.nat_Div.ok (F : Nat) : EntryOk Proofs.Tryz.prog tyT.G 157 (Tf.nat_Div.e F) :=
  fn_ok tyT_ok rfl mix (.cons (Tf.nat_both.ok F) (.cons (Tf.nat_divide.ok F) (.cons (Tf.nat_text.ok F) .nil))) (Λ := (look [] : Loops)) (fn := Proofs.Tryz.f157) (c := Tf.nat_Div.c) (LoopsOk.of (bs := []) (by kernel_rfl) .nil) (by kernel_rfl) (by kernel_rfl) (by kernel_rfl) (by kernel_rfl) (res3 (by kernel_rfl)) (by decide) (Tf.nat_Div.f_ok F)
noncomputable def Tf.rat_lowest.c : Code := (Proofs.Tryz.f118.body).getD .skip
def Tf.rat_lowest.f (F : Nat) (a : (ByteArray × ByteArray)) : Option ((ByteArray × ByteArray) × Bool) :=
 (bif (seqB a.2 (⟨#[48]⟩ : ByteArray)) then (bif (Nat.ble ((ByteArray.size a.1) + 3) 4611686018427387904) then (bif (Nat.ble ((ByteArray.size (a.1 ++ (⟨#[32, 47, 32]⟩ : ByteArray))) + (ByteArray.size a.2)) 4611686018427387904) then (some ((ByteArray.empty, ByteArray.empty), Bool.false))
 else none)
 else none)
 else (Option.bind (Tf.strings_HasPrefix.f F (a.2, (⟨#[45]⟩ : ByteArray))) (fun y9 => (bif y9 then (Option.bind (Tf.whole_Neg.f F a.1) (fun y12 => (Option.bind (Tf.rat_size.f F a.2) (fun y19 => (Option.bind (Tf.rat_size.f F y12.1) (fun y23 => (Option.bind (Tf.nat_Gcd.f F (y23, y19)) (fun y26 => (bif (y26.2 != (0 : Int)) then (some ((ByteArray.empty, ByteArray.empty), Bool.false))
 else (Option.bind (Tf.rat_size.f F y12.1) (fun y36 => (Option.bind (Tf.nat_Div.f F (y36, y26.1)) (fun y39 => (Option.bind (Tf.nat_Div.f F (y19, y26.1)) (fun y50 => (Option.bind (Tf.strings_HasPrefix.f F (y12.1, (⟨#[45]⟩ : ByteArray))) (fun y60 => (bif y60 then (Option.bind (Tf.whole_Neg.f F y39.1) (fun y63 => (some ((y63.1, y50.1), Bool.true))))
 else (some ((y39.1, y50.1), Bool.true))))))))))))))))))))
 else (Option.bind (Tf.rat_size.f F a.1) (fun y12 => (Option.bind (Tf.nat_Gcd.f F (y12, a.2)) (fun y15 => (bif (y15.2 != (0 : Int)) then (some ((ByteArray.empty, ByteArray.empty), Bool.false))
 else (Option.bind (Tf.rat_size.f F a.1) (fun y25 => (Option.bind (Tf.nat_Div.f F (y25, y15.1)) (fun y28 => (Option.bind (Tf.nat_Div.f F (a.2, y15.1)) (fun y39 => (Option.bind (Tf.strings_HasPrefix.f F (a.1, (⟨#[45]⟩ : ByteArray))) (fun y49 => (bif y49 then (Option.bind (Tf.whole_Neg.f F y28.1) (fun y52 => (some ((y52.1, y39.1), Bool.true))))
 else (some ((y28.1, y39.1), Bool.true))))))))))))))))))))
theorem Tf.rat_lowest.f_ok (F : Nat) (a) : exec tyT (look [(153, Tf.strings_HasPrefix.e F), (154, Tf.whole_Neg.e F), (155, Tf.rat_size.e F), (156, Tf.nat_Gcd.e F), (157, Tf.nat_Div.e F)] : Fns) 73 (look [] : Loops) Tf.rat_lowest.c (init [.p, .p] (encKs [.str, .str] a)) (finC tyT (look [(153, Tf.strings_HasPrefix.e F), (154, Tf.whole_Neg.e F), (155, Tf.rat_size.e F), (156, Tf.nat_Gcd.e F), (157, Tf.nat_Div.e F)] : Fns) 73 4 121 (⟨[.p, .p], [.p, .v 99]⟩ : Sig) [4, 5] [.pure, .pure] [.st [.str, .str], .err]) = Tf.rat_lowest.f F a := by kernel_rfl
def Tf.rat_lowest.e (F : Nat) : Fn := mkFn (⟨[.p, .p], [.p, .v 99]⟩ : Sig) [.str, .str] [.pure, .pure] [.st [.str, .str], .err] (Tf.rat_lowest.f F)
theorem Tf.rat_lowest.ok (F : Nat) : EntryOk Proofs.Tryz.prog tyT.G 118 (Tf.rat_lowest.e F) :=
  fn_okC tyT_ok rfl mix (.cons (Tf.strings_HasPrefix.ok F) (.cons (Tf.whole_Neg.ok F) (.cons (Tf.rat_size.ok F) (.cons (Tf.nat_Gcd.ok F) (.cons (Tf.nat_Div.ok F) .nil))))) (Λ := (look [] : Loops)) (fn := Proofs.Tryz.f118) (c := Tf.rat_lowest.c) (LoopsOk.of (bs := []) (by kernel_rfl) .nil) (by kernel_rfl) (by kernel_rfl) (by kernel_rfl) (by kernel_rfl) (resC1 (by kernel_rfl) (by kernel_rfl)) (by decide) (Tf.rat_lowest.f_ok F)
noncomputable def Tf._rat_pair__text.c : Code := (Proofs.Tryz.f119.body).getD .skip
def Tf._rat_pair__text.f (F : Nat) (a : (ByteArray × ByteArray)) : Option ByteArray :=
 (bif (seqB a.2 (⟨#[49]⟩ : ByteArray)) then (some a.1)
 else (bif (Nat.ble ((ByteArray.size a.1) + 1) 4611686018427387904) then (bif (Nat.ble ((ByteArray.size (a.1 ++ (⟨#[47]⟩ : ByteArray))) + (ByteArray.size a.2)) 4611686018427387904) then (some ((a.1 ++ (⟨#[47]⟩ : ByteArray)) ++ a.2))
 else none)
 else none))
theorem Tf._rat_pair__text.f_ok (F : Nat) (a) : exec tyT (look [] : Fns) 14 (look [] : Loops) Tf._rat_pair__text.c (init [.p] (encKs [.st [.str, .str]] a)) (finT (look [] : Fns) (⟨[.p], [.p]⟩ : Sig) [2] [.pure] [.str]) = Tf._rat_pair__text.f F a := by kernel_rfl
def Tf._rat_pair__text.e (F : Nat) : Fn := mkFn (⟨[.p], [.p]⟩ : Sig) [.st [.str, .str]] [.pure] [.str] (Tf._rat_pair__text.f F)
theorem Tf._rat_pair__text.ok (F : Nat) : EntryOk Proofs.Tryz.prog tyT.G 119 (Tf._rat_pair__text.e F) :=
  fn_ok tyT_ok rfl mix .nil (Λ := (look [] : Loops)) (fn := Proofs.Tryz.f119) (c := Tf._rat_pair__text.c) (LoopsOk.of (bs := []) (by kernel_rfl) .nil) (by kernel_rfl) (by kernel_rfl) (by kernel_rfl) (by kernel_rfl) (res1 (by kernel_rfl)) (by decide) (Tf._rat_pair__text.f_ok F)
noncomputable def Tf.internal_stringslite_Cut.c : Code := (Proofs.Tryz.f89.body).getD .skip
def Tf.internal_stringslite_Cut.f (F : Nat) (a : (ByteArray × ByteArray)) : Option (ByteArray × (ByteArray × Bool)) :=
 (Option.bind (Tf.internal_stringslite_Index.f F (a.1, a.2)) (fun y9 => (bif (decide (y9 ≥ (0 : Int))) then (bif ((decide ((0 : Int) ≤ y9)) && (decide (y9 ≤ ((ByteArray.size a.1) : Int)))) then (bif ((decide ((0 : Int) ≤ (IntKind.wrap .i64 (y9 + ((ByteArray.size a.2) : Int))))) && (decide ((IntKind.wrap .i64 (y9 + ((ByteArray.size a.2) : Int))) ≤ ((ByteArray.size a.1) : Int)))) then (some ((ByteArray.extract a.1 0 (Int.toNat y9)), ((ByteArray.extract a.1 (Int.toNat (IntKind.wrap .i64 (y9 + ((ByteArray.size a.2) : Int)))) (ByteArray.size a.1)), Bool.true)))
 else none)
 else none)
 else (some (a.1, ((⟨#[]⟩ : ByteArray), Bool.false))))))
theorem Tf.internal_stringslite_Cut.f_ok (F : Nat) (a) : exec tyT (look [(107, Tf.internal_stringslite_Index.e F)] : Fns) 23 (look [] : Loops) Tf.internal_stringslite_Cut.c (init [.p, .p] (encKs [.str, .str] a)) (finT (look [(107, Tf.internal_stringslite_Index.e F)] : Fns) (⟨[.p, .p], [.p, .p, .p]⟩ : Sig) [4, 5, 6] [.pure, .pure, .pure] [.str, .str, .bool]) = Tf.internal_stringslite_Cut.f F a := by kernel_rfl
def Tf.internal_stringslite_Cut.e (F : Nat) : Fn := mkFn (⟨[.p, .p], [.p, .p, .p]⟩ : Sig) [.str, .str] [.pure, .pure, .pure] [.str, .str, .bool] (Tf.internal_stringslite_Cut.f F)
theorem Tf.internal_stringslite_Cut.ok (F : Nat) : EntryOk Proofs.Tryz.prog tyT.G 89 (Tf.internal_stringslite_Cut.e F) :=
  fn_ok tyT_ok rfl mix (.cons (Tf.internal_stringslite_Index.ok F) .nil) (Λ := (look [] : Loops)) (fn := Proofs.Tryz.f89) (c := Tf.internal_stringslite_Cut.c) (LoopsOk.of (bs := []) (by kernel_rfl) .nil) (by kernel_rfl) (by kernel_rfl) (by kernel_rfl) (by kernel_rfl) (res3 (by kernel_rfl)) (by decide) (Tf.internal_stringslite_Cut.f_ok F)
noncomputable def Tf.strings_Cut.c : Code := (Proofs.Tryz.f64.body).getD .skip
def Tf.strings_Cut.f (F : Nat) (a : (ByteArray × ByteArray)) : Option (ByteArray × (ByteArray × Bool)) :=
 (Option.bind (Tf.internal_stringslite_Cut.f F (a.1, a.2)) (fun y9 => (some (y9.1, (y9.2.1, y9.2.2)))))
theorem Tf.strings_Cut.f_ok (F : Nat) (a) : exec tyT (look [(89, Tf.internal_stringslite_Cut.e F)] : Fns) 13 (look [] : Loops) Tf.strings_Cut.c (init [.p, .p] (encKs [.str, .str] a)) (finT (look [(89, Tf.internal_stringslite_Cut.e F)] : Fns) (⟨[.p, .p], [.p, .p, .p]⟩ : Sig) [4, 5, 6] [.pure, .pure, .pure] [.str, .str, .bool]) = Tf.strings_Cut.f F a := by kernel_rfl
def Tf.strings_Cut.e (F : Nat) : Fn := mkFn (⟨[.p, .p], [.p, .p, .p]⟩ : Sig) [.str, .str] [.pure, .pure, .pure] [.str, .str, .bool] (Tf.strings_Cut.f F)
theorem Tf.strings_Cut.ok (F : Nat) : EntryOk Proofs.Tryz.prog tyT.G 64 (Tf.strings_Cut.e F) :=
  fn_ok tyT_ok rfl mix (.cons (Tf.internal_stringslite_Cut.ok F) .nil) (Λ := (look [] : Loops)) (fn := Proofs.Tryz.f64) (c := Tf.strings_Cut.c) (LoopsOk.of (bs := []) (by kernel_rfl) .nil) (by kernel_rfl) (by kernel_rfl) (by kernel_rfl) (by kernel_rfl) (res3 (by kernel_rfl)) (by decide) (Tf.strings_Cut.f_ok F)
noncomputable def Tf.rat_read.c : Code := (Proofs.Tryz.f96.body).getD .skip
def Tf.rat_read.f (F : Nat) (a : ByteArray) : Option ((ByteArray × ByteArray) × Bool) :=
 (Option.bind (Tf.strings_Cut.f F (a, (⟨#[47]⟩ : ByteArray))) (fun y7 => (bif (!y7.2.2) then (Option.bind (Tf.whole_Right.f F y7.1) (fun y20 => (bif (!y20) then (some ((ByteArray.empty, ByteArray.empty), Bool.false))
 else (Option.bind (Tf.nat_Right.f F (⟨#[49]⟩ : ByteArray)) (fun y25 => (bif (!y25) then (some ((ByteArray.empty, ByteArray.empty), Bool.false))
 else (bif y7.2.2 then (some ((ByteArray.empty, ByteArray.empty), Bool.false))
 else (Option.bind (Tf.rat_lowest.f F (y7.1, (⟨#[49]⟩ : ByteArray))) (fun y36 => (bif (!y36.2) then (some ((ByteArray.empty, ByteArray.empty), Bool.false))
 else (Option.bind (Tf._rat_pair__text.f F (y36.1.1, y36.1.2)) (fun y48 => (bif (!(seqB y48 a)) then (some ((ByteArray.empty, ByteArray.empty), Bool.false))
 else (some ((y36.1.1, y36.1.2), Bool.true)))))))))))))))
 else (Option.bind (Tf.whole_Right.f F y7.1) (fun y19 => (bif (!y19) then (some ((ByteArray.empty, ByteArray.empty), Bool.false))
 else (Option.bind (Tf.nat_Right.f F y7.2.1) (fun y24 => (bif (!y24) then (some ((ByteArray.empty, ByteArray.empty), Bool.false))
 else (bif y7.2.2 then (bif (seqB y7.2.1 (⟨#[48]⟩ : ByteArray)) then (some ((ByteArray.empty, ByteArray.empty), Bool.false))
 else (bif (seqB y7.2.1 (⟨#[49]⟩ : ByteArray)) then (some ((ByteArray.empty, ByteArray.empty), Bool.false))
 else (Option.bind (Tf.rat_lowest.f F (y7.1, y7.2.1)) (fun y41 => (bif (!y41.2) then (some ((ByteArray.empty, ByteArray.empty), Bool.false))
 else (Option.bind (Tf._rat_pair__text.f F (y41.1.1, y41.1.2)) (fun y53 => (bif (!(seqB y53 a)) then (some ((ByteArray.empty, ByteArray.empty), Bool.false))
 else (some ((y41.1.1, y41.1.2), Bool.true))))))))))
 else (Option.bind (Tf.rat_lowest.f F (y7.1, y7.2.1)) (fun y35 => (bif (!y35.2) then (some ((ByteArray.empty, ByteArray.empty), Bool.false))
 else (Option.bind (Tf._rat_pair__text.f F (y35.1.1, y35.1.2)) (fun y47 => (bif (!(seqB y47 a)) then (some ((ByteArray.empty, ByteArray.empty), Bool.false))
 else (some ((y35.1.1, y35.1.2), Bool.true))))))))))))))))))
theorem Tf.rat_read.f_ok (F : Nat) (a) : exec tyT (look [(64, Tf.strings_Cut.e F), (116, Tf.whole_Right.e F), (117, Tf.nat_Right.e F), (118, Tf.rat_lowest.e F), (119, Tf._rat_pair__text.e F)] : Fns) 63 (look [] : Loops) Tf.rat_read.c (init [.p] (encKs [.str] a)) (finC tyT (look [(64, Tf.strings_Cut.e F), (116, Tf.whole_Right.e F), (117, Tf.nat_Right.e F), (118, Tf.rat_lowest.e F), (119, Tf._rat_pair__text.e F)] : Fns) 63 2 121 (⟨[.p], [.p, .v 99]⟩ : Sig) [2, 3] [.pure, .pure] [.st [.str, .str], .err]) = Tf.rat_read.f F a := by kernel_rfl
def Tf.rat_read.e (F : Nat) : Fn := mkFn (⟨[.p], [.p, .v 99]⟩ : Sig) [.str] [.pure, .pure] [.st [.str, .str], .err] (Tf.rat_read.f F)
theorem Tf.rat_read.ok (F : Nat) : EntryOk Proofs.Tryz.prog tyT.G 96 (Tf.rat_read.e F) :=
  fn_okC tyT_ok rfl mix (.cons (Tf.strings_Cut.ok F) (.cons (Tf.whole_Right.ok F) (.cons (Tf.nat_Right.ok F) (.cons (Tf.rat_lowest.ok F) (.cons (Tf._rat_pair__text.ok F) .nil))))) (Λ := (look [] : Loops)) (fn := Proofs.Tryz.f96) (c := Tf.rat_read.c) (LoopsOk.of (bs := []) (by kernel_rfl) .nil) (by kernel_rfl) (by kernel_rfl) (by kernel_rfl) (by kernel_rfl) (resC1 (by kernel_rfl) (by kernel_rfl)) (by decide) (Tf.rat_read.f_ok F)
noncomputable def Tf.rat_Right.c : Code := (Proofs.Tryz.f76.body).getD .skip
def Tf.rat_Right.f (F : Nat) (a : ByteArray) : Option Bool :=
 (Option.bind (Tf.rat_read.f F a) (fun y6 => (some y6.2)))
theorem Tf.rat_Right.f_ok (F : Nat) (a) : exec tyT (look [(96, Tf.rat_read.e F)] : Fns) 12 (look [] : Loops) Tf.rat_Right.c (init [.p] (encKs [.str] a)) (finT (look [(96, Tf.rat_read.e F)] : Fns) (⟨[.p], [.p]⟩ : Sig) [2] [.pure] [.bool]) = Tf.rat_Right.f F a := by kernel_rfl
def Tf.rat_Right.e (F : Nat) : Fn := mkFn (⟨[.p], [.p]⟩ : Sig) [.str] [.pure] [.bool] (Tf.rat_Right.f F)
theorem Tf.rat_Right.ok (F : Nat) : EntryOk Proofs.Tryz.prog tyT.G 76 (Tf.rat_Right.e F) :=
  fn_ok tyT_ok rfl mix (.cons (Tf.rat_read.ok F) .nil) (Λ := (look [] : Loops)) (fn := Proofs.Tryz.f76) (c := Tf.rat_Right.c) (LoopsOk.of (bs := []) (by kernel_rfl) .nil) (by kernel_rfl) (by kernel_rfl) (by kernel_rfl) (by kernel_rfl) (res1 (by kernel_rfl)) (by decide) (Tf.rat_Right.f_ok F)
noncomputable def Tf.read_made.c : Code := (Proofs.Tryz.f57.body).getD .skip
def Tf.read_made.f (F : Nat) (a : (List ByteArray)) : Option (Stmt × Bool) :=
 (bif (inR (0 : Int) (List.length a)) then (bif (inR (2 : Int) (List.length a)) then (bif (inR (3 : Int) (List.length a)) then (bif (Bool.true && (decide ((4 : Int) ≤ ((List.length a) : Int)))) then (bif (inR (0 : Int) (List.length a)) then (bif (inR (3 : Int) (List.length a)) then (Option.bind (Tf.read_names.f F (List.set (List.set (List.replicate 2 ByteArray.empty) 0 (List.getD a 0 (dflt 4))) 1 (List.getD a 3 (dflt 4)))) (fun y29 => (bif (seqB (List.getD a 2 (dflt 4)) (⟨#[97, 100, 100]⟩ : ByteArray)) then (bif (Nat.ble (1 + (List.length (List.drop 4 (List.take (List.length a) a)))) 1099511627776) then (bif y29 then (bif (((List.length (List.drop 4 (List.take (List.length a) a))) : Int) == (1 : Int)) then (Option.bind (Tf.read_names.f F (List.drop 4 (List.take (List.length a) a))) (fun y51 => (some ((Stmt.mk (List.getD a 0 (dflt 4)) (List.getD a 2 (dflt 4)) ((List.set (List.replicate 1 ByteArray.empty) 0 (List.getD a 3 (dflt 4))) ++ (List.drop 4 (List.take (List.length a) a))) ([] : List Int) ByteArray.empty (0 : Int) ([] : List ByteArray)), y51))))
 else (some ((Stmt.mk (List.getD a 0 (dflt 4)) (List.getD a 2 (dflt 4)) ((List.set (List.replicate 1 ByteArray.empty) 0 (List.getD a 3 (dflt 4))) ++ (List.drop 4 (List.take (List.length a) a))) ([] : List Int) ByteArray.empty (0 : Int) ([] : List ByteArray)), Bool.false)))
 else (some ((Stmt.mk (List.getD a 0 (dflt 4)) (List.getD a 2 (dflt 4)) ((List.set (List.replicate 1 ByteArray.empty) 0 (List.getD a 3 (dflt 4))) ++ (List.drop 4 (List.take (List.length a) a))) ([] : List Int) ByteArray.empty (0 : Int) ([] : List ByteArray)), Bool.false)))
 else none)
 else (bif (seqB (List.getD a 2 (dflt 4)) (⟨#[115, 117, 98]⟩ : ByteArray)) then (bif (Nat.ble (1 + (List.length (List.drop 4 (List.take (List.length a) a)))) 1099511627776) then (bif y29 then (bif (((List.length (List.drop 4 (List.take (List.length a) a))) : Int) == (1 : Int)) then (Option.bind (Tf.read_names.f F (List.drop 4 (List.take (List.length a) a))) (fun y53 => (some ((Stmt.mk (List.getD a 0 (dflt 4)) (List.getD a 2 (dflt 4)) ((List.set (List.replicate 1 ByteArray.empty) 0 (List.getD a 3 (dflt 4))) ++ (List.drop 4 (List.take (List.length a) a))) ([] : List Int) ByteArray.empty (0 : Int) ([] : List ByteArray)), y53))))
 else (some ((Stmt.mk (List.getD a 0 (dflt 4)) (List.getD a 2 (dflt 4)) ((List.set (List.replicate 1 ByteArray.empty) 0 (List.getD a 3 (dflt 4))) ++ (List.drop 4 (List.take (List.length a) a))) ([] : List Int) ByteArray.empty (0 : Int) ([] : List ByteArray)), Bool.false)))
 else (some ((Stmt.mk (List.getD a 0 (dflt 4)) (List.getD a 2 (dflt 4)) ((List.set (List.replicate 1 ByteArray.empty) 0 (List.getD a 3 (dflt 4))) ++ (List.drop 4 (List.take (List.length a) a))) ([] : List Int) ByteArray.empty (0 : Int) ([] : List ByteArray)), Bool.false)))
 else none)
 else (bif (seqB (List.getD a 2 (dflt 4)) (⟨#[109, 117, 108]⟩ : ByteArray)) then (bif (Nat.ble (1 + (List.length (List.drop 4 (List.take (List.length a) a)))) 1099511627776) then (bif y29 then (bif (((List.length (List.drop 4 (List.take (List.length a) a))) : Int) == (1 : Int)) then (Option.bind (Tf.read_names.f F (List.drop 4 (List.take (List.length a) a))) (fun y55 => (some ((Stmt.mk (List.getD a 0 (dflt 4)) (List.getD a 2 (dflt 4)) ((List.set (List.replicate 1 ByteArray.empty) 0 (List.getD a 3 (dflt 4))) ++ (List.drop 4 (List.take (List.length a) a))) ([] : List Int) ByteArray.empty (0 : Int) ([] : List ByteArray)), y55))))
 else (some ((Stmt.mk (List.getD a 0 (dflt 4)) (List.getD a 2 (dflt 4)) ((List.set (List.replicate 1 ByteArray.empty) 0 (List.getD a 3 (dflt 4))) ++ (List.drop 4 (List.take (List.length a) a))) ([] : List Int) ByteArray.empty (0 : Int) ([] : List ByteArray)), Bool.false)))
 else (some ((Stmt.mk (List.getD a 0 (dflt 4)) (List.getD a 2 (dflt 4)) ((List.set (List.replicate 1 ByteArray.empty) 0 (List.getD a 3 (dflt 4))) ++ (List.drop 4 (List.take (List.length a) a))) ([] : List Int) ByteArray.empty (0 : Int) ([] : List ByteArray)), Bool.false)))
 else none)
 else (bif (seqB (List.getD a 2 (dflt 4)) (⟨#[109, 97, 120]⟩ : ByteArray)) then (bif (Nat.ble (1 + (List.length (List.drop 4 (List.take (List.length a) a)))) 1099511627776) then (bif y29 then (bif (((List.length (List.drop 4 (List.take (List.length a) a))) : Int) == (1 : Int)) then (Option.bind (Tf.read_names.f F (List.drop 4 (List.take (List.length a) a))) (fun y57 => (some ((Stmt.mk (List.getD a 0 (dflt 4)) (List.getD a 2 (dflt 4)) ((List.set (List.replicate 1 ByteArray.empty) 0 (List.getD a 3 (dflt 4))) ++ (List.drop 4 (List.take (List.length a) a))) ([] : List Int) ByteArray.empty (0 : Int) ([] : List ByteArray)), y57))))
 else (some ((Stmt.mk (List.getD a 0 (dflt 4)) (List.getD a 2 (dflt 4)) ((List.set (List.replicate 1 ByteArray.empty) 0 (List.getD a 3 (dflt 4))) ++ (List.drop 4 (List.take (List.length a) a))) ([] : List Int) ByteArray.empty (0 : Int) ([] : List ByteArray)), Bool.false)))
 else (some ((Stmt.mk (List.getD a 0 (dflt 4)) (List.getD a 2 (dflt 4)) ((List.set (List.replicate 1 ByteArray.empty) 0 (List.getD a 3 (dflt 4))) ++ (List.drop 4 (List.take (List.length a) a))) ([] : List Int) ByteArray.empty (0 : Int) ([] : List ByteArray)), Bool.false)))
 else none)
 else (bif (seqB (List.getD a 2 (dflt 4)) (⟨#[97, 98, 111, 118, 101]⟩ : ByteArray)) then (bif (Nat.ble (1 + (List.length (List.drop 4 (List.take (List.length a) a)))) 1099511627776) then (bif y29 then (bif (((List.length (List.drop 4 (List.take (List.length a) a))) : Int) == (1 : Int)) then (Option.bind (Tf.read_names.f F (List.drop 4 (List.take (List.length a) a))) (fun y59 => (some ((Stmt.mk (List.getD a 0 (dflt 4)) (List.getD a 2 (dflt 4)) ((List.set (List.replicate 1 ByteArray.empty) 0 (List.getD a 3 (dflt 4))) ++ (List.drop 4 (List.take (List.length a) a))) ([] : List Int) ByteArray.empty (0 : Int) ([] : List ByteArray)), y59))))
 else (some ((Stmt.mk (List.getD a 0 (dflt 4)) (List.getD a 2 (dflt 4)) ((List.set (List.replicate 1 ByteArray.empty) 0 (List.getD a 3 (dflt 4))) ++ (List.drop 4 (List.take (List.length a) a))) ([] : List Int) ByteArray.empty (0 : Int) ([] : List ByteArray)), Bool.false)))
 else (some ((Stmt.mk (List.getD a 0 (dflt 4)) (List.getD a 2 (dflt 4)) ((List.set (List.replicate 1 ByteArray.empty) 0 (List.getD a 3 (dflt 4))) ++ (List.drop 4 (List.take (List.length a) a))) ([] : List Int) ByteArray.empty (0 : Int) ([] : List ByteArray)), Bool.false)))
 else none)
 else (bif (seqB (List.getD a 2 (dflt 4)) (⟨#[109, 97, 116, 109, 117, 108]⟩ : ByteArray)) then (bif (Nat.ble (1 + (List.length (List.drop 4 (List.take (List.length a) a)))) 1099511627776) then (bif y29 then (bif (((List.length (List.drop 4 (List.take (List.length a) a))) : Int) == (1 : Int)) then (Option.bind (Tf.read_names.f F (List.drop 4 (List.take (List.length a) a))) (fun y61 => (some ((Stmt.mk (List.getD a 0 (dflt 4)) (List.getD a 2 (dflt 4)) ((List.set (List.replicate 1 ByteArray.empty) 0 (List.getD a 3 (dflt 4))) ++ (List.drop 4 (List.take (List.length a) a))) ([] : List Int) ByteArray.empty (0 : Int) ([] : List ByteArray)), y61))))
 else (some ((Stmt.mk (List.getD a 0 (dflt 4)) (List.getD a 2 (dflt 4)) ((List.set (List.replicate 1 ByteArray.empty) 0 (List.getD a 3 (dflt 4))) ++ (List.drop 4 (List.take (List.length a) a))) ([] : List Int) ByteArray.empty (0 : Int) ([] : List ByteArray)), Bool.false)))
 else (some ((Stmt.mk (List.getD a 0 (dflt 4)) (List.getD a 2 (dflt 4)) ((List.set (List.replicate 1 ByteArray.empty) 0 (List.getD a 3 (dflt 4))) ++ (List.drop 4 (List.take (List.length a) a))) ([] : List Int) ByteArray.empty (0 : Int) ([] : List ByteArray)), Bool.false)))
 else none)
 else (bif (seqB (List.getD a 2 (dflt 4)) (⟨#[114, 101, 108, 117]⟩ : ByteArray)) then (bif y29 then (some ((Stmt.mk (List.getD a 0 (dflt 4)) (List.getD a 2 (dflt 4)) (List.set (List.replicate 1 ByteArray.empty) 0 (List.getD a 3 (dflt 4))) ([] : List Int) ByteArray.empty (0 : Int) ([] : List ByteArray)), (((List.length (List.drop 4 (List.take (List.length a) a))) : Int) == (0 : Int))))
 else (some ((Stmt.mk (List.getD a 0 (dflt 4)) (List.getD a 2 (dflt 4)) (List.set (List.replicate 1 ByteArray.empty) 0 (List.getD a 3 (dflt 4))) ([] : List Int) ByteArray.empty (0 : Int) ([] : List ByteArray)), Bool.false)))
 else (bif (seqB (List.getD a 2 (dflt 4)) (⟨#[97, 98, 115]⟩ : ByteArray)) then (bif y29 then (some ((Stmt.mk (List.getD a 0 (dflt 4)) (List.getD a 2 (dflt 4)) (List.set (List.replicate 1 ByteArray.empty) 0 (List.getD a 3 (dflt 4))) ([] : List Int) ByteArray.empty (0 : Int) ([] : List ByteArray)), (((List.length (List.drop 4 (List.take (List.length a) a))) : Int) == (0 : Int))))
 else (some ((Stmt.mk (List.getD a 0 (dflt 4)) (List.getD a 2 (dflt 4)) (List.set (List.replicate 1 ByteArray.empty) 0 (List.getD a 3 (dflt 4))) ([] : List Int) ByteArray.empty (0 : Int) ([] : List ByteArray)), Bool.false)))
 else (bif (seqB (List.getD a 2 (dflt 4)) (⟨#[115, 116, 101, 112]⟩ : ByteArray)) then (bif y29 then (some ((Stmt.mk (List.getD a 0 (dflt 4)) (List.getD a 2 (dflt 4)) (List.set (List.replicate 1 ByteArray.empty) 0 (List.getD a 3 (dflt 4))) ([] : List Int) ByteArray.empty (0 : Int) ([] : List ByteArray)), (((List.length (List.drop 4 (List.take (List.length a) a))) : Int) == (0 : Int))))
 else (some ((Stmt.mk (List.getD a 0 (dflt 4)) (List.getD a 2 (dflt 4)) (List.set (List.replicate 1 ByteArray.empty) 0 (List.getD a 3 (dflt 4))) ([] : List Int) ByteArray.empty (0 : Int) ([] : List ByteArray)), Bool.false)))
 else (bif (seqB (List.getD a 2 (dflt 4)) (⟨#[115, 105, 103, 110]⟩ : ByteArray)) then (bif y29 then (some ((Stmt.mk (List.getD a 0 (dflt 4)) (List.getD a 2 (dflt 4)) (List.set (List.replicate 1 ByteArray.empty) 0 (List.getD a 3 (dflt 4))) ([] : List Int) ByteArray.empty (0 : Int) ([] : List ByteArray)), (((List.length (List.drop 4 (List.take (List.length a) a))) : Int) == (0 : Int))))
 else (some ((Stmt.mk (List.getD a 0 (dflt 4)) (List.getD a 2 (dflt 4)) (List.set (List.replicate 1 ByteArray.empty) 0 (List.getD a 3 (dflt 4))) ([] : List Int) ByteArray.empty (0 : Int) ([] : List ByteArray)), Bool.false)))
 else (bif (seqB (List.getD a 2 (dflt 4)) (⟨#[116, 114, 97, 110, 115, 112, 111, 115, 101]⟩ : ByteArray)) then (bif y29 then (some ((Stmt.mk (List.getD a 0 (dflt 4)) (List.getD a 2 (dflt 4)) (List.set (List.replicate 1 ByteArray.empty) 0 (List.getD a 3 (dflt 4))) ([] : List Int) ByteArray.empty (0 : Int) ([] : List ByteArray)), (((List.length (List.drop 4 (List.take (List.length a) a))) : Int) == (0 : Int))))
 else (some ((Stmt.mk (List.getD a 0 (dflt 4)) (List.getD a 2 (dflt 4)) (List.set (List.replicate 1 ByteArray.empty) 0 (List.getD a 3 (dflt 4))) ([] : List Int) ByteArray.empty (0 : Int) ([] : List ByteArray)), Bool.false)))
 else (bif (seqB (List.getD a 2 (dflt 4)) (⟨#[115, 117, 109]⟩ : ByteArray)) then (bif y29 then (some ((Stmt.mk (List.getD a 0 (dflt 4)) (List.getD a 2 (dflt 4)) (List.set (List.replicate 1 ByteArray.empty) 0 (List.getD a 3 (dflt 4))) ([] : List Int) ByteArray.empty (0 : Int) ([] : List ByteArray)), (((List.length (List.drop 4 (List.take (List.length a) a))) : Int) == (0 : Int))))
 else (some ((Stmt.mk (List.getD a 0 (dflt 4)) (List.getD a 2 (dflt 4)) (List.set (List.replicate 1 ByteArray.empty) 0 (List.getD a 3 (dflt 4))) ([] : List Int) ByteArray.empty (0 : Int) ([] : List ByteArray)), Bool.false)))
 else (bif (seqB (List.getD a 2 (dflt 4)) (⟨#[115, 99, 97, 108, 101]⟩ : ByteArray)) then (bif (((List.length (List.drop 4 (List.take (List.length a) a))) : Int) != (1 : Int)) then (some ((Stmt.mk (List.getD a 0 (dflt 4)) (List.getD a 2 (dflt 4)) (List.set (List.replicate 1 ByteArray.empty) 0 (List.getD a 3 (dflt 4))) ([] : List Int) ByteArray.empty (0 : Int) ([] : List ByteArray)), Bool.false))
 else (bif (inR (0 : Int) (List.length (List.drop 4 (List.take (List.length a) a)))) then (Option.bind (Tf.rat_Right.f F (List.getD (List.drop 4 (List.take (List.length a) a)) 0 (dflt 4))) (fun y67 => (bif (!y67) then (some ((Stmt.mk (List.getD a 0 (dflt 4)) (List.getD a 2 (dflt 4)) (List.set (List.replicate 1 ByteArray.empty) 0 (List.getD a 3 (dflt 4))) ([] : List Int) ByteArray.empty (0 : Int) ([] : List ByteArray)), Bool.false))
 else (bif (inR (0 : Int) (List.length (List.drop 4 (List.take (List.length a) a)))) then (some ((Stmt.mk (List.getD a 0 (dflt 4)) (List.getD a 2 (dflt 4)) (List.set (List.replicate 1 ByteArray.empty) 0 (List.getD a 3 (dflt 4))) ([] : List Int) (List.getD (List.drop 4 (List.take (List.length a) a)) 0 (dflt 4)) (0 : Int) ([] : List ByteArray)), y29))
 else none))))
 else none))
 else (bif (seqB (List.getD a 2 (dflt 4)) (⟨#[112, 111, 119, 101, 114]⟩ : ByteArray)) then (bif (((List.length (List.drop 4 (List.take (List.length a) a))) : Int) != (1 : Int)) then (some ((Stmt.mk (List.getD a 0 (dflt 4)) (List.getD a 2 (dflt 4)) (List.set (List.replicate 1 ByteArray.empty) 0 (List.getD a 3 (dflt 4))) ([] : List Int) ByteArray.empty (0 : Int) ([] : List ByteArray)), Bool.false))
 else (bif (inR (0 : Int) (List.length (List.drop 4 (List.take (List.length a) a)))) then (Option.bind (Tf.read_number.f F (List.getD (List.drop 4 (List.take (List.length a) a)) 0 (dflt 4))) (fun y68 => (bif y29 then (bif y68.2 then (some ((Stmt.mk (List.getD a 0 (dflt 4)) (List.getD a 2 (dflt 4)) (List.set (List.replicate 1 ByteArray.empty) 0 (List.getD a 3 (dflt 4))) ([] : List Int) ByteArray.empty y68.1 ([] : List ByteArray)), (decide (y68.1 ≤ (6 : Int)))))
 else (some ((Stmt.mk (List.getD a 0 (dflt 4)) (List.getD a 2 (dflt 4)) (List.set (List.replicate 1 ByteArray.empty) 0 (List.getD a 3 (dflt 4))) ([] : List Int) ByteArray.empty y68.1 ([] : List ByteArray)), Bool.false)))
 else (some ((Stmt.mk (List.getD a 0 (dflt 4)) (List.getD a 2 (dflt 4)) (List.set (List.replicate 1 ByteArray.empty) 0 (List.getD a 3 (dflt 4))) ([] : List Int) ByteArray.empty y68.1 ([] : List ByteArray)), Bool.false)))))
 else none))
 else (bif (seqB (List.getD a 2 (dflt 4)) (⟨#[114, 101, 115, 104, 97, 112, 101]⟩ : ByteArray)) then (Option.bind (Tf.read_dims.f F (List.drop 4 (List.take (List.length a) a))) (fun y65 => (bif y29 then (some ((Stmt.mk (List.getD a 0 (dflt 4)) (List.getD a 2 (dflt 4)) (List.set (List.replicate 1 ByteArray.empty) 0 (List.getD a 3 (dflt 4))) y65.1 ByteArray.empty (0 : Int) ([] : List ByteArray)), y65.2))
 else (some ((Stmt.mk (List.getD a 0 (dflt 4)) (List.getD a 2 (dflt 4)) (List.set (List.replicate 1 ByteArray.empty) 0 (List.getD a 3 (dflt 4))) y65.1 ByteArray.empty (0 : Int) ([] : List ByteArray)), Bool.false)))))
 else (bif (seqB (List.getD a 2 (dflt 4)) (⟨#[115, 112, 114, 101, 97, 100]⟩ : ByteArray)) then (Option.bind (Tf.read_dims.f F (List.drop 4 (List.take (List.length a) a))) (fun y67 => (bif y29 then (some ((Stmt.mk (List.getD a 0 (dflt 4)) (List.getD a 2 (dflt 4)) (List.set (List.replicate 1 ByteArray.empty) 0 (List.getD a 3 (dflt 4))) y67.1 ByteArray.empty (0 : Int) ([] : List ByteArray)), y67.2))
 else (some ((Stmt.mk (List.getD a 0 (dflt 4)) (List.getD a 2 (dflt 4)) (List.set (List.replicate 1 ByteArray.empty) 0 (List.getD a 3 (dflt 4))) y67.1 ByteArray.empty (0 : Int) ([] : List ByteArray)), Bool.false)))))
 else (some ((Stmt.mk (List.getD a 0 (dflt 4)) (List.getD a 2 (dflt 4)) (List.set (List.replicate 1 ByteArray.empty) 0 (List.getD a 3 (dflt 4))) ([] : List Int) ByteArray.empty (0 : Int) ([] : List ByteArray)), Bool.false))))))))))))))))))))
 else none)
 else none)
 else none)
 else none)
 else none)
 else none)
theorem Tf.read_made.f_ok (F : Nat) (a) : exec tyT (look [(58, Tf.read_dims.e F), (59, Tf.read_names.e F), (76, Tf.rat_Right.e F), (77, Tf.read_number.e F)] : Fns) 130 (look [] : Loops) Tf.read_made.c (init [.v 4] (encKs [.sl 4] a)) (finC tyT (look [(58, Tf.read_dims.e F), (59, Tf.read_names.e F), (76, Tf.rat_Right.e F), (77, Tf.read_number.e F)] : Fns) 130 2 26 (⟨[.v 4], [.v 211, .p]⟩ : Sig) [2, 3] [.pure, .pure] [.rc 11, .bool]) = Tf.read_made.f F a := by kernel_rfl
def Tf.read_made.e (F : Nat) : Fn := mkFn (⟨[.v 4], [.v 211, .p]⟩ : Sig) [.sl 4] [.pure, .pure] [.rc 11, .bool] (Tf.read_made.f F)
theorem Tf.read_made.ok (F : Nat) : EntryOk Proofs.Tryz.prog tyT.G 57 (Tf.read_made.e F) :=
  fn_okC tyT_ok rfl mix (.cons (Tf.read_dims.ok F) (.cons (Tf.read_names.ok F) (.cons (Tf.rat_Right.ok F) (.cons (Tf.read_number.ok F) .nil)))) (Λ := (look [] : Loops)) (fn := Proofs.Tryz.f57) (c := Tf.read_made.c) (LoopsOk.of (bs := []) (by kernel_rfl) .nil) (by kernel_rfl) (by kernel_rfl) (by kernel_rfl) (by kernel_rfl) (resC1 (by kernel_rfl) (by kernel_rfl)) (by decide) (Tf.read_made.f_ok F)
noncomputable def Tf.slices_Clone_strings.c : Code := (Proofs.Tryz.f72.body).getD .skip
def Tf.slices_Clone_strings.f (F : Nat) (a : List ByteArray) : Option (List ByteArray) := cloneT 4 a
def Tf.slices_Clone_strings.e (F : Nat) : Fn := mkFn (⟨[.v 4], [.p]⟩ : Sig) [.sl 4] [.pure] [.slz] (Tf.slices_Clone_strings.f F)
theorem Tf.slices_Clone_strings.ok (F : Nat) : EntryOk Proofs.Tryz.prog tyT.G 72 (Tf.slices_Clone_strings.e F) :=
  cloneZ_ok tyT_ok rfl mix (fn := Proofs.Tryz.f72) (T := 22) (T' := 22) (e := 9) (ei := ⟨1, [.str ByteArray.empty], 16, .str⟩) (r0 := codeAt [0] Tf.slices_Clone_strings.c) (A := codeAt [1, 0, 1, 0] Tf.slices_Clone_strings.c) (id := 1) (id2 := 3)
    (o1 := nthOp (codeAt [1, 0, 0] Tf.slices_Clone_strings.c) 0) (o2 := nthOp (codeAt [1, 0, 0] Tf.slices_Clone_strings.c) 1)
    (p1 := nthOp (codeAt [1, 1, 0] Tf.slices_Clone_strings.c) 0) (p2 := nthOp (codeAt [1, 1, 0] Tf.slices_Clone_strings.c) 1) (p3 := nthOp (codeAt [1, 1, 0] Tf.slices_Clone_strings.c) 2) (p4 := nthOp (codeAt [1, 1, 0] Tf.slices_Clone_strings.c) 3)
    (by kernel_rfl) (by kernel_rfl) (by kernel_rfl) (by kernel_rfl) (res1 (by kernel_rfl))
    (by kernel_rfl) (by kernel_rfl) (by kernel_rfl) (by kernel_rfl) (by kernel_rfl) (by kernel_rfl)
    (by kernel_rfl) (by kernel_rfl) (by kernel_rfl) (by kernel_rfl) (by kernel_rfl) (by kernel_rfl) (by kernel_rfl) (by kernel_rfl) (by kernel_rfl) (by kernel_rfl) (by kernel_rfl) (by kernel_rfl)
    (by kernel_rfl) (by kernel_rfl) (by kernel_rfl) (by kernel_rfl) (by kernel_rfl)
    (S0 := fun l => stAt tyT 8 (codeAt [0] Tf.slices_Clone_strings.c) [.v 4] [.sl 4 l]) (fun l => by kernel_rfl) (fun l => by kernel_rfl)
    (S1 := fun l => stTo tyT 8 (codeAt [1, 0, 1] Tf.slices_Clone_strings.c) (((stAt tyT 8 (codeAt [0] Tf.slices_Clone_strings.c) [.v 4] [.sl 4 l]).put (.slot 3 (.sl 4 l))).put (.slot 4 (.bool false)))) (fun l => by kernel_rfl) (fun l => by kernel_rfl)
    (S2 := stTo tyT 8 (codeAt [1, 0, 1] Tf.slices_Clone_strings.c) (((stAt tyT 8 (codeAt [0] Tf.slices_Clone_strings.c) [.v 4] [.sl 4 []]).put (.slot 3 (.sl 4 []))).put (.slot 4 (.bool true)))) (by kernel_rfl) (by kernel_rfl)
noncomputable def Tf.read_constant_1.c : Code := (Proofs.Tryz.f83.body).getD .skip
def Tf.read_constant_1.f (F : Nat) (a : ByteArray) : Option Bool :=
 (Option.bind (Tf.rat_Right.f F a) (fun y6 => (some (!y6))))
theorem Tf.read_constant_1.f_ok (F : Nat) (a) : exec tyT (look [(76, Tf.rat_Right.e F)] : Fns) 6 (look [] : Loops) Tf.read_constant_1.c (init [.p] (encKs [.str] a)) (finT (look [(76, Tf.rat_Right.e F)] : Fns) (⟨[.p], [.p]⟩ : Sig) [2] [.pure] [.bool]) = Tf.read_constant_1.f F a := by kernel_rfl
def Tf.read_constant_1.e (F : Nat) : Fn := mkFn (⟨[.p], [.p]⟩ : Sig) [.str] [.pure] [.bool] (Tf.read_constant_1.f F)
theorem Tf.read_constant_1.ok (F : Nat) : EntryOk Proofs.Tryz.prog tyT.G 83 (Tf.read_constant_1.e F) :=
  fn_ok tyT_ok rfl mix (.cons (Tf.rat_Right.ok F) .nil) (Λ := (look [] : Loops)) (fn := Proofs.Tryz.f83) (c := Tf.read_constant_1.c) (LoopsOk.of (bs := []) (by kernel_rfl) .nil) (by kernel_rfl) (by kernel_rfl) (by kernel_rfl) (by kernel_rfl) (res1 (by kernel_rfl)) (by decide) (Tf.read_constant_1.f_ok F)
noncomputable def Tf.slices_IndexFunc___string_string__read_constant_1.c : Code := (Proofs.Tryz.f97.body).getD .skip
noncomputable def Tf.slices_IndexFunc___string_string__read_constant_1.b2 : Code := codeAt [1, 0, 1, 0, 0] Tf.slices_IndexFunc___string_string__read_constant_1.c
def Tf.slices_IndexFunc___string_string__read_constant_1.s2 (F : Nat) (L : (Int × ((List ByteArray) × (Unit × Int))) → Option (Int ⊕ Unit)) (x : (Int × ((List ByteArray) × (Unit × Int)))) : Option (Int ⊕ Unit) :=
 (bif (decide (x.1 < x.2.2.2)) then (bif (inR x.1 (List.length x.2.1)) then (Option.bind (Tf.read_constant_1.f F (List.getD x.2.1 (Int.toNat x.1) (dflt 4))) (fun y17 => (bif y17 then (some (.inl x.1))
 else (L ((IntKind.wrap .i64 (x.1 + (1 : Int))), (x.2.1, ((), x.2.2.2)))))))
 else none)
 else (some (.inr ())))
def Tf.slices_IndexFunc___string_string__read_constant_1.l2 (F : Nat) : (Int × ((List ByteArray) × (Unit × Int))) → Option (Int ⊕ Unit) := iter (Tf.slices_IndexFunc___string_string__read_constant_1.s2 F) F
theorem Tf.slices_IndexFunc___string_string__read_constant_1.s2_ok (F : Nat) (L a) : exec tyT (look [(83, Tf.read_constant_1.e F)] : Fns) 19 (look [] : Loops) Tf.slices_IndexFunc___string_string__read_constant_1.b2 (rebuild [.slot 8, .view 0 4, .slot 1, .slot 7] (encKs [.int .i64, .sl 4, .fn0 83, .int .i64] a)) (bodyK [.slot 8, .view 0 4, .slot 1, .slot 7] [.int .i64, .sl 4, .fn0 83, .int .i64] [⟨.ret, [.slot 4], [.int .i64]⟩, ⟨.exit 0, [], []⟩] L) = Tf.slices_IndexFunc___string_string__read_constant_1.s2 F L a := by kernel_rfl
theorem Tf.slices_IndexFunc___string_string__read_constant_1.l2_ok (F : Nat) : LoopOk Proofs.Tryz.prog tyT.G 19 Tf.slices_IndexFunc___string_string__read_constant_1.b2 (fun st κ => hand [.slot 8, .view 0 4, .slot 1, .slot 7] [.int .i64, .sl 4, .fn0 83, .int .i64] [⟨.ret, [.slot 4], [.int .i64]⟩, ⟨.exit 0, [], []⟩] (Tf.slices_IndexFunc___string_string__read_constant_1.l2 F) st κ) :=
  loop_ok tyT_ok rfl mix (.cons (Tf.read_constant_1.ok F) .nil) (Λ := (look [] : Loops)) (LoopsOk.of (bs := []) (by kernel_rfl) .nil) (Tf.slices_IndexFunc___string_string__read_constant_1.s2_ok F) F
def Tf.slices_IndexFunc___string_string__read_constant_1.f (F : Nat) (a : ((List ByteArray) × Unit)) : Option Int :=
 (Option.bind (Tf.slices_IndexFunc___string_string__read_constant_1.l2 F ((0 : Int), (a.1, ((), ((List.length a.1) : Int))))) (fun y7 => (sumE y7 (fun y8 => (some y8)) (fun y8 => (some (-(1 : Int)))))))
theorem Tf.slices_IndexFunc___string_string__read_constant_1.f_ok (F : Nat) (a) : exec tyT (look [(83, Tf.read_constant_1.e F)] : Fns) 19 (look [(2, fun st κ => hand [.slot 8, .view 0 4, .slot 1, .slot 7] [.int .i64, .sl 4, .fn0 83, .int .i64] [⟨.ret, [.slot 4], [.int .i64]⟩, ⟨.exit 0, [], []⟩] (Tf.slices_IndexFunc___string_string__read_constant_1.l2 F) st κ)] : Loops) Tf.slices_IndexFunc___string_string__read_constant_1.c (init [.v 4, .p] (encKs [.sl 4, .fn0 83] a)) (finT (look [(83, Tf.read_constant_1.e F)] : Fns) (⟨[.v 4, .p], [.p]⟩ : Sig) [4] [.pure] [.int .i64]) = Tf.slices_IndexFunc___string_string__read_constant_1.f F a := by kernel_rfl
def Tf.slices_IndexFunc___string_string__read_constant_1.e (F : Nat) : Fn := mkFn (⟨[.v 4, .p], [.p]⟩ : Sig) [.sl 4, .fn0 83] [.pure] [.int .i64] (Tf.slices_IndexFunc___string_string__read_constant_1.f F)
theorem Tf.slices_IndexFunc___string_string__read_constant_1.ok (F : Nat) : EntryOk Proofs.Tryz.prog tyT.G 97 (Tf.slices_IndexFunc___string_string__read_constant_1.e F) :=
  fn_ok tyT_ok rfl mix (.cons (Tf.read_constant_1.ok F) .nil) (Λ := (look [(2, fun st κ => hand [.slot 8, .view 0 4, .slot 1, .slot 7] [.int .i64, .sl 4, .fn0 83, .int .i64] [⟨.ret, [.slot 4], [.int .i64]⟩, ⟨.exit 0, [], []⟩] (Tf.slices_IndexFunc___string_string__read_constant_1.l2 F) st κ)] : Loops)) (fn := Proofs.Tryz.f97) (c := Tf.slices_IndexFunc___string_string__read_constant_1.c) (LoopsOk.of (bs := [Tf.slices_IndexFunc___string_string__read_constant_1.b2]) (by kernel_rfl) (.cons rfl (Tf.slices_IndexFunc___string_string__read_constant_1.l2_ok F) .nil)) (by kernel_rfl) (by kernel_rfl) (by kernel_rfl) (by kernel_rfl) (res1 (by kernel_rfl)) (by decide) (Tf.slices_IndexFunc___string_string__read_constant_1.f_ok F)
noncomputable def Tf.slices_ContainsFunc___string_string__read_constant_1.c : Code := (Proofs.Tryz.f78.body).getD .skip
def Tf.slices_ContainsFunc___string_string__read_constant_1.f (F : Nat) (a : ((List ByteArray) × Unit)) : Option Bool :=
 (Option.bind (Tf.slices_IndexFunc___string_string__read_constant_1.f F (a.1, ())) (fun y7 => (some (decide (y7 ≥ (0 : Int))))))
theorem Tf.slices_ContainsFunc___string_string__read_constant_1.f_ok (F : Nat) (a) : exec tyT (look [(97, Tf.slices_IndexFunc___string_string__read_constant_1.e F), (83, Tf.read_constant_1.e F)] : Fns) 9 (look [] : Loops) Tf.slices_ContainsFunc___string_string__read_constant_1.c (init [.v 4, .p] (encKs [.sl 4, .fn0 83] a)) (finT (look [(97, Tf.slices_IndexFunc___string_string__read_constant_1.e F), (83, Tf.read_constant_1.e F)] : Fns) (⟨[.v 4, .p], [.p]⟩ : Sig) [4] [.pure] [.bool]) = Tf.slices_ContainsFunc___string_string__read_constant_1.f F a := by kernel_rfl
def Tf.slices_ContainsFunc___string_string__read_constant_1.e (F : Nat) : Fn := mkFn (⟨[.v 4, .p], [.p]⟩ : Sig) [.sl 4, .fn0 83] [.pure] [.bool] (Tf.slices_ContainsFunc___string_string__read_constant_1.f F)
theorem Tf.slices_ContainsFunc___string_string__read_constant_1.ok (F : Nat) : EntryOk Proofs.Tryz.prog tyT.G 78 (Tf.slices_ContainsFunc___string_string__read_constant_1.e F) :=
  fn_ok tyT_ok rfl mix (.cons (Tf.slices_IndexFunc___string_string__read_constant_1.ok F) (.cons (Tf.read_constant_1.ok F) .nil)) (Λ := (look [] : Loops)) (fn := Proofs.Tryz.f78) (c := Tf.slices_ContainsFunc___string_string__read_constant_1.c) (LoopsOk.of (bs := []) (by kernel_rfl) .nil) (by kernel_rfl) (by kernel_rfl) (by kernel_rfl) (by kernel_rfl) (res1 (by kernel_rfl)) (by decide) (Tf.slices_ContainsFunc___string_string__read_constant_1.f_ok F)
noncomputable def Tf.slices_Index___string_string_.c : Code := (Proofs.Tryz.f81.body).getD .skip
noncomputable def Tf.slices_Index___string_string_.b2 : Code := codeAt [1, 0, 1, 0, 0] Tf.slices_Index___string_string_.c
def Tf.slices_Index___string_string_.s2 (F : Nat) (L : (Int × ((List ByteArray) × (ByteArray × Int))) → Option (Int ⊕ Unit)) (x : (Int × ((List ByteArray) × (ByteArray × Int)))) : Option (Int ⊕ Unit) :=
 (bif (decide (x.1 < x.2.2.2)) then (bif (inR x.1 (List.length x.2.1)) then (bif (seqB x.2.2.1 (List.getD x.2.1 (Int.toNat x.1) (dflt 4))) then (some (.inl x.1))
 else (L ((IntKind.wrap .i64 (x.1 + (1 : Int))), (x.2.1, (x.2.2.1, x.2.2.2)))))
 else none)
 else (some (.inr ())))
def Tf.slices_Index___string_string_.l2 (F : Nat) : (Int × ((List ByteArray) × (ByteArray × Int))) → Option (Int ⊕ Unit) := iter (Tf.slices_Index___string_string_.s2 F) F
theorem Tf.slices_Index___string_string_.s2_ok (F : Nat) (L a) : exec tyT (look [] : Fns) 19 (look [] : Loops) Tf.slices_Index___string_string_.b2 (rebuild [.slot 8, .view 0 4, .slot 1, .slot 7] (encKs [.int .i64, .sl 4, .str, .int .i64] a)) (bodyK [.slot 8, .view 0 4, .slot 1, .slot 7] [.int .i64, .sl 4, .str, .int .i64] [⟨.ret, [.slot 4], [.int .i64]⟩, ⟨.exit 0, [], []⟩] L) = Tf.slices_Index___string_string_.s2 F L a := by kernel_rfl
theorem Tf.slices_Index___string_string_.l2_ok (F : Nat) : LoopOk Proofs.Tryz.prog tyT.G 19 Tf.slices_Index___string_string_.b2 (fun st κ => hand [.slot 8, .view 0 4, .slot 1, .slot 7] [.int .i64, .sl 4, .str, .int .i64] [⟨.ret, [.slot 4], [.int .i64]⟩, ⟨.exit 0, [], []⟩] (Tf.slices_Index___string_string_.l2 F) st κ) :=
  loop_ok tyT_ok rfl mix .nil (Λ := (look [] : Loops)) (LoopsOk.of (bs := []) (by kernel_rfl) .nil) (Tf.slices_Index___string_string_.s2_ok F) F
def Tf.slices_Index___string_string_.f (F : Nat) (a : ((List ByteArray) × ByteArray)) : Option Int :=
 (Option.bind (Tf.slices_Index___string_string_.l2 F ((0 : Int), (a.1, (a.2, ((List.length a.1) : Int))))) (fun y7 => (sumE y7 (fun y8 => (some y8)) (fun y8 => (some (-(1 : Int)))))))
theorem Tf.slices_Index___string_string_.f_ok (F : Nat) (a) : exec tyT (look [] : Fns) 19 (look [(2, fun st κ => hand [.slot 8, .view 0 4, .slot 1, .slot 7] [.int .i64, .sl 4, .str, .int .i64] [⟨.ret, [.slot 4], [.int .i64]⟩, ⟨.exit 0, [], []⟩] (Tf.slices_Index___string_string_.l2 F) st κ)] : Loops) Tf.slices_Index___string_string_.c (init [.v 4, .p] (encKs [.sl 4, .str] a)) (finT (look [] : Fns) (⟨[.v 4, .p], [.p]⟩ : Sig) [4] [.pure] [.int .i64]) = Tf.slices_Index___string_string_.f F a := by kernel_rfl
def Tf.slices_Index___string_string_.e (F : Nat) : Fn := mkFn (⟨[.v 4, .p], [.p]⟩ : Sig) [.sl 4, .str] [.pure] [.int .i64] (Tf.slices_Index___string_string_.f F)
theorem Tf.slices_Index___string_string_.ok (F : Nat) : EntryOk Proofs.Tryz.prog tyT.G 81 (Tf.slices_Index___string_string_.e F) :=
  fn_ok tyT_ok rfl mix .nil (Λ := (look [(2, fun st κ => hand [.slot 8, .view 0 4, .slot 1, .slot 7] [.int .i64, .sl 4, .str, .int .i64] [⟨.ret, [.slot 4], [.int .i64]⟩, ⟨.exit 0, [], []⟩] (Tf.slices_Index___string_string_.l2 F) st κ)] : Loops)) (fn := Proofs.Tryz.f81) (c := Tf.slices_Index___string_string_.c) (LoopsOk.of (bs := [Tf.slices_Index___string_string_.b2]) (by kernel_rfl) (.cons rfl (Tf.slices_Index___string_string_.l2_ok F) .nil)) (by kernel_rfl) (by kernel_rfl) (by kernel_rfl) (by kernel_rfl) (res1 (by kernel_rfl)) (by decide) (Tf.slices_Index___string_string_.f_ok F)
noncomputable def Tf.shape_Size.c : Code := (Proofs.Tryz.f82.body).getD .skip
noncomputable def Tf.shape_Size.b5 : Code := codeAt [1, 1, 1, 0, 1, 0, 0] Tf.shape_Size.c
def Tf.shape_Size.s5 (F : Nat) (L : (Int × (Int × ((List Int) × Int))) → Option Int) (x : (Int × (Int × ((List Int) × Int)))) : Option Int :=
 (bif (decide (x.1 < x.2.2.2)) then (bif (inR x.1 (List.length x.2.2.1)) then (L ((IntKind.wrap .i64 (x.1 + (1 : Int))), ((IntKind.wrap .i64 (x.2.1 * (List.getD x.2.2.1 (Int.toNat x.1) (0 : Int)))), (x.2.2.1, x.2.2.2))))
 else none)
 else (some x.2.1))
def Tf.shape_Size.l5 (F : Nat) : (Int × (Int × ((List Int) × Int))) → Option Int := iter (Tf.shape_Size.s5 F) F
theorem Tf.shape_Size.s5_ok (F : Nat) (L a) : exec tyT (look [(20, Tf.shape_Right.e F)] : Fns) 20 (look [] : Loops) Tf.shape_Size.b5 (rebuild [.slot 11, .slot 3, .view 9 0, .slot 10] (encKs [.int .i64, .int .i64, .sl 0, .int .i64] a)) (bodyK [.slot 11, .slot 3, .view 9 0, .slot 10] [.int .i64, .int .i64, .sl 0, .int .i64] [⟨.exit 0, [.slot 3], [.int .i64]⟩] L) = Tf.shape_Size.s5 F L a := by kernel_rfl
theorem Tf.shape_Size.l5_ok (F : Nat) : LoopOk Proofs.Tryz.prog tyT.G 20 Tf.shape_Size.b5 (fun st κ => hand [.slot 11, .slot 3, .view 9 0, .slot 10] [.int .i64, .int .i64, .sl 0, .int .i64] [⟨.exit 0, [.slot 3], [.int .i64]⟩] (Tf.shape_Size.l5 F) st κ) :=
  loop_ok tyT_ok rfl mix (.cons (Tf.shape_Right.ok F) .nil) (Λ := (look [] : Loops)) (LoopsOk.of (bs := []) (by kernel_rfl) .nil) (Tf.shape_Size.s5_ok F) F
def Tf.shape_Size.f (F : Nat) (a : (List Int)) : Option Int :=
 (Option.bind (Tf.shape_Right.f F a) (fun y6 => (bif (!y6) then (some (0 : Int))
 else (Option.bind (Tf.shape_Size.l5 F ((0 : Int), ((1 : Int), (a, ((List.length a) : Int))))) (fun y12 => (some y12))))))
theorem Tf.shape_Size.f_ok (F : Nat) (a) : exec tyT (look [(20, Tf.shape_Right.e F)] : Fns) 20 (look [(5, fun st κ => hand [.slot 11, .slot 3, .view 9 0, .slot 10] [.int .i64, .int .i64, .sl 0, .int .i64] [⟨.exit 0, [.slot 3], [.int .i64]⟩] (Tf.shape_Size.l5 F) st κ)] : Loops) Tf.shape_Size.c (init [.v 0] (encKs [.sl 0] a)) (finT (look [(20, Tf.shape_Right.e F)] : Fns) (⟨[.v 0], [.p]⟩ : Sig) [2] [.pure] [.int .i64]) = Tf.shape_Size.f F a := by kernel_rfl
def Tf.shape_Size.e (F : Nat) : Fn := mkFn (⟨[.v 0], [.p]⟩ : Sig) [.sl 0] [.pure] [.int .i64] (Tf.shape_Size.f F)
theorem Tf.shape_Size.ok (F : Nat) : EntryOk Proofs.Tryz.prog tyT.G 82 (Tf.shape_Size.e F) :=
  fn_ok tyT_ok rfl mix (.cons (Tf.shape_Right.ok F) .nil) (Λ := (look [(5, fun st κ => hand [.slot 11, .slot 3, .view 9 0, .slot 10] [.int .i64, .int .i64, .sl 0, .int .i64] [⟨.exit 0, [.slot 3], [.int .i64]⟩] (Tf.shape_Size.l5 F) st κ)] : Loops)) (fn := Proofs.Tryz.f82) (c := Tf.shape_Size.c) (LoopsOk.of (bs := [Tf.shape_Size.b5]) (by kernel_rfl) (.cons rfl (Tf.shape_Size.l5_ok F) .nil)) (by kernel_rfl) (by kernel_rfl) (by kernel_rfl) (by kernel_rfl) (res1 (by kernel_rfl)) (by decide) (Tf.shape_Size.f_ok F)
noncomputable def Tf.read_constant.c : Code := (Proofs.Tryz.f60.body).getD .skip
def Tf.read_constant.f (F : Nat) (a : (List ByteArray)) : Option (Stmt × Bool) :=
 (Option.bind (Tf.slices_Index___string_string_.f F (a, (⟨#[61]⟩ : ByteArray))) (fun y7 => (bif (decide (y7 < (0 : Int))) then (some ((Stmt.mk ByteArray.empty ByteArray.empty ([] : List ByteArray) ([] : List Int) ByteArray.empty (0 : Int) ([] : List ByteArray)), Bool.false))
 else (bif ((decide ((0 : Int) ≤ (mxI y7 (2 : Int)))) && (decide ((mxI y7 (2 : Int)) ≤ ((List.length a) : Int)))) then (bif (Bool.true && (decide ((2 : Int) ≤ ((Int.toNat (mxI y7 (2 : Int))) : Int)))) then (Option.bind (Tf.read_dims.f F (List.drop 2 (List.take (Int.toNat (mxI y7 (2 : Int))) a))) (fun y16 => (bif ((decide ((0 : Int) ≤ (IntKind.wrap .i64 (y7 + (1 : Int))))) && (decide ((IntKind.wrap .i64 (y7 + (1 : Int))) ≤ ((List.length a) : Int)))) then (Option.bind (Tf.slices_Clone_strings.f F (List.drop (Int.toNat (IntKind.wrap .i64 (y7 + (1 : Int)))) (List.take (List.length a) a))) (fun y27 => (bif (!y16.2) then (some ((Stmt.mk ByteArray.empty ByteArray.empty ([] : List ByteArray) ([] : List Int) ByteArray.empty (0 : Int) ([] : List ByteArray)), Bool.false))
 else (bif (decide (y7 < (2 : Int))) then (some ((Stmt.mk ByteArray.empty ByteArray.empty ([] : List ByteArray) ([] : List Int) ByteArray.empty (0 : Int) ([] : List ByteArray)), Bool.false))
 else (Option.bind (Tf.shape_Size.f F y16.1) (fun y40 => (bif (((List.length y27) : Int) != y40) then (some ((Stmt.mk ByteArray.empty ByteArray.empty ([] : List ByteArray) ([] : List Int) ByteArray.empty (0 : Int) ([] : List ByteArray)), Bool.false))
 else (Option.bind (Tf.slices_ContainsFunc___string_string__read_constant_1.f F (y27, ())) (fun y46 => (bif y46 then (some ((Stmt.mk ByteArray.empty ByteArray.empty ([] : List ByteArray) ([] : List Int) ByteArray.empty (0 : Int) ([] : List ByteArray)), Bool.false))
 else (bif (inR (1 : Int) (List.length a)) then (bif (inR (1 : Int) (List.length a)) then (Option.bind (Tf.read_names.f F (List.set (List.replicate 1 ByteArray.empty) 0 (List.getD a 1 (dflt 4)))) (fun y59 => (some ((Stmt.mk (List.getD a 1 (dflt 4)) (⟨#[99, 111, 110, 115, 116]⟩ : ByteArray) ([] : List ByteArray) y16.1 ByteArray.empty (0 : Int) y27), y59))))
 else none)
 else none)))))))))))
 else none)))
 else none)
 else none))))
theorem Tf.read_constant.f_ok (F : Nat) (a) : exec tyT (look [(58, Tf.read_dims.e F), (59, Tf.read_names.e F), (72, Tf.slices_Clone_strings.e F), (78, Tf.slices_ContainsFunc___string_string__read_constant_1.e F), (81, Tf.slices_Index___string_string_.e F), (82, Tf.shape_Size.e F), (83, Tf.read_constant_1.e F)] : Fns) 55 (look [] : Loops) Tf.read_constant.c (init [.v 4] (encKs [.sl 4] a)) (finC tyT (look [(58, Tf.read_dims.e F), (59, Tf.read_names.e F), (72, Tf.slices_Clone_strings.e F), (78, Tf.slices_ContainsFunc___string_string__read_constant_1.e F), (81, Tf.slices_Index___string_string_.e F), (82, Tf.shape_Size.e F), (83, Tf.read_constant_1.e F)] : Fns) 55 2 26 (⟨[.v 4], [.v 211, .p]⟩ : Sig) [2, 3] [.pure, .pure] [.rc 11, .bool]) = Tf.read_constant.f F a := by kernel_rfl
def Tf.read_constant.e (F : Nat) : Fn := mkFn (⟨[.v 4], [.v 211, .p]⟩ : Sig) [.sl 4] [.pure, .pure] [.rc 11, .bool] (Tf.read_constant.f F)
theorem Tf.read_constant.ok (F : Nat) : EntryOk Proofs.Tryz.prog tyT.G 60 (Tf.read_constant.e F) :=
  fn_okC tyT_ok rfl mix (.cons (Tf.read_dims.ok F) (.cons (Tf.read_names.ok F) (.cons (Tf.slices_Clone_strings.ok F) (.cons (Tf.slices_ContainsFunc___string_string__read_constant_1.ok F) (.cons (Tf.slices_Index___string_string_.ok F) (.cons (Tf.shape_Size.ok F) (.cons (Tf.read_constant_1.ok F) .nil))))))) (Λ := (look [] : Loops)) (fn := Proofs.Tryz.f60) (c := Tf.read_constant.c) (LoopsOk.of (bs := []) (by kernel_rfl) .nil) (by kernel_rfl) (by kernel_rfl) (by kernel_rfl) (by kernel_rfl) (resC1 (by kernel_rfl) (by kernel_rfl)) (by decide) (Tf.read_constant.f_ok F)
noncomputable def Tf.read_statement.c : Code := (Proofs.Tryz.f32.body).getD .skip
def Tf.read_statement.f (F : Nat) (a : (List ByteArray)) : Option (Stmt × Bool) :=
 (bif (decide (((List.length a) : Int) ≥ (4 : Int))) then (bif (inR (1 : Int) (List.length a)) then (bif (seqB (List.getD a 1 (dflt 4)) (⟨#[61]⟩ : ByteArray)) then (Option.bind (Tf.read_made.f F a) (fun y17 => (some ((Stmt.mk y17.1.name y17.1.op y17.1.args y17.1.dims y17.1.k y17.1.n y17.1.data), y17.2))))
 else (bif (decide (((List.length a) : Int) ≥ (2 : Int))) then (bif (inR (0 : Int) (List.length a)) then (bif (seqB (List.getD a 0 (dflt 4)) (⟨#[112, 97, 114, 97, 109]⟩ : ByteArray)) then (bif (Bool.true && (decide ((2 : Int) ≤ ((List.length a) : Int)))) then (Option.bind (Tf.read_dims.f F (List.drop 2 (List.take (List.length a) a))) (fun y30 => (bif (inR (1 : Int) (List.length a)) then (bif (inR (0 : Int) (List.length a)) then (bif y30.2 then (bif (inR (1 : Int) (List.length a)) then (Option.bind (Tf.read_names.f F (List.set (List.replicate 1 ByteArray.empty) 0 (List.getD a 1 (dflt 4)))) (fun y51 => (some ((Stmt.mk (List.getD a 1 (dflt 4)) (List.getD a 0 (dflt 4)) ([] : List ByteArray) y30.1 ByteArray.empty (0 : Int) ([] : List ByteArray)), y51))))
 else none)
 else (some ((Stmt.mk (List.getD a 1 (dflt 4)) (List.getD a 0 (dflt 4)) ([] : List ByteArray) y30.1 ByteArray.empty (0 : Int) ([] : List ByteArray)), Bool.false)))
 else none)
 else none)))
 else none)
 else (bif (inR (0 : Int) (List.length a)) then (bif (seqB (List.getD a 0 (dflt 4)) (⟨#[105, 110, 112, 117, 116]⟩ : ByteArray)) then (bif (Bool.true && (decide ((2 : Int) ≤ ((List.length a) : Int)))) then (Option.bind (Tf.read_dims.f F (List.drop 2 (List.take (List.length a) a))) (fun y34 => (bif (inR (1 : Int) (List.length a)) then (bif (inR (0 : Int) (List.length a)) then (bif y34.2 then (bif (inR (1 : Int) (List.length a)) then (Option.bind (Tf.read_names.f F (List.set (List.replicate 1 ByteArray.empty) 0 (List.getD a 1 (dflt 4)))) (fun y55 => (some ((Stmt.mk (List.getD a 1 (dflt 4)) (List.getD a 0 (dflt 4)) ([] : List ByteArray) y34.1 ByteArray.empty (0 : Int) ([] : List ByteArray)), y55))))
 else none)
 else (some ((Stmt.mk (List.getD a 1 (dflt 4)) (List.getD a 0 (dflt 4)) ([] : List ByteArray) y34.1 ByteArray.empty (0 : Int) ([] : List ByteArray)), Bool.false)))
 else none)
 else none)))
 else none)
 else (bif (decide (((List.length a) : Int) ≥ (2 : Int))) then (bif (inR (0 : Int) (List.length a)) then (bif (seqB (List.getD a 0 (dflt 4)) (⟨#[99, 111, 110, 115, 116]⟩ : ByteArray)) then (Option.bind (Tf.read_constant.f F a) (fun y43 => (some ((Stmt.mk y43.1.name y43.1.op y43.1.args y43.1.dims y43.1.k y43.1.n y43.1.data), y43.2))))
 else (bif (((List.length a) : Int) == (2 : Int)) then (bif (inR (0 : Int) (List.length a)) then (bif (seqB (List.getD a 0 (dflt 4)) (⟨#[108, 111, 115, 115]⟩ : ByteArray)) then (bif (inR (1 : Int) (List.length a)) then (bif (inR (1 : Int) (List.length a)) then (Option.bind (Tf.read_names.f F (List.set (List.replicate 1 ByteArray.empty) 0 (List.getD a 1 (dflt 4)))) (fun y61 => (some ((Stmt.mk ByteArray.empty (⟨#[108, 111, 115, 115]⟩ : ByteArray) (List.set (List.replicate 1 ByteArray.empty) 0 (List.getD a 1 (dflt 4))) ([] : List Int) ByteArray.empty (0 : Int) ([] : List ByteArray)), y61))))
 else none)
 else none)
 else (some ((Stmt.mk ByteArray.empty ByteArray.empty ([] : List ByteArray) ([] : List Int) ByteArray.empty (0 : Int) ([] : List ByteArray)), Bool.false)))
 else none)
 else (some ((Stmt.mk ByteArray.empty ByteArray.empty ([] : List ByteArray) ([] : List Int) ByteArray.empty (0 : Int) ([] : List ByteArray)), Bool.false))))
 else none)
 else (bif (((List.length a) : Int) == (2 : Int)) then (bif (inR (0 : Int) (List.length a)) then (bif (seqB (List.getD a 0 (dflt 4)) (⟨#[108, 111, 115, 115]⟩ : ByteArray)) then (bif (inR (1 : Int) (List.length a)) then (bif (inR (1 : Int) (List.length a)) then (Option.bind (Tf.read_names.f F (List.set (List.replicate 1 ByteArray.empty) 0 (List.getD a 1 (dflt 4)))) (fun y57 => (some ((Stmt.mk ByteArray.empty (⟨#[108, 111, 115, 115]⟩ : ByteArray) (List.set (List.replicate 1 ByteArray.empty) 0 (List.getD a 1 (dflt 4))) ([] : List Int) ByteArray.empty (0 : Int) ([] : List ByteArray)), y57))))
 else none)
 else none)
 else (some ((Stmt.mk ByteArray.empty ByteArray.empty ([] : List ByteArray) ([] : List Int) ByteArray.empty (0 : Int) ([] : List ByteArray)), Bool.false)))
 else none)
 else (some ((Stmt.mk ByteArray.empty ByteArray.empty ([] : List ByteArray) ([] : List Int) ByteArray.empty (0 : Int) ([] : List ByteArray)), Bool.false)))))
 else none))
 else none)
 else (bif (decide (((List.length a) : Int) ≥ (2 : Int))) then (bif (inR (0 : Int) (List.length a)) then (bif (seqB (List.getD a 0 (dflt 4)) (⟨#[99, 111, 110, 115, 116]⟩ : ByteArray)) then (Option.bind (Tf.read_constant.f F a) (fun y33 => (some ((Stmt.mk y33.1.name y33.1.op y33.1.args y33.1.dims y33.1.k y33.1.n y33.1.data), y33.2))))
 else (bif (((List.length a) : Int) == (2 : Int)) then (bif (inR (0 : Int) (List.length a)) then (bif (seqB (List.getD a 0 (dflt 4)) (⟨#[108, 111, 115, 115]⟩ : ByteArray)) then (bif (inR (1 : Int) (List.length a)) then (bif (inR (1 : Int) (List.length a)) then (Option.bind (Tf.read_names.f F (List.set (List.replicate 1 ByteArray.empty) 0 (List.getD a 1 (dflt 4)))) (fun y51 => (some ((Stmt.mk ByteArray.empty (⟨#[108, 111, 115, 115]⟩ : ByteArray) (List.set (List.replicate 1 ByteArray.empty) 0 (List.getD a 1 (dflt 4))) ([] : List Int) ByteArray.empty (0 : Int) ([] : List ByteArray)), y51))))
 else none)
 else none)
 else (some ((Stmt.mk ByteArray.empty ByteArray.empty ([] : List ByteArray) ([] : List Int) ByteArray.empty (0 : Int) ([] : List ByteArray)), Bool.false)))
 else none)
 else (some ((Stmt.mk ByteArray.empty ByteArray.empty ([] : List ByteArray) ([] : List Int) ByteArray.empty (0 : Int) ([] : List ByteArray)), Bool.false))))
 else none)
 else (bif (((List.length a) : Int) == (2 : Int)) then (bif (inR (0 : Int) (List.length a)) then (bif (seqB (List.getD a 0 (dflt 4)) (⟨#[108, 111, 115, 115]⟩ : ByteArray)) then (bif (inR (1 : Int) (List.length a)) then (bif (inR (1 : Int) (List.length a)) then (Option.bind (Tf.read_names.f F (List.set (List.replicate 1 ByteArray.empty) 0 (List.getD a 1 (dflt 4)))) (fun y47 => (some ((Stmt.mk ByteArray.empty (⟨#[108, 111, 115, 115]⟩ : ByteArray) (List.set (List.replicate 1 ByteArray.empty) 0 (List.getD a 1 (dflt 4))) ([] : List Int) ByteArray.empty (0 : Int) ([] : List ByteArray)), y47))))
 else none)
 else none)
 else (some ((Stmt.mk ByteArray.empty ByteArray.empty ([] : List ByteArray) ([] : List Int) ByteArray.empty (0 : Int) ([] : List ByteArray)), Bool.false)))
 else none)
 else (some ((Stmt.mk ByteArray.empty ByteArray.empty ([] : List ByteArray) ([] : List Int) ByteArray.empty (0 : Int) ([] : List ByteArray)), Bool.false))))))
 else none)
 else (bif (decide (((List.length a) : Int) ≥ (2 : Int))) then (bif (inR (0 : Int) (List.length a)) then (bif (seqB (List.getD a 0 (dflt 4)) (⟨#[112, 97, 114, 97, 109]⟩ : ByteArray)) then (bif (Bool.true && (decide ((2 : Int) ≤ ((List.length a) : Int)))) then (Option.bind (Tf.read_dims.f F (List.drop 2 (List.take (List.length a) a))) (fun y26 => (bif (inR (1 : Int) (List.length a)) then (bif (inR (0 : Int) (List.length a)) then (bif y26.2 then (bif (inR (1 : Int) (List.length a)) then (Option.bind (Tf.read_names.f F (List.set (List.replicate 1 ByteArray.empty) 0 (List.getD a 1 (dflt 4)))) (fun y47 => (some ((Stmt.mk (List.getD a 1 (dflt 4)) (List.getD a 0 (dflt 4)) ([] : List ByteArray) y26.1 ByteArray.empty (0 : Int) ([] : List ByteArray)), y47))))
 else none)
 else (some ((Stmt.mk (List.getD a 1 (dflt 4)) (List.getD a 0 (dflt 4)) ([] : List ByteArray) y26.1 ByteArray.empty (0 : Int) ([] : List ByteArray)), Bool.false)))
 else none)
 else none)))
 else none)
 else (bif (inR (0 : Int) (List.length a)) then (bif (seqB (List.getD a 0 (dflt 4)) (⟨#[105, 110, 112, 117, 116]⟩ : ByteArray)) then (bif (Bool.true && (decide ((2 : Int) ≤ ((List.length a) : Int)))) then (Option.bind (Tf.read_dims.f F (List.drop 2 (List.take (List.length a) a))) (fun y30 => (bif (inR (1 : Int) (List.length a)) then (bif (inR (0 : Int) (List.length a)) then (bif y30.2 then (bif (inR (1 : Int) (List.length a)) then (Option.bind (Tf.read_names.f F (List.set (List.replicate 1 ByteArray.empty) 0 (List.getD a 1 (dflt 4)))) (fun y51 => (some ((Stmt.mk (List.getD a 1 (dflt 4)) (List.getD a 0 (dflt 4)) ([] : List ByteArray) y30.1 ByteArray.empty (0 : Int) ([] : List ByteArray)), y51))))
 else none)
 else (some ((Stmt.mk (List.getD a 1 (dflt 4)) (List.getD a 0 (dflt 4)) ([] : List ByteArray) y30.1 ByteArray.empty (0 : Int) ([] : List ByteArray)), Bool.false)))
 else none)
 else none)))
 else none)
 else (bif (decide (((List.length a) : Int) ≥ (2 : Int))) then (bif (inR (0 : Int) (List.length a)) then (bif (seqB (List.getD a 0 (dflt 4)) (⟨#[99, 111, 110, 115, 116]⟩ : ByteArray)) then (Option.bind (Tf.read_constant.f F a) (fun y39 => (some ((Stmt.mk y39.1.name y39.1.op y39.1.args y39.1.dims y39.1.k y39.1.n y39.1.data), y39.2))))
 else (bif (((List.length a) : Int) == (2 : Int)) then (bif (inR (0 : Int) (List.length a)) then (bif (seqB (List.getD a 0 (dflt 4)) (⟨#[108, 111, 115, 115]⟩ : ByteArray)) then (bif (inR (1 : Int) (List.length a)) then (bif (inR (1 : Int) (List.length a)) then (Option.bind (Tf.read_names.f F (List.set (List.replicate 1 ByteArray.empty) 0 (List.getD a 1 (dflt 4)))) (fun y57 => (some ((Stmt.mk ByteArray.empty (⟨#[108, 111, 115, 115]⟩ : ByteArray) (List.set (List.replicate 1 ByteArray.empty) 0 (List.getD a 1 (dflt 4))) ([] : List Int) ByteArray.empty (0 : Int) ([] : List ByteArray)), y57))))
 else none)
 else none)
 else (some ((Stmt.mk ByteArray.empty ByteArray.empty ([] : List ByteArray) ([] : List Int) ByteArray.empty (0 : Int) ([] : List ByteArray)), Bool.false)))
 else none)
 else (some ((Stmt.mk ByteArray.empty ByteArray.empty ([] : List ByteArray) ([] : List Int) ByteArray.empty (0 : Int) ([] : List ByteArray)), Bool.false))))
 else none)
 else (bif (((List.length a) : Int) == (2 : Int)) then (bif (inR (0 : Int) (List.length a)) then (bif (seqB (List.getD a 0 (dflt 4)) (⟨#[108, 111, 115, 115]⟩ : ByteArray)) then (bif (inR (1 : Int) (List.length a)) then (bif (inR (1 : Int) (List.length a)) then (Option.bind (Tf.read_names.f F (List.set (List.replicate 1 ByteArray.empty) 0 (List.getD a 1 (dflt 4)))) (fun y53 => (some ((Stmt.mk ByteArray.empty (⟨#[108, 111, 115, 115]⟩ : ByteArray) (List.set (List.replicate 1 ByteArray.empty) 0 (List.getD a 1 (dflt 4))) ([] : List Int) ByteArray.empty (0 : Int) ([] : List ByteArray)), y53))))
 else none)
 else none)
 else (some ((Stmt.mk ByteArray.empty ByteArray.empty ([] : List ByteArray) ([] : List Int) ByteArray.empty (0 : Int) ([] : List ByteArray)), Bool.false)))
 else none)
 else (some ((Stmt.mk ByteArray.empty ByteArray.empty ([] : List ByteArray) ([] : List Int) ByteArray.empty (0 : Int) ([] : List ByteArray)), Bool.false)))))
 else none))
 else none)
 else (bif (decide (((List.length a) : Int) ≥ (2 : Int))) then (bif (inR (0 : Int) (List.length a)) then (bif (seqB (List.getD a 0 (dflt 4)) (⟨#[99, 111, 110, 115, 116]⟩ : ByteArray)) then (Option.bind (Tf.read_constant.f F a) (fun y29 => (some ((Stmt.mk y29.1.name y29.1.op y29.1.args y29.1.dims y29.1.k y29.1.n y29.1.data), y29.2))))
 else (bif (((List.length a) : Int) == (2 : Int)) then (bif (inR (0 : Int) (List.length a)) then (bif (seqB (List.getD a 0 (dflt 4)) (⟨#[108, 111, 115, 115]⟩ : ByteArray)) then (bif (inR (1 : Int) (List.length a)) then (bif (inR (1 : Int) (List.length a)) then (Option.bind (Tf.read_names.f F (List.set (List.replicate 1 ByteArray.empty) 0 (List.getD a 1 (dflt 4)))) (fun y47 => (some ((Stmt.mk ByteArray.empty (⟨#[108, 111, 115, 115]⟩ : ByteArray) (List.set (List.replicate 1 ByteArray.empty) 0 (List.getD a 1 (dflt 4))) ([] : List Int) ByteArray.empty (0 : Int) ([] : List ByteArray)), y47))))
 else none)
 else none)
 else (some ((Stmt.mk ByteArray.empty ByteArray.empty ([] : List ByteArray) ([] : List Int) ByteArray.empty (0 : Int) ([] : List ByteArray)), Bool.false)))
 else none)
 else (some ((Stmt.mk ByteArray.empty ByteArray.empty ([] : List ByteArray) ([] : List Int) ByteArray.empty (0 : Int) ([] : List ByteArray)), Bool.false))))
 else none)
 else (bif (((List.length a) : Int) == (2 : Int)) then (bif (inR (0 : Int) (List.length a)) then (bif (seqB (List.getD a 0 (dflt 4)) (⟨#[108, 111, 115, 115]⟩ : ByteArray)) then (bif (inR (1 : Int) (List.length a)) then (bif (inR (1 : Int) (List.length a)) then (Option.bind (Tf.read_names.f F (List.set (List.replicate 1 ByteArray.empty) 0 (List.getD a 1 (dflt 4)))) (fun y43 => (some ((Stmt.mk ByteArray.empty (⟨#[108, 111, 115, 115]⟩ : ByteArray) (List.set (List.replicate 1 ByteArray.empty) 0 (List.getD a 1 (dflt 4))) ([] : List Int) ByteArray.empty (0 : Int) ([] : List ByteArray)), y43))))
 else none)
 else none)
 else (some ((Stmt.mk ByteArray.empty ByteArray.empty ([] : List ByteArray) ([] : List Int) ByteArray.empty (0 : Int) ([] : List ByteArray)), Bool.false)))
 else none)
 else (some ((Stmt.mk ByteArray.empty ByteArray.empty ([] : List ByteArray) ([] : List Int) ByteArray.empty (0 : Int) ([] : List ByteArray)), Bool.false))))))
theorem Tf.read_statement.f_ok (F : Nat) (a) : exec tyT (look [(57, Tf.read_made.e F), (58, Tf.read_dims.e F), (59, Tf.read_names.e F), (60, Tf.read_constant.e F)] : Fns) 93 (look [] : Loops) Tf.read_statement.c (init [.v 4] (encKs [.sl 4] a)) (finC tyT (look [(57, Tf.read_made.e F), (58, Tf.read_dims.e F), (59, Tf.read_names.e F), (60, Tf.read_constant.e F)] : Fns) 93 2 26 (⟨[.v 4], [.v 211, .p]⟩ : Sig) [2, 3] [.pure, .pure] [.rc 11, .bool]) = Tf.read_statement.f F a := by kernel_rfl
def Tf.read_statement.e (F : Nat) : Fn := mkFn (⟨[.v 4], [.v 211, .p]⟩ : Sig) [.sl 4] [.pure, .pure] [.rc 11, .bool] (Tf.read_statement.f F)
theorem Tf.read_statement.ok (F : Nat) : EntryOk Proofs.Tryz.prog tyT.G 32 (Tf.read_statement.e F) :=
  fn_okC tyT_ok rfl mix (.cons (Tf.read_made.ok F) (.cons (Tf.read_dims.ok F) (.cons (Tf.read_names.ok F) (.cons (Tf.read_constant.ok F) .nil)))) (Λ := (look [] : Loops)) (fn := Proofs.Tryz.f32) (c := Tf.read_statement.c) (LoopsOk.of (bs := []) (by kernel_rfl) .nil) (by kernel_rfl) (by kernel_rfl) (by kernel_rfl) (by kernel_rfl) (resC1 (by kernel_rfl) (by kernel_rfl)) (by decide) (Tf.read_statement.f_ok F)
noncomputable def Tf.read_Parse.c : Code := (Proofs.Tryz.f15.body).getD .skip
def Tf.read_Parse.f (F : Nat) (a : Line) : Option (Stmt × Int) :=
 (Option.bind (Tf.read_statement.f F a.words) (fun y9 => (bif (!y9.2) then (some ((Stmt.mk ByteArray.empty ByteArray.empty ([] : List ByteArray) ([] : List Int) ByteArray.empty (0 : Int) ([] : List ByteArray)), (2 : Int)))
 else (some ((Stmt.mk y9.1.name y9.1.op y9.1.args y9.1.dims y9.1.k y9.1.n y9.1.data), (0 : Int))))))
theorem Tf.read_Parse.f_ok (F : Nat) (a) : exec tyT (look [(32, Tf.read_statement.e F)] : Fns) 16 (look [] : Loops) Tf.read_Parse.c (init [.v 208] (encKs [.rc 8] a)) (finC tyT (look [(32, Tf.read_statement.e F)] : Fns) 16 2 26 (⟨[.v 208], [.v 211, .p]⟩ : Sig) [2, 3] [.pure, .pure] [.rc 11, .int .i64]) = Tf.read_Parse.f F a := by kernel_rfl
def Tf.read_Parse.e (F : Nat) : Fn := mkFn (⟨[.v 208], [.v 211, .p]⟩ : Sig) [.rc 8] [.pure, .pure] [.rc 11, .int .i64] (Tf.read_Parse.f F)
theorem Tf.read_Parse.ok (F : Nat) : EntryOk Proofs.Tryz.prog tyT.G 15 (Tf.read_Parse.e F) :=
  fn_okC tyT_ok rfl mix (.cons (Tf.read_statement.ok F) .nil) (Λ := (look [] : Loops)) (fn := Proofs.Tryz.f15) (c := Tf.read_Parse.c) (LoopsOk.of (bs := []) (by kernel_rfl) .nil) (by kernel_rfl) (by kernel_rfl) (by kernel_rfl) (by kernel_rfl) (resC1 (by kernel_rfl) (by kernel_rfl)) (by decide) (Tf.read_Parse.f_ok F)
noncomputable def Tf.strings_Index.c : Code := (Proofs.Tryz.f106.body).getD .skip
def Tf.strings_Index.f (F : Nat) (a : (ByteArray × ByteArray)) : Option Int :=
 (Option.bind (Tf.internal_stringslite_Index.f F (a.1, a.2)) (fun y7 => (some y7)))
theorem Tf.strings_Index.f_ok (F : Nat) (a) : exec tyT (look [(107, Tf.internal_stringslite_Index.e F)] : Fns) 8 (look [] : Loops) Tf.strings_Index.c (init [.p, .p] (encKs [.str, .str] a)) (finT (look [(107, Tf.internal_stringslite_Index.e F)] : Fns) (⟨[.p, .p], [.p]⟩ : Sig) [4] [.pure] [.int .i64]) = Tf.strings_Index.f F a := by kernel_rfl
def Tf.strings_Index.e (F : Nat) : Fn := mkFn (⟨[.p, .p], [.p]⟩ : Sig) [.str, .str] [.pure] [.int .i64] (Tf.strings_Index.f F)
theorem Tf.strings_Index.ok (F : Nat) : EntryOk Proofs.Tryz.prog tyT.G 106 (Tf.strings_Index.e F) :=
  fn_ok tyT_ok rfl mix (.cons (Tf.internal_stringslite_Index.ok F) .nil) (Λ := (look [] : Loops)) (fn := Proofs.Tryz.f106) (c := Tf.strings_Index.c) (LoopsOk.of (bs := []) (by kernel_rfl) .nil) (by kernel_rfl) (by kernel_rfl) (by kernel_rfl) (by kernel_rfl) (res1 (by kernel_rfl)) (by decide) (Tf.strings_Index.f_ok F)
noncomputable def Tf.strings_genSplit.c : Code := (Proofs.Tryz.f88.body).getD .skip
noncomputable def Tf.strings_genSplit.b11 : Code := codeAt [1, 1, 1, 1, 1, 1, 1, 1, 0, 0, 0] Tf.strings_genSplit.c
def Tf.strings_genSplit.s11 (F : Nat) (L : (Int × ((List ByteArray) × (ByteArray × (ByteArray × (Int × Int))))) → Option (Int × ((List ByteArray) × ByteArray))) (x : (Int × ((List ByteArray) × (ByteArray × (ByteArray × (Int × Int)))))) : Option (Int × ((List ByteArray) × ByteArray)) :=
 (bif (decide (x.1 < x.2.2.2.2.2)) then (Option.bind (Tf.strings_Index.f F (x.2.2.1, x.2.2.2.1)) (fun y36 => (bif (decide (y36 < (0 : Int))) then (some (x.1, (x.2.1, x.2.2.1)))
 else (bif ((decide ((0 : Int) ≤ (IntKind.wrap .i64 (y36 + x.2.2.2.2.1)))) && (decide ((IntKind.wrap .i64 (y36 + x.2.2.2.2.1)) ≤ ((ByteArray.size x.2.2.1) : Int)))) then (bif (inR x.1 (List.length x.2.1)) then (bif ((decide ((0 : Int) ≤ (IntKind.wrap .i64 (y36 + ((ByteArray.size x.2.2.2.1) : Int))))) && (decide ((IntKind.wrap .i64 (y36 + ((ByteArray.size x.2.2.2.1) : Int))) ≤ ((ByteArray.size x.2.2.1) : Int)))) then (L ((IntKind.wrap .i64 (x.1 + (1 : Int))), ((List.set x.2.1 (Int.toNat x.1) (ByteArray.extract x.2.2.1 0 (Int.toNat (IntKind.wrap .i64 (y36 + x.2.2.2.2.1))))), ((ByteArray.extract x.2.2.1 (Int.toNat (IntKind.wrap .i64 (y36 + ((ByteArray.size x.2.2.2.1) : Int)))) (ByteArray.size x.2.2.1)), (x.2.2.2.1, (x.2.2.2.2.1, x.2.2.2.2.2))))))
 else none)
 else none)
 else none))))
 else (some (x.1, (x.2.1, x.2.2.1))))
def Tf.strings_genSplit.l11 (F : Nat) : (Int × ((List ByteArray) × (ByteArray × (ByteArray × (Int × Int))))) → Option (Int × ((List ByteArray) × ByteArray)) := iter (Tf.strings_genSplit.s11 F) F
theorem Tf.strings_genSplit.s11_ok (F : Nat) (L a) : exec tyT (look [(104, Tf.strings_explode.e F), (105, Tf.strings_Count.e F), (106, Tf.strings_Index.e F)] : Fns) 66 (look [] : Loops) Tf.strings_genSplit.b11 (rebuild [.slot 10, .own 9 4, .slot 0, .slot 1, .slot 2, .slot 3] (encKs [.int .i64, .sl 4, .str, .str, .int .i64, .int .i64] a)) (bodyK [.slot 10, .own 9 4, .slot 0, .slot 1, .slot 2, .slot 3] [.int .i64, .sl 4, .str, .str, .int .i64, .int .i64] [⟨.exit 0, [.slot 10, .own 9 4, .slot 0], [.int .i64, .sl 4, .str]⟩] L) = Tf.strings_genSplit.s11 F L a := by kernel_rfl
theorem Tf.strings_genSplit.l11_ok (F : Nat) : LoopOk Proofs.Tryz.prog tyT.G 66 Tf.strings_genSplit.b11 (fun st κ => hand [.slot 10, .own 9 4, .slot 0, .slot 1, .slot 2, .slot 3] [.int .i64, .sl 4, .str, .str, .int .i64, .int .i64] [⟨.exit 0, [.slot 10, .own 9 4, .slot 0], [.int .i64, .sl 4, .str]⟩] (Tf.strings_genSplit.l11 F) st κ) :=
  loop_ok tyT_ok rfl mix (.cons (Tf.strings_explode.ok F) (.cons (Tf.strings_Count.ok F) (.cons (Tf.strings_Index.ok F) .nil))) (Λ := (look [] : Loops)) (LoopsOk.of (bs := []) (by kernel_rfl) .nil) (Tf.strings_genSplit.s11_ok F) F
def Tf.strings_genSplit.f (F : Nat) (a : (ByteArray × (ByteArray × (Int × Int)))) : Option (List ByteArray) :=
 (bif (a.2.2.2 == (0 : Int)) then (some ([] : List ByteArray))
 else (bif (seqB a.2.1 (⟨#[]⟩ : ByteArray)) then (Option.bind (Tf.strings_explode.f F (a.1, a.2.2.2)) (fun y11 => (some y11)))
 else (bif (decide (a.2.2.2 < (0 : Int))) then (Option.bind (Tf.strings_Count.f F (a.1, a.2.1)) (fun y13 => (bif (((decide ((0 : Int) ≤ (mnI (IntKind.wrap .i64 (y13 + (1 : Int))) (IntKind.wrap .i64 (((ByteArray.size a.1) : Int) + (1 : Int)))))) && (decide ((mnI (IntKind.wrap .i64 (y13 + (1 : Int))) (IntKind.wrap .i64 (((ByteArray.size a.1) : Int) + (1 : Int)))) ≤ (mnI (IntKind.wrap .i64 (y13 + (1 : Int))) (IntKind.wrap .i64 (((ByteArray.size a.1) : Int) + (1 : Int))))))) && (decide ((mnI (IntKind.wrap .i64 (y13 + (1 : Int))) (IntKind.wrap .i64 (((ByteArray.size a.1) : Int) + (1 : Int)))) ≤ (1099511627776 : Int)))) then (Option.bind (Tf.strings_genSplit.l11 F ((0 : Int), ((List.replicate (Int.toNat (mnI (IntKind.wrap .i64 (y13 + (1 : Int))) (IntKind.wrap .i64 (((ByteArray.size a.1) : Int) + (1 : Int))))) ByteArray.empty), (a.1, (a.2.1, (a.2.2.1, (IntKind.wrap .i64 ((mnI (IntKind.wrap .i64 (y13 + (1 : Int))) (IntKind.wrap .i64 (((ByteArray.size a.1) : Int) + (1 : Int)))) - (1 : Int))))))))) (fun y29 => (bif (inR y29.1 (List.length y29.2.1)) then (bif ((decide ((0 : Int) ≤ (IntKind.wrap .i64 (y29.1 + (1 : Int))))) && (decide ((IntKind.wrap .i64 (y29.1 + (1 : Int))) ≤ ((List.length (List.set y29.2.1 (Int.toNat y29.1) y29.2.2)) : Int)))) then (some (List.take ((Int.toNat (IntKind.wrap .i64 (y29.1 + (1 : Int)))) - 0) (List.drop 0 (List.set y29.2.1 (Int.toNat y29.1) y29.2.2))))
 else none)
 else none)))
 else none)))
 else (bif (((decide ((0 : Int) ≤ (mnI a.2.2.2 (IntKind.wrap .i64 (((ByteArray.size a.1) : Int) + (1 : Int)))))) && (decide ((mnI a.2.2.2 (IntKind.wrap .i64 (((ByteArray.size a.1) : Int) + (1 : Int)))) ≤ (mnI a.2.2.2 (IntKind.wrap .i64 (((ByteArray.size a.1) : Int) + (1 : Int))))))) && (decide ((mnI a.2.2.2 (IntKind.wrap .i64 (((ByteArray.size a.1) : Int) + (1 : Int)))) ≤ (1099511627776 : Int)))) then (Option.bind (Tf.strings_genSplit.l11 F ((0 : Int), ((List.replicate (Int.toNat (mnI a.2.2.2 (IntKind.wrap .i64 (((ByteArray.size a.1) : Int) + (1 : Int))))) ByteArray.empty), (a.1, (a.2.1, (a.2.2.1, (IntKind.wrap .i64 ((mnI a.2.2.2 (IntKind.wrap .i64 (((ByteArray.size a.1) : Int) + (1 : Int)))) - (1 : Int))))))))) (fun y23 => (bif (inR y23.1 (List.length y23.2.1)) then (bif ((decide ((0 : Int) ≤ (IntKind.wrap .i64 (y23.1 + (1 : Int))))) && (decide ((IntKind.wrap .i64 (y23.1 + (1 : Int))) ≤ ((List.length (List.set y23.2.1 (Int.toNat y23.1) y23.2.2)) : Int)))) then (some (List.take ((Int.toNat (IntKind.wrap .i64 (y23.1 + (1 : Int)))) - 0) (List.drop 0 (List.set y23.2.1 (Int.toNat y23.1) y23.2.2))))
 else none)
 else none)))
 else none))))
theorem Tf.strings_genSplit.f_ok (F : Nat) (a) : exec tyT (look [(104, Tf.strings_explode.e F), (105, Tf.strings_Count.e F), (106, Tf.strings_Index.e F)] : Fns) 66 (look [(11, fun st κ => hand [.slot 10, .own 9 4, .slot 0, .slot 1, .slot 2, .slot 3] [.int .i64, .sl 4, .str, .str, .int .i64, .int .i64] [⟨.exit 0, [.slot 10, .own 9 4, .slot 0], [.int .i64, .sl 4, .str]⟩] (Tf.strings_genSplit.l11 F) st κ)] : Loops) Tf.strings_genSplit.c (init [.p, .p, .p, .p] (encKs [.str, .str, .int .i64, .int .i64] a)) (finT (look [(104, Tf.strings_explode.e F), (105, Tf.strings_Count.e F), (106, Tf.strings_Index.e F)] : Fns) (⟨[.p, .p, .p, .p], [.v 4]⟩ : Sig) [8] [.pure] [.sl 4]) = Tf.strings_genSplit.f F a := by kernel_rfl
def Tf.strings_genSplit.e (F : Nat) : Fn := mkFn (⟨[.p, .p, .p, .p], [.v 4]⟩ : Sig) [.str, .str, .int .i64, .int .i64] [.pure] [.sl 4] (Tf.strings_genSplit.f F)
theorem Tf.strings_genSplit.ok (F : Nat) : EntryOk Proofs.Tryz.prog tyT.G 88 (Tf.strings_genSplit.e F) :=
  fn_ok tyT_ok rfl mix (.cons (Tf.strings_explode.ok F) (.cons (Tf.strings_Count.ok F) (.cons (Tf.strings_Index.ok F) .nil))) (Λ := (look [(11, fun st κ => hand [.slot 10, .own 9 4, .slot 0, .slot 1, .slot 2, .slot 3] [.int .i64, .sl 4, .str, .str, .int .i64, .int .i64] [⟨.exit 0, [.slot 10, .own 9 4, .slot 0], [.int .i64, .sl 4, .str]⟩] (Tf.strings_genSplit.l11 F) st κ)] : Loops)) (fn := Proofs.Tryz.f88) (c := Tf.strings_genSplit.c) (LoopsOk.of (bs := [Tf.strings_genSplit.b11]) (by kernel_rfl) (.cons rfl (Tf.strings_genSplit.l11_ok F) .nil)) (by kernel_rfl) (by kernel_rfl) (by kernel_rfl) (by kernel_rfl) (res1 (by kernel_rfl)) (by decide) (Tf.strings_genSplit.f_ok F)
noncomputable def Tf.strings_Split.c : Code := (Proofs.Tryz.f63.body).getD .skip
def Tf.strings_Split.f (F : Nat) (a : (ByteArray × ByteArray)) : Option (List ByteArray) :=
 (Option.bind (Tf.strings_genSplit.f F (a.1, (a.2, ((0 : Int), (-(1 : Int)))))) (fun y7 => (some y7)))
theorem Tf.strings_Split.f_ok (F : Nat) (a) : exec tyT (look [(88, Tf.strings_genSplit.e F)] : Fns) 8 (look [] : Loops) Tf.strings_Split.c (init [.p, .p] (encKs [.str, .str] a)) (finT (look [(88, Tf.strings_genSplit.e F)] : Fns) (⟨[.p, .p], [.v 4]⟩ : Sig) [4] [.pure] [.sl 4]) = Tf.strings_Split.f F a := by kernel_rfl
def Tf.strings_Split.e (F : Nat) : Fn := mkFn (⟨[.p, .p], [.v 4]⟩ : Sig) [.str, .str] [.pure] [.sl 4] (Tf.strings_Split.f F)
theorem Tf.strings_Split.ok (F : Nat) : EntryOk Proofs.Tryz.prog tyT.G 63 (Tf.strings_Split.e F) :=
  fn_ok tyT_ok rfl mix (.cons (Tf.strings_genSplit.ok F) .nil) (Λ := (look [] : Loops)) (fn := Proofs.Tryz.f63) (c := Tf.strings_Split.c) (LoopsOk.of (bs := []) (by kernel_rfl) .nil) (by kernel_rfl) (by kernel_rfl) (by kernel_rfl) (by kernel_rfl) (res1 (by kernel_rfl)) (by decide) (Tf.strings_Split.f_ok F)
noncomputable def Tf.lex_Lines.c : Code := (Proofs.Tryz.f41.body).getD .skip
noncomputable def Tf.lex_Lines.b8 : Code := codeAt [1, 1, 0, 1, 0, 0, 1, 1, 0, 0, 1, 1, 1, 0, 1, 0, 0] Tf.lex_Lines.c
def Tf.lex_Lines.s8 (F : Nat) (L : (Int × ((List ByteArray) × ((List ByteArray) × ((List ByteArray) × (Int × (Int × (Int × ((List Line) × Int)))))))) → Option ((List ByteArray) × (Int × (Int × ((List ByteArray) × (Int × (List Line))))))) (x : (Int × ((List ByteArray) × ((List ByteArray) × ((List ByteArray) × (Int × (Int × (Int × ((List Line) × Int))))))))) : Option ((List ByteArray) × (Int × (Int × ((List ByteArray) × (Int × (List Line)))))) :=
 (bif (decide (x.1 < x.2.2.2.2.2.2.2.2)) then (bif (inR x.1 (List.length x.2.2.1)) then (bif (!(seqB (List.getD x.2.2.1 (Int.toNat x.1) (dflt 4)) (⟨#[]⟩ : ByteArray))) then (bif (Nat.ble ((List.length x.2.1) + 1) 1099511627776) then (L ((IntKind.wrap .i64 (x.1 + (1 : Int))), ((x.2.1 ++ (List.set (List.replicate 1 ByteArray.empty) 0 (List.getD x.2.2.1 (Int.toNat x.1) (dflt 4)))), (x.2.2.1, (x.2.2.2.1, (x.2.2.2.2.1, (x.2.2.2.2.2.1, (x.2.2.2.2.2.2.1, (x.2.2.2.2.2.2.2.1, x.2.2.2.2.2.2.2.2)))))))))
 else none)
 else (L ((IntKind.wrap .i64 (x.1 + (1 : Int))), (x.2.1, (x.2.2.1, (x.2.2.2.1, (x.2.2.2.2.1, (x.2.2.2.2.2.1, (x.2.2.2.2.2.2.1, (x.2.2.2.2.2.2.2.1, x.2.2.2.2.2.2.2.2))))))))))
 else none)
 else (some (x.2.2.2.1, (x.2.2.2.2.1, (x.2.2.2.2.2.1, (x.2.1, (x.2.2.2.2.2.2.1, x.2.2.2.2.2.2.2.1)))))))
def Tf.lex_Lines.l8 (F : Nat) : (Int × ((List ByteArray) × ((List ByteArray) × ((List ByteArray) × (Int × (Int × (Int × ((List Line) × Int)))))))) → Option ((List ByteArray) × (Int × (Int × ((List ByteArray) × (Int × (List Line)))))) := iter (Tf.lex_Lines.s8 F) F
theorem Tf.lex_Lines.s8_ok (F : Nat) (L a) : exec tyT (look [(63, Tf.strings_Split.e F), (64, Tf.strings_Cut.e F)] : Fns) 49 (look [] : Loops) Tf.lex_Lines.b8 (rebuild [.slot 26, .own 6 4, .view 24 4, .view 10 4, .slot 11, .slot 12, .slot 4, .own 3 8, .slot 25] (encKs [.int .i64, .sl 4, .sl 4, .sl 4, .int .i64, .int .i64, .int .i64, .sl 8, .int .i64] a)) (bodyK [.slot 26, .own 6 4, .view 24 4, .view 10 4, .slot 11, .slot 12, .slot 4, .own 3 8, .slot 25] [.int .i64, .sl 4, .sl 4, .sl 4, .int .i64, .int .i64, .int .i64, .sl 8, .int .i64] [⟨.exit 2, [.view 10 4, .slot 11, .slot 12, .own 6 4, .slot 4, .own 3 8], [.sl 4, .int .i64, .int .i64, .sl 4, .int .i64, .sl 8]⟩] L) = Tf.lex_Lines.s8 F L a := by kernel_rfl
theorem Tf.lex_Lines.l8_ok (F : Nat) : LoopOk Proofs.Tryz.prog tyT.G 49 Tf.lex_Lines.b8 (fun st κ => hand [.slot 26, .own 6 4, .view 24 4, .view 10 4, .slot 11, .slot 12, .slot 4, .own 3 8, .slot 25] [.int .i64, .sl 4, .sl 4, .sl 4, .int .i64, .int .i64, .int .i64, .sl 8, .int .i64] [⟨.exit 2, [.view 10 4, .slot 11, .slot 12, .own 6 4, .slot 4, .own 3 8], [.sl 4, .int .i64, .int .i64, .sl 4, .int .i64, .sl 8]⟩] (Tf.lex_Lines.l8 F) st κ) :=
  loop_ok tyT_ok rfl mix (.cons (Tf.strings_Split.ok F) (.cons (Tf.strings_Cut.ok F) .nil)) (Λ := (look [] : Loops)) (LoopsOk.of (bs := []) (by kernel_rfl) .nil) (Tf.lex_Lines.s8_ok F) F
noncomputable def Tf.lex_Lines.b3 : Code := codeAt [1, 1, 0, 1, 0, 0] Tf.lex_Lines.c
def Tf.lex_Lines.s3 (F : Nat) (L : (Int × ((List Line) × ((List ByteArray) × Int))) → Option (List Line)) (x : (Int × ((List Line) × ((List ByteArray) × Int)))) : Option (List Line) :=
 (bif (decide (x.1 < x.2.2.2)) then (bif (inR x.1 (List.length x.2.2.1)) then (Option.bind (Tf.strings_Cut.f F ((List.getD x.2.2.1 (Int.toNat x.1) (dflt 4)), (⟨#[35]⟩ : ByteArray))) (fun y19 => (Option.bind (Tf.strings_Split.f F (y19.1, (⟨#[32]⟩ : ByteArray))) (fun y28 => (Option.bind (Tf.lex_Lines.l8 F ((0 : Int), (([] : List ByteArray), (y28, (x.2.2.1, (x.2.2.2, (x.1, (x.1, (x.2.1, ((List.length y28) : Int)))))))))) (fun y31 => (bif (decide (((List.length y31.2.2.2.1) : Int) > (0 : Int))) then (bif (Nat.ble ((List.length y31.2.2.2.2.2) + 1) 1099511627776) then (L ((IntKind.wrap .i64 (y31.2.2.1 + (1 : Int))), ((y31.2.2.2.2.2 ++ (List.set (List.replicate 1 (Line.mk (0 : Int) ([] : List ByteArray))) 0 (Line.mk (IntKind.wrap .i64 (y31.2.2.2.2.1 + (1 : Int))) y31.2.2.2.1))), (y31.1, y31.2.1))))
 else none)
 else (L ((IntKind.wrap .i64 (y31.2.2.1 + (1 : Int))), (y31.2.2.2.2.2, (y31.1, y31.2.1)))))))))))
 else none)
 else (some x.2.1))
def Tf.lex_Lines.l3 (F : Nat) : (Int × ((List Line) × ((List ByteArray) × Int))) → Option (List Line) := iter (Tf.lex_Lines.s3 F) F
theorem Tf.lex_Lines.s3_ok (F : Nat) (L a) : exec tyT (look [(63, Tf.strings_Split.e F), (64, Tf.strings_Cut.e F)] : Fns) 49 (look [(8, fun st κ => hand [.slot 26, .own 6 4, .view 24 4, .view 10 4, .slot 11, .slot 12, .slot 4, .own 3 8, .slot 25] [.int .i64, .sl 4, .sl 4, .sl 4, .int .i64, .int .i64, .int .i64, .sl 8, .int .i64] [⟨.exit 2, [.view 10 4, .slot 11, .slot 12, .own 6 4, .slot 4, .own 3 8], [.sl 4, .int .i64, .int .i64, .sl 4, .int .i64, .sl 8]⟩] (Tf.lex_Lines.l8 F) st κ)] : Loops) Tf.lex_Lines.b3 (rebuild [.slot 12, .own 3 8, .view 10 4, .slot 11] (encKs [.int .i64, .sl 8, .sl 4, .int .i64] a)) (bodyK [.slot 12, .own 3 8, .view 10 4, .slot 11] [.int .i64, .sl 8, .sl 4, .int .i64] [⟨.exit 0, [.own 3 8], [.sl 8]⟩] L) = Tf.lex_Lines.s3 F L a := by kernel_rfl
theorem Tf.lex_Lines.l3_ok (F : Nat) : LoopOk Proofs.Tryz.prog tyT.G 49 Tf.lex_Lines.b3 (fun st κ => hand [.slot 12, .own 3 8, .view 10 4, .slot 11] [.int .i64, .sl 8, .sl 4, .int .i64] [⟨.exit 0, [.own 3 8], [.sl 8]⟩] (Tf.lex_Lines.l3 F) st κ) :=
  loop_ok tyT_ok rfl mix (.cons (Tf.strings_Split.ok F) (.cons (Tf.strings_Cut.ok F) .nil)) (Λ := (look [(8, fun st κ => hand [.slot 26, .own 6 4, .view 24 4, .view 10 4, .slot 11, .slot 12, .slot 4, .own 3 8, .slot 25] [.int .i64, .sl 4, .sl 4, .sl 4, .int .i64, .int .i64, .int .i64, .sl 8, .int .i64] [⟨.exit 2, [.view 10 4, .slot 11, .slot 12, .own 6 4, .slot 4, .own 3 8], [.sl 4, .int .i64, .int .i64, .sl 4, .int .i64, .sl 8]⟩] (Tf.lex_Lines.l8 F) st κ)] : Loops)) (LoopsOk.of (bs := [Tf.lex_Lines.b8]) (by kernel_rfl) (.cons rfl (Tf.lex_Lines.l8_ok F) .nil)) (Tf.lex_Lines.s3_ok F) F
def Tf.lex_Lines.f (F : Nat) (a : ByteArray) : Option (List Line) :=
 (Option.bind (Tf.strings_Split.f F (a, (⟨#[10]⟩ : ByteArray))) (fun y7 => (Option.bind (Tf.lex_Lines.l3 F ((0 : Int), (([] : List Line), (y7, ((List.length y7) : Int))))) (fun y10 => (some y10)))))
theorem Tf.lex_Lines.f_ok (F : Nat) (a) : exec tyT (look [(63, Tf.strings_Split.e F), (64, Tf.strings_Cut.e F)] : Fns) 49 (look [(3, fun st κ => hand [.slot 12, .own 3 8, .view 10 4, .slot 11] [.int .i64, .sl 8, .sl 4, .int .i64] [⟨.exit 0, [.own 3 8], [.sl 8]⟩] (Tf.lex_Lines.l3 F) st κ)] : Loops) Tf.lex_Lines.c (init [.p] (encKs [.str] a)) (finT (look [(63, Tf.strings_Split.e F), (64, Tf.strings_Cut.e F)] : Fns) (⟨[.p], [.o 8]⟩ : Sig) [2] [.own] [.sl 8]) = Tf.lex_Lines.f F a := by kernel_rfl
def Tf.lex_Lines.e (F : Nat) : Fn := mkFn (⟨[.p], [.o 8]⟩ : Sig) [.str] [.own] [.sl 8] (Tf.lex_Lines.f F)
theorem Tf.lex_Lines.ok (F : Nat) : EntryOk Proofs.Tryz.prog tyT.G 41 (Tf.lex_Lines.e F) :=
  fn_ok tyT_ok rfl mix (.cons (Tf.strings_Split.ok F) (.cons (Tf.strings_Cut.ok F) .nil)) (Λ := (look [(3, fun st κ => hand [.slot 12, .own 3 8, .view 10 4, .slot 11] [.int .i64, .sl 8, .sl 4, .int .i64] [⟨.exit 0, [.own 3 8], [.sl 8]⟩] (Tf.lex_Lines.l3 F) st κ)] : Loops)) (fn := Proofs.Tryz.f41) (c := Tf.lex_Lines.c) (LoopsOk.of (bs := [Tf.lex_Lines.b3]) (by kernel_rfl) (.cons rfl (Tf.lex_Lines.l3_ok F) .nil)) (by kernel_rfl) (by kernel_rfl) (by kernel_rfl) (by kernel_rfl) (res1 (by kernel_rfl)) (by decide) (Tf.lex_Lines.f_ok F)
noncomputable def Tf.read_All.c : Code := (Proofs.Tryz.f18.body).getD .skip
noncomputable def Tf.read_All.b3 : Code := codeAt [1, 1, 0, 1, 0, 0] Tf.read_All.c
def Tf.read_All.s3 (F : Nat) (L : (Int × ((List Stmt) × ((List Line) × Int))) → Option (((List Stmt) × (Int × Int)) ⊕ (List Stmt))) (x : (Int × ((List Stmt) × ((List Line) × Int)))) : Option (((List Stmt) × (Int × Int)) ⊕ (List Stmt)) :=
 (bif (decide (x.1 < x.2.2.2)) then (bif (inR x.1 (List.length x.2.2.1)) then (Option.bind (Tf.read_Parse.f F (Line.mk (List.getD x.2.2.1 (Int.toNat x.1) (dflt 8)).at_ (List.getD x.2.2.1 (Int.toNat x.1) (dflt 8)).words)) (fun y20 => (bif (y20.2 != (0 : Int)) then (some (.inl (([] : List Stmt), ((List.getD x.2.2.1 (Int.toNat x.1) (dflt 8)).at_, y20.2))))
 else (bif (Nat.ble ((List.length x.2.1) + 1) 1099511627776) then (L ((IntKind.wrap .i64 (x.1 + (1 : Int))), ((x.2.1 ++ (List.set (List.replicate 1 (Stmt.mk ByteArray.empty ByteArray.empty ([] : List ByteArray) ([] : List Int) ByteArray.empty (0 : Int) ([] : List ByteArray))) 0 (Stmt.mk y20.1.name y20.1.op y20.1.args y20.1.dims y20.1.k y20.1.n y20.1.data))), (x.2.2.1, x.2.2.2))))
 else none))))
 else none)
 else (some (.inr x.2.1)))
def Tf.read_All.l3 (F : Nat) : (Int × ((List Stmt) × ((List Line) × Int))) → Option (((List Stmt) × (Int × Int)) ⊕ (List Stmt)) := iter (Tf.read_All.s3 F) F
theorem Tf.read_All.s3_ok (F : Nat) (L a) : exec tyT (look [(15, Tf.read_Parse.e F), (41, Tf.lex_Lines.e F)] : Fns) 33 (look [] : Loops) Tf.read_All.b3 (rebuild [.slot 13, .own 5 11, .own 11 8, .slot 12] (encKs [.int .i64, .sl 11, .sl 8, .int .i64] a)) (bodyK [.slot 13, .own 5 11, .own 11 8, .slot 12] [.int .i64, .sl 11, .sl 8, .int .i64] [⟨.ret, [.own 2 11, .slot 3, .slot 4], [.sl 11, .int .i64, .int .i64]⟩, ⟨.exit 0, [.own 5 11], [.sl 11]⟩] L) = Tf.read_All.s3 F L a := by kernel_rfl
theorem Tf.read_All.l3_ok (F : Nat) : LoopOk Proofs.Tryz.prog tyT.G 33 Tf.read_All.b3 (fun st κ => hand [.slot 13, .own 5 11, .own 11 8, .slot 12] [.int .i64, .sl 11, .sl 8, .int .i64] [⟨.ret, [.own 2 11, .slot 3, .slot 4], [.sl 11, .int .i64, .int .i64]⟩, ⟨.exit 0, [.own 5 11], [.sl 11]⟩] (Tf.read_All.l3 F) st κ) :=
  loop_ok tyT_ok rfl mix (.cons (Tf.read_Parse.ok F) (.cons (Tf.lex_Lines.ok F) .nil)) (Λ := (look [] : Loops)) (LoopsOk.of (bs := []) (by kernel_rfl) .nil) (Tf.read_All.s3_ok F) F
def Tf.read_All.f (F : Nat) (a : ByteArray) : Option ((List Stmt) × (Int × Int)) :=
 (Option.bind (Tf.lex_Lines.f F a) (fun y9 => (Option.bind (Tf.read_All.l3 F ((0 : Int), (([] : List Stmt), (y9, ((List.length y9) : Int))))) (fun y12 => (sumE y12 (fun y13 => (some (y13.1, (y13.2.1, y13.2.2)))) (fun y13 => (some (y13, ((0 : Int), (0 : Int))))))))))
theorem Tf.read_All.f_ok (F : Nat) (a) : exec tyT (look [(15, Tf.read_Parse.e F), (41, Tf.lex_Lines.e F)] : Fns) 33 (look [(3, fun st κ => hand [.slot 13, .own 5 11, .own 11 8, .slot 12] [.int .i64, .sl 11, .sl 8, .int .i64] [⟨.ret, [.own 2 11, .slot 3, .slot 4], [.sl 11, .int .i64, .int .i64]⟩, ⟨.exit 0, [.own 5 11], [.sl 11]⟩] (Tf.read_All.l3 F) st κ)] : Loops) Tf.read_All.c (init [.p] (encKs [.str] a)) (finT (look [(15, Tf.read_Parse.e F), (41, Tf.lex_Lines.e F)] : Fns) (⟨[.p], [.o 11, .p, .p]⟩ : Sig) [2, 3, 4] [.own, .pure, .pure] [.sl 11, .int .i64, .int .i64]) = Tf.read_All.f F a := by kernel_rfl
def Tf.read_All.e (F : Nat) : Fn := mkFn (⟨[.p], [.o 11, .p, .p]⟩ : Sig) [.str] [.own, .pure, .pure] [.sl 11, .int .i64, .int .i64] (Tf.read_All.f F)
theorem Tf.read_All.ok (F : Nat) : EntryOk Proofs.Tryz.prog tyT.G 18 (Tf.read_All.e F) :=
  fn_ok tyT_ok rfl mix (.cons (Tf.read_Parse.ok F) (.cons (Tf.lex_Lines.ok F) .nil)) (Λ := (look [(3, fun st κ => hand [.slot 13, .own 5 11, .own 11 8, .slot 12] [.int .i64, .sl 11, .sl 8, .int .i64] [⟨.ret, [.own 2 11, .slot 3, .slot 4], [.sl 11, .int .i64, .int .i64]⟩, ⟨.exit 0, [.own 5 11], [.sl 11]⟩] (Tf.read_All.l3 F) st κ)] : Loops)) (fn := Proofs.Tryz.f18) (c := Tf.read_All.c) (LoopsOk.of (bs := [Tf.read_All.b3]) (by kernel_rfl) (.cons rfl (Tf.read_All.l3_ok F) .nil)) (by kernel_rfl) (by kernel_rfl) (by kernel_rfl) (by kernel_rfl) (res3 (by kernel_rfl)) (by decide) (Tf.read_All.f_ok F)
noncomputable def Tf.slices_Clone_ints.c : Code := (Proofs.Tryz.f71.body).getD .skip
def Tf.slices_Clone_ints.f (F : Nat) (a : List Int) : Option (List Int) := cloneT 0 a
def Tf.slices_Clone_ints.e (F : Nat) : Fn := mkFn (⟨[.v 0], [.o 0]⟩ : Sig) [.sl 0] [.own] [.sl 0] (Tf.slices_Clone_ints.f F)
theorem Tf.slices_Clone_ints.ok (F : Nat) : EntryOk Proofs.Tryz.prog tyT.G 71 (Tf.slices_Clone_ints.e F) :=
  clone_ok tyT_ok rfl mix (fn := Proofs.Tryz.f71) (t := 0) (T := 24) (T' := 24) (e := 3) (r0 := codeAt [0] Tf.slices_Clone_ints.c) (A := codeAt [1, 0, 1, 0] Tf.slices_Clone_ints.c) (B := codeAt [1, 1] Tf.slices_Clone_ints.c) (id := 1)
    (o1 := nthOp (codeAt [1, 0, 0] Tf.slices_Clone_ints.c) 0) (o2 := nthOp (codeAt [1, 0, 0] Tf.slices_Clone_ints.c) 1) (by kernel_rfl) (by kernel_rfl) (by kernel_rfl) (by kernel_rfl) (res1 (by kernel_rfl))
    (by kernel_rfl) (by kernel_rfl) (by kernel_rfl) (by kernel_rfl) (by kernel_rfl) (by kernel_rfl) (by kernel_rfl) (by kernel_rfl) (by kernel_rfl)
    (S0 := fun l => stAt tyT 8 (codeAt [0] Tf.slices_Clone_ints.c) [.v 0] [.sl 0 l]) (fun l => by kernel_rfl) (fun l => by kernel_rfl) (fun l => by kernel_rfl) (by kernel_rfl)
noncomputable def Tf.graph_node.c : Code := (Proofs.Tryz.f53.body).getD .skip
noncomputable def Tf.graph_node.b5 : Code := codeAt [1, 1, 1, 0, 1, 0, 0] Tf.graph_node.c
def Tf.graph_node.s5 (F : Nat) (L : (ByteArray × (Int × (Int × (ByteArray × (Unit × (ByteArray × (Int × (Unit × (ByteArray × (Int × (Int × (ByteArray × ((List Int) × (ByteArray × (Int × ((List ByteArray) × (Int × ((List (ByteArray × Int)) × ((List ByteArray) × Int))))))))))))))))))) → Option ((ByteArray × (Int × (Int × (ByteArray × ((List Int) × (ByteArray × (Int × ((List ByteArray) × Bool)))))))) ⊕ (ByteArray × (Int × (Int × (ByteArray × (Unit × (ByteArray × (Int × (Unit × (ByteArray × (Int × (Int × (ByteArray × ((List Int) × (ByteArray × (Int × (List ByteArray)))))))))))))))))) (x : (ByteArray × (Int × (Int × (ByteArray × (Unit × (ByteArray × (Int × (Unit × (ByteArray × (Int × (Int × (ByteArray × ((List Int) × (ByteArray × (Int × ((List ByteArray) × (Int × ((List (ByteArray × Int)) × ((List ByteArray) × Int)))))))))))))))))))) : Option ((ByteArray × (Int × (Int × (ByteArray × ((List Int) × (ByteArray × (Int × ((List ByteArray) × Bool)))))))) ⊕ (ByteArray × (Int × (Int × (ByteArray × (Unit × (ByteArray × (Int × (Unit × (ByteArray × (Int × (Int × (ByteArray × ((List Int) × (ByteArray × (Int × (List ByteArray))))))))))))))))) :=
 (bif (decide (x.2.2.2.2.2.2.2.2.2.2.2.2.2.2.2.2.1 < x.2.2.2.2.2.2.2.2.2.2.2.2.2.2.2.2.2.2.2)) then (bif (inR x.2.2.2.2.2.2.2.2.2.2.2.2.2.2.2.2.1 (List.length x.2.2.2.2.2.2.2.2.2.2.2.2.2.2.2.2.2.2.1)) then (bif (!(Option.isSome (getM x.2.2.2.2.2.2.2.2.2.2.2.2.2.2.2.2.2.1 (List.getD x.2.2.2.2.2.2.2.2.2.2.2.2.2.2.2.2.2.2.1 (Int.toNat x.2.2.2.2.2.2.2.2.2.2.2.2.2.2.2.2.1) (dflt 4))))) then (some (.inl (x.2.2.2.2.2.2.2.2.1, (x.2.2.2.2.2.2.2.2.2.1, (x.2.2.2.2.2.2.2.2.2.2.1, (x.2.2.2.2.2.2.2.2.2.2.2.1, (x.2.2.2.2.2.2.2.2.2.2.2.2.1, (x.2.2.2.2.2.2.2.2.2.2.2.2.2.1, (x.2.2.2.2.2.2.2.2.2.2.2.2.2.2.1, (x.2.2.2.2.2.2.2.2.2.2.2.2.2.2.2.1, Bool.false))))))))))
 else (bif (x.2.2.2.2.2.2.2.2.2.2.2.2.2.2.2.2.1 == (0 : Int)) then (L (x.1, (x.2.1, (x.2.2.1, (x.2.2.2.1, ((), (x.2.2.2.2.2.1, (x.2.2.2.2.2.2.1, ((), (x.2.2.2.2.2.2.2.2.1, ((Option.getD (getM x.2.2.2.2.2.2.2.2.2.2.2.2.2.2.2.2.2.1 (List.getD x.2.2.2.2.2.2.2.2.2.2.2.2.2.2.2.2.2.2.1 (Int.toNat x.2.2.2.2.2.2.2.2.2.2.2.2.2.2.2.2.1) (dflt 4))) (0 : Int)), (x.2.2.2.2.2.2.2.2.2.2.1, (x.2.2.2.2.2.2.2.2.2.2.2.1, (x.2.2.2.2.2.2.2.2.2.2.2.2.1, (x.2.2.2.2.2.2.2.2.2.2.2.2.2.1, (x.2.2.2.2.2.2.2.2.2.2.2.2.2.2.1, (x.2.2.2.2.2.2.2.2.2.2.2.2.2.2.2.1, ((IntKind.wrap .i64 (x.2.2.2.2.2.2.2.2.2.2.2.2.2.2.2.2.1 + (1 : Int))), (x.2.2.2.2.2.2.2.2.2.2.2.2.2.2.2.2.2.1, (x.2.2.2.2.2.2.2.2.2.2.2.2.2.2.2.2.2.2.1, x.2.2.2.2.2.2.2.2.2.2.2.2.2.2.2.2.2.2.2))))))))))))))))))))
 else (L (x.1, (x.2.1, (x.2.2.1, (x.2.2.2.1, ((), (x.2.2.2.2.2.1, (x.2.2.2.2.2.2.1, ((), (x.2.2.2.2.2.2.2.2.1, (x.2.2.2.2.2.2.2.2.2.1, ((Option.getD (getM x.2.2.2.2.2.2.2.2.2.2.2.2.2.2.2.2.2.1 (List.getD x.2.2.2.2.2.2.2.2.2.2.2.2.2.2.2.2.2.2.1 (Int.toNat x.2.2.2.2.2.2.2.2.2.2.2.2.2.2.2.2.1) (dflt 4))) (0 : Int)), (x.2.2.2.2.2.2.2.2.2.2.2.1, (x.2.2.2.2.2.2.2.2.2.2.2.2.1, (x.2.2.2.2.2.2.2.2.2.2.2.2.2.1, (x.2.2.2.2.2.2.2.2.2.2.2.2.2.2.1, (x.2.2.2.2.2.2.2.2.2.2.2.2.2.2.2.1, ((IntKind.wrap .i64 (x.2.2.2.2.2.2.2.2.2.2.2.2.2.2.2.2.1 + (1 : Int))), (x.2.2.2.2.2.2.2.2.2.2.2.2.2.2.2.2.2.1, (x.2.2.2.2.2.2.2.2.2.2.2.2.2.2.2.2.2.2.1, x.2.2.2.2.2.2.2.2.2.2.2.2.2.2.2.2.2.2.2))))))))))))))))))))))
 else none)
 else (some (.inr (x.1, (x.2.1, (x.2.2.1, (x.2.2.2.1, ((), (x.2.2.2.2.2.1, (x.2.2.2.2.2.2.1, ((), (x.2.2.2.2.2.2.2.2.1, (x.2.2.2.2.2.2.2.2.2.1, (x.2.2.2.2.2.2.2.2.2.2.1, (x.2.2.2.2.2.2.2.2.2.2.2.1, (x.2.2.2.2.2.2.2.2.2.2.2.2.1, (x.2.2.2.2.2.2.2.2.2.2.2.2.2.1, (x.2.2.2.2.2.2.2.2.2.2.2.2.2.2.1, x.2.2.2.2.2.2.2.2.2.2.2.2.2.2.2.1))))))))))))))))))
def Tf.graph_node.l5 (F : Nat) : (ByteArray × (Int × (Int × (ByteArray × (Unit × (ByteArray × (Int × (Unit × (ByteArray × (Int × (Int × (ByteArray × ((List Int) × (ByteArray × (Int × ((List ByteArray) × (Int × ((List (ByteArray × Int)) × ((List ByteArray) × Int))))))))))))))))))) → Option ((ByteArray × (Int × (Int × (ByteArray × ((List Int) × (ByteArray × (Int × ((List ByteArray) × Bool)))))))) ⊕ (ByteArray × (Int × (Int × (ByteArray × (Unit × (ByteArray × (Int × (Unit × (ByteArray × (Int × (Int × (ByteArray × ((List Int) × (ByteArray × (Int × (List ByteArray))))))))))))))))) := iter (Tf.graph_node.s5 F) F
theorem Tf.graph_node.s5_ok (F : Nat) (L a) : exec tyT (look [(71, Tf.slices_Clone_ints.e F), (72, Tf.slices_Clone_strings.e F)] : Fns) 60 (look [] : Loops) Tf.graph_node.b5 (rebuild [.box 4 [none, none, none, none, none, none, none, none], .box 6 [none, none, none, none, some 0, none, none, some 1004], .slot 38, .slot 1, .view 36 4, .slot 37] (encKs [.str, .int .i64, .int .i64, .str, .nil, .str, .int .i64, .nil, .str, .int .i64, .int .i64, .str, .sl 0, .str, .int .i64, .sl 4, .int .i64, .map, .sl 4, .int .i64] a)) (bodyK [.box 4 [none, none, none, none, none, none, none, none], .box 6 [none, none, none, none, some 0, none, none, some 1004], .slot 38, .slot 1, .view 36 4, .slot 37] [.str, .int .i64, .int .i64, .str, .nil, .str, .int .i64, .nil, .str, .int .i64, .int .i64, .str, .sl 0, .str, .int .i64, .sl 4, .int .i64, .map, .sl 4, .int .i64] [⟨.ret, [.box 4 [none, none, none, none, some 0, none, none, none], .slot 5], [.str, .int .i64, .int .i64, .str, .sl 0, .str, .int .i64, .sl 4, .bool]⟩, ⟨.exit 0, [.box 4 [none, none, none, none, none, none, none, none], .box 6 [none, none, none, none, some 0, none, none, none]], [.str, .int .i64, .int .i64, .str, .nil, .str, .int .i64, .nil, .str, .int .i64, .int .i64, .str, .sl 0, .str, .int .i64, .sl 4]⟩] L) = Tf.graph_node.s5 F L a := by kernel_rfl
theorem Tf.graph_node.l5_ok (F : Nat) : LoopOk Proofs.Tryz.prog tyT.G 60 Tf.graph_node.b5 (fun st κ => hand [.box 4 [none, none, none, none, none, none, none, none], .box 6 [none, none, none, none, some 0, none, none, some 1004], .slot 38, .slot 1, .view 36 4, .slot 37] [.str, .int .i64, .int .i64, .str, .nil, .str, .int .i64, .nil, .str, .int .i64, .int .i64, .str, .sl 0, .str, .int .i64, .sl 4, .int .i64, .map, .sl 4, .int .i64] [⟨.ret, [.box 4 [none, none, none, none, some 0, none, none, none], .slot 5], [.str, .int .i64, .int .i64, .str, .sl 0, .str, .int .i64, .sl 4, .bool]⟩, ⟨.exit 0, [.box 4 [none, none, none, none, none, none, none, none], .box 6 [none, none, none, none, some 0, none, none, none]], [.str, .int .i64, .int .i64, .str, .nil, .str, .int .i64, .nil, .str, .int .i64, .int .i64, .str, .sl 0, .str, .int .i64, .sl 4]⟩] (Tf.graph_node.l5 F) st κ) :=
  loop_ok tyT_ok rfl mix (.cons (Tf.slices_Clone_ints.ok F) (.cons (Tf.slices_Clone_strings.ok F) .nil)) (Λ := (look [] : Loops)) (LoopsOk.of (bs := []) (by kernel_rfl) .nil) (Tf.graph_node.s5_ok F) F
def Tf.graph_node.f (F : Nat) (a : (Stmt × (List (ByteArray × Int)))) : Option (Node × Bool) :=
 (Option.bind (Tf.slices_Clone_ints.f F a.1.dims) (fun y11 => (Option.bind (Tf.slices_Clone_strings.f F a.1.data) (fun y19 => (bif (seqB a.1.op (⟨#[112, 97, 114, 97, 109]⟩ : ByteArray)) then (Option.bind (Tf.graph_node.l5 F (ByteArray.empty, ((0 : Int), ((0 : Int), (ByteArray.empty, ((), (ByteArray.empty, ((0 : Int), ((), (a.1.op, ((0 : Int), ((0 : Int), (a.1.name, (y11, (a.1.k, (a.1.n, (y19, ((0 : Int), (a.2, (a.1.args, ((List.length a.1.args) : Int))))))))))))))))))))) (fun y36 => (sumE y36 (fun y37 => (some ((Node.mk y37.1 y37.2.1 y37.2.2.1 y37.2.2.2.1 y37.2.2.2.2.1 y37.2.2.2.2.2.1 y37.2.2.2.2.2.2.1 y37.2.2.2.2.2.2.2.1), y37.2.2.2.2.2.2.2.2))) (fun y37 => (some ((Node.mk y37.2.2.2.2.2.2.2.2.1 y37.2.2.2.2.2.2.2.2.2.1 y37.2.2.2.2.2.2.2.2.2.2.1 y37.2.2.2.2.2.2.2.2.2.2.2.1 y37.2.2.2.2.2.2.2.2.2.2.2.2.1 y37.2.2.2.2.2.2.2.2.2.2.2.2.2.1 y37.2.2.2.2.2.2.2.2.2.2.2.2.2.2.1 y37.2.2.2.2.2.2.2.2.2.2.2.2.2.2.2), Bool.true))))))
 else (bif (seqB a.1.op (⟨#[105, 110, 112, 117, 116]⟩ : ByteArray)) then (Option.bind (Tf.graph_node.l5 F (ByteArray.empty, ((0 : Int), ((0 : Int), (ByteArray.empty, ((), (ByteArray.empty, ((0 : Int), ((), (a.1.op, ((0 : Int), ((0 : Int), (a.1.name, (y11, (a.1.k, (a.1.n, (y19, ((0 : Int), (a.2, (a.1.args, ((List.length a.1.args) : Int))))))))))))))))))))) (fun y39 => (sumE y39 (fun y40 => (some ((Node.mk y40.1 y40.2.1 y40.2.2.1 y40.2.2.2.1 y40.2.2.2.2.1 y40.2.2.2.2.2.1 y40.2.2.2.2.2.2.1 y40.2.2.2.2.2.2.2.1), y40.2.2.2.2.2.2.2.2))) (fun y40 => (some ((Node.mk y40.2.2.2.2.2.2.2.2.1 y40.2.2.2.2.2.2.2.2.2.1 y40.2.2.2.2.2.2.2.2.2.2.1 y40.2.2.2.2.2.2.2.2.2.2.2.1 y40.2.2.2.2.2.2.2.2.2.2.2.2.1 y40.2.2.2.2.2.2.2.2.2.2.2.2.2.1 y40.2.2.2.2.2.2.2.2.2.2.2.2.2.2.1 y40.2.2.2.2.2.2.2.2.2.2.2.2.2.2.2), Bool.true))))))
 else (Option.bind (Tf.graph_node.l5 F (ByteArray.empty, ((0 : Int), ((0 : Int), (ByteArray.empty, ((), (ByteArray.empty, ((0 : Int), ((), (a.1.op, ((0 : Int), ((0 : Int), (ByteArray.empty, (y11, (a.1.k, (a.1.n, (y19, ((0 : Int), (a.2, (a.1.args, ((List.length a.1.args) : Int))))))))))))))))))))) (fun y35 => (sumE y35 (fun y36 => (some ((Node.mk y36.1 y36.2.1 y36.2.2.1 y36.2.2.2.1 y36.2.2.2.2.1 y36.2.2.2.2.2.1 y36.2.2.2.2.2.2.1 y36.2.2.2.2.2.2.2.1), y36.2.2.2.2.2.2.2.2))) (fun y36 => (some ((Node.mk y36.2.2.2.2.2.2.2.2.1 y36.2.2.2.2.2.2.2.2.2.1 y36.2.2.2.2.2.2.2.2.2.2.1 y36.2.2.2.2.2.2.2.2.2.2.2.1 y36.2.2.2.2.2.2.2.2.2.2.2.2.1 y36.2.2.2.2.2.2.2.2.2.2.2.2.2.1 y36.2.2.2.2.2.2.2.2.2.2.2.2.2.2.1 y36.2.2.2.2.2.2.2.2.2.2.2.2.2.2.2), Bool.true))))))))))))
theorem Tf.graph_node.f_ok (F : Nat) (a) : exec tyT (look [(71, Tf.slices_Clone_ints.e F), (72, Tf.slices_Clone_strings.e F)] : Fns) 60 (look [(5, fun st κ => hand [.box 4 [none, none, none, none, none, none, none, none], .box 6 [none, none, none, none, some 0, none, none, some 1004], .slot 38, .slot 1, .view 36 4, .slot 37] [.str, .int .i64, .int .i64, .str, .nil, .str, .int .i64, .nil, .str, .int .i64, .int .i64, .str, .sl 0, .str, .int .i64, .sl 4, .int .i64, .map, .sl 4, .int .i64] [⟨.ret, [.box 4 [none, none, none, none, some 0, none, none, none], .slot 5], [.str, .int .i64, .int .i64, .str, .sl 0, .str, .int .i64, .sl 4, .bool]⟩, ⟨.exit 0, [.box 4 [none, none, none, none, none, none, none, none], .box 6 [none, none, none, none, some 0, none, none, none]], [.str, .int .i64, .int .i64, .str, .nil, .str, .int .i64, .nil, .str, .int .i64, .int .i64, .str, .sl 0, .str, .int .i64, .sl 4]⟩] (Tf.graph_node.l5 F) st κ)] : Loops) Tf.graph_node.c (init [.v 211, .p] (encKs [.rc 11, .map] a)) (finC tyT (look [(71, Tf.slices_Clone_ints.e F), (72, Tf.slices_Clone_strings.e F)] : Fns) 60 4 75 (⟨[.v 211, .p], [.v 206, .p]⟩ : Sig) [4, 5] [.pure, .pure] [.rc 6, .bool]) = Tf.graph_node.f F a := by kernel_rfl
def Tf.graph_node.e (F : Nat) : Fn := mkFn (⟨[.v 211, .p], [.v 206, .p]⟩ : Sig) [.rc 11, .map] [.pure, .pure] [.rc 6, .bool] (Tf.graph_node.f F)
theorem Tf.graph_node.ok (F : Nat) : EntryOk Proofs.Tryz.prog tyT.G 53 (Tf.graph_node.e F) :=
  fn_okC tyT_ok rfl mix (.cons (Tf.slices_Clone_ints.ok F) (.cons (Tf.slices_Clone_strings.ok F) .nil)) (Λ := (look [(5, fun st κ => hand [.box 4 [none, none, none, none, none, none, none, none], .box 6 [none, none, none, none, some 0, none, none, some 1004], .slot 38, .slot 1, .view 36 4, .slot 37] [.str, .int .i64, .int .i64, .str, .nil, .str, .int .i64, .nil, .str, .int .i64, .int .i64, .str, .sl 0, .str, .int .i64, .sl 4, .int .i64, .map, .sl 4, .int .i64] [⟨.ret, [.box 4 [none, none, none, none, some 0, none, none, none], .slot 5], [.str, .int .i64, .int .i64, .str, .sl 0, .str, .int .i64, .sl 4, .bool]⟩, ⟨.exit 0, [.box 4 [none, none, none, none, none, none, none, none], .box 6 [none, none, none, none, some 0, none, none, none]], [.str, .int .i64, .int .i64, .str, .nil, .str, .int .i64, .nil, .str, .int .i64, .int .i64, .str, .sl 0, .str, .int .i64, .sl 4]⟩] (Tf.graph_node.l5 F) st κ)] : Loops)) (fn := Proofs.Tryz.f53) (c := Tf.graph_node.c) (LoopsOk.of (bs := [Tf.graph_node.b5]) (by kernel_rfl) (.cons rfl (Tf.graph_node.l5_ok F) .nil)) (by kernel_rfl) (by kernel_rfl) (by kernel_rfl) (by kernel_rfl) (resC1 (by kernel_rfl) (by kernel_rfl)) (by decide) (Tf.graph_node.f_ok F)
noncomputable def Tf.graph_parts.c : Code := (Proofs.Tryz.f73.body).getD .skip
def Tf.graph_parts.f (F : Nat) (a : ByteArray) : Option (Int × Bool) :=
 (bif (seqB a (⟨#[112, 97, 114, 97, 109]⟩ : ByteArray)) then (some ((0 : Int), Bool.true))
 else (bif (seqB a (⟨#[105, 110, 112, 117, 116]⟩ : ByteArray)) then (some ((0 : Int), Bool.true))
 else (bif (seqB a (⟨#[99, 111, 110, 115, 116]⟩ : ByteArray)) then (some ((0 : Int), Bool.true))
 else (bif (seqB a (⟨#[114, 101, 108, 117]⟩ : ByteArray)) then (some ((1 : Int), Bool.true))
 else (bif (seqB a (⟨#[97, 98, 115]⟩ : ByteArray)) then (some ((1 : Int), Bool.true))
 else (bif (seqB a (⟨#[115, 116, 101, 112]⟩ : ByteArray)) then (some ((1 : Int), Bool.true))
 else (bif (seqB a (⟨#[115, 105, 103, 110]⟩ : ByteArray)) then (some ((1 : Int), Bool.true))
 else (bif (seqB a (⟨#[115, 99, 97, 108, 101]⟩ : ByteArray)) then (some ((1 : Int), Bool.true))
 else (bif (seqB a (⟨#[112, 111, 119, 101, 114]⟩ : ByteArray)) then (some ((1 : Int), Bool.true))
 else (bif (seqB a (⟨#[116, 114, 97, 110, 115, 112, 111, 115, 101]⟩ : ByteArray)) then (some ((1 : Int), Bool.true))
 else (bif (seqB a (⟨#[115, 117, 109]⟩ : ByteArray)) then (some ((1 : Int), Bool.true))
 else (bif (seqB a (⟨#[114, 101, 115, 104, 97, 112, 101]⟩ : ByteArray)) then (some ((1 : Int), Bool.true))
 else (bif (seqB a (⟨#[115, 112, 114, 101, 97, 100]⟩ : ByteArray)) then (some ((1 : Int), Bool.true))
 else (bif (seqB a (⟨#[97, 100, 100]⟩ : ByteArray)) then (some ((2 : Int), Bool.true))
 else (bif (seqB a (⟨#[115, 117, 98]⟩ : ByteArray)) then (some ((2 : Int), Bool.true))
 else (bif (seqB a (⟨#[109, 117, 108]⟩ : ByteArray)) then (some ((2 : Int), Bool.true))
 else (bif (seqB a (⟨#[109, 97, 120]⟩ : ByteArray)) then (some ((2 : Int), Bool.true))
 else (bif (seqB a (⟨#[97, 98, 111, 118, 101]⟩ : ByteArray)) then (some ((2 : Int), Bool.true))
 else (bif (seqB a (⟨#[109, 97, 116, 109, 117, 108]⟩ : ByteArray)) then (some ((2 : Int), Bool.true))
 else (some ((0 : Int), Bool.false)))))))))))))))))))))
theorem Tf.graph_parts.f_ok (F : Nat) (a) : exec tyT (look [] : Fns) 27 (look [] : Loops) Tf.graph_parts.c (init [.p] (encKs [.str] a)) (finT (look [] : Fns) (⟨[.p], [.p, .p]⟩ : Sig) [2, 3] [.pure, .pure] [.int .i64, .bool]) = Tf.graph_parts.f F a := by kernel_rfl
def Tf.graph_parts.e (F : Nat) : Fn := mkFn (⟨[.p], [.p, .p]⟩ : Sig) [.str] [.pure, .pure] [.int .i64, .bool] (Tf.graph_parts.f F)
theorem Tf.graph_parts.ok (F : Nat) : EntryOk Proofs.Tryz.prog tyT.G 73 (Tf.graph_parts.e F) :=
  fn_ok tyT_ok rfl mix .nil (Λ := (look [] : Loops)) (fn := Proofs.Tryz.f73) (c := Tf.graph_parts.c) (LoopsOk.of (bs := []) (by kernel_rfl) .nil) (by kernel_rfl) (by kernel_rfl) (by kernel_rfl) (by kernel_rfl) (res2 (by kernel_rfl)) (by decide) (Tf.graph_parts.f_ok F)
noncomputable def Tf.graph_bare.c : Code := (Proofs.Tryz.f74.body).getD .skip
def Tf.graph_bare.f (F : Nat) (a : (Node × Int)) : Option Bool :=
 (bif (seqB a.1.op (⟨#[112, 97, 114, 97, 109]⟩ : ByteArray)) then (bif (decide (a.2 > (0 : Int))) then (bif (decide (a.2 > (1 : Int))) then (Option.bind (Tf.lex_Name.f F a.1.name) (fun y25 => (bif (y25 == Bool.true) then (bif (seqB a.1.k (⟨#[]⟩ : ByteArray)) then (bif (a.1.n == (0 : Int)) then (bif (((List.length a.1.data) : Int) == (0 : Int)) then (some Bool.true)
 else (some (seqB a.1.op (⟨#[99, 111, 110, 115, 116]⟩ : ByteArray))))
 else (bif (seqB a.1.op (⟨#[112, 111, 119, 101, 114]⟩ : ByteArray)) then (bif (((List.length a.1.data) : Int) == (0 : Int)) then (some Bool.true)
 else (some (seqB a.1.op (⟨#[99, 111, 110, 115, 116]⟩ : ByteArray))))
 else (some Bool.false)))
 else (bif (seqB a.1.op (⟨#[115, 99, 97, 108, 101]⟩ : ByteArray)) then (bif (a.1.n == (0 : Int)) then (bif (((List.length a.1.data) : Int) == (0 : Int)) then (some Bool.true)
 else (some (seqB a.1.op (⟨#[99, 111, 110, 115, 116]⟩ : ByteArray))))
 else (bif (seqB a.1.op (⟨#[112, 111, 119, 101, 114]⟩ : ByteArray)) then (bif (((List.length a.1.data) : Int) == (0 : Int)) then (some Bool.true)
 else (some (seqB a.1.op (⟨#[99, 111, 110, 115, 116]⟩ : ByteArray))))
 else (some Bool.false)))
 else (some Bool.false)))
 else (some Bool.false))))
 else (bif (a.1.b == (0 : Int)) then (Option.bind (Tf.lex_Name.f F a.1.name) (fun y28 => (bif (y28 == Bool.true) then (bif (seqB a.1.k (⟨#[]⟩ : ByteArray)) then (bif (a.1.n == (0 : Int)) then (bif (((List.length a.1.data) : Int) == (0 : Int)) then (some Bool.true)
 else (some (seqB a.1.op (⟨#[99, 111, 110, 115, 116]⟩ : ByteArray))))
 else (bif (seqB a.1.op (⟨#[112, 111, 119, 101, 114]⟩ : ByteArray)) then (bif (((List.length a.1.data) : Int) == (0 : Int)) then (some Bool.true)
 else (some (seqB a.1.op (⟨#[99, 111, 110, 115, 116]⟩ : ByteArray))))
 else (some Bool.false)))
 else (bif (seqB a.1.op (⟨#[115, 99, 97, 108, 101]⟩ : ByteArray)) then (bif (a.1.n == (0 : Int)) then (bif (((List.length a.1.data) : Int) == (0 : Int)) then (some Bool.true)
 else (some (seqB a.1.op (⟨#[99, 111, 110, 115, 116]⟩ : ByteArray))))
 else (bif (seqB a.1.op (⟨#[112, 111, 119, 101, 114]⟩ : ByteArray)) then (bif (((List.length a.1.data) : Int) == (0 : Int)) then (some Bool.true)
 else (some (seqB a.1.op (⟨#[99, 111, 110, 115, 116]⟩ : ByteArray))))
 else (some Bool.false)))
 else (some Bool.false)))
 else (some Bool.false))))
 else (some Bool.false)))
 else (bif (a.1.a == (0 : Int)) then (bif (decide (a.2 > (1 : Int))) then (Option.bind (Tf.lex_Name.f F a.1.name) (fun y28 => (bif (y28 == Bool.true) then (bif (seqB a.1.k (⟨#[]⟩ : ByteArray)) then (bif (a.1.n == (0 : Int)) then (bif (((List.length a.1.data) : Int) == (0 : Int)) then (some Bool.true)
 else (some (seqB a.1.op (⟨#[99, 111, 110, 115, 116]⟩ : ByteArray))))
 else (bif (seqB a.1.op (⟨#[112, 111, 119, 101, 114]⟩ : ByteArray)) then (bif (((List.length a.1.data) : Int) == (0 : Int)) then (some Bool.true)
 else (some (seqB a.1.op (⟨#[99, 111, 110, 115, 116]⟩ : ByteArray))))
 else (some Bool.false)))
 else (bif (seqB a.1.op (⟨#[115, 99, 97, 108, 101]⟩ : ByteArray)) then (bif (a.1.n == (0 : Int)) then (bif (((List.length a.1.data) : Int) == (0 : Int)) then (some Bool.true)
 else (some (seqB a.1.op (⟨#[99, 111, 110, 115, 116]⟩ : ByteArray))))
 else (bif (seqB a.1.op (⟨#[112, 111, 119, 101, 114]⟩ : ByteArray)) then (bif (((List.length a.1.data) : Int) == (0 : Int)) then (some Bool.true)
 else (some (seqB a.1.op (⟨#[99, 111, 110, 115, 116]⟩ : ByteArray))))
 else (some Bool.false)))
 else (some Bool.false)))
 else (some Bool.false))))
 else (bif (a.1.b == (0 : Int)) then (Option.bind (Tf.lex_Name.f F a.1.name) (fun y31 => (bif (y31 == Bool.true) then (bif (seqB a.1.k (⟨#[]⟩ : ByteArray)) then (bif (a.1.n == (0 : Int)) then (bif (((List.length a.1.data) : Int) == (0 : Int)) then (some Bool.true)
 else (some (seqB a.1.op (⟨#[99, 111, 110, 115, 116]⟩ : ByteArray))))
 else (bif (seqB a.1.op (⟨#[112, 111, 119, 101, 114]⟩ : ByteArray)) then (bif (((List.length a.1.data) : Int) == (0 : Int)) then (some Bool.true)
 else (some (seqB a.1.op (⟨#[99, 111, 110, 115, 116]⟩ : ByteArray))))
 else (some Bool.false)))
 else (bif (seqB a.1.op (⟨#[115, 99, 97, 108, 101]⟩ : ByteArray)) then (bif (a.1.n == (0 : Int)) then (bif (((List.length a.1.data) : Int) == (0 : Int)) then (some Bool.true)
 else (some (seqB a.1.op (⟨#[99, 111, 110, 115, 116]⟩ : ByteArray))))
 else (bif (seqB a.1.op (⟨#[112, 111, 119, 101, 114]⟩ : ByteArray)) then (bif (((List.length a.1.data) : Int) == (0 : Int)) then (some Bool.true)
 else (some (seqB a.1.op (⟨#[99, 111, 110, 115, 116]⟩ : ByteArray))))
 else (some Bool.false)))
 else (some Bool.false)))
 else (some Bool.false))))
 else (some Bool.false)))
 else (some Bool.false)))
 else (bif (decide (a.2 > (0 : Int))) then (bif (decide (a.2 > (1 : Int))) then (Option.bind (Tf.lex_Name.f F a.1.name) (fun y28 => (bif (y28 == (seqB a.1.op (⟨#[105, 110, 112, 117, 116]⟩ : ByteArray))) then (bif (seqB a.1.op (⟨#[105, 110, 112, 117, 116]⟩ : ByteArray)) then (bif (seqB a.1.k (⟨#[]⟩ : ByteArray)) then (bif (a.1.n == (0 : Int)) then (bif (((List.length a.1.data) : Int) == (0 : Int)) then (some Bool.true)
 else (some (seqB a.1.op (⟨#[99, 111, 110, 115, 116]⟩ : ByteArray))))
 else (bif (seqB a.1.op (⟨#[112, 111, 119, 101, 114]⟩ : ByteArray)) then (bif (((List.length a.1.data) : Int) == (0 : Int)) then (some Bool.true)
 else (some (seqB a.1.op (⟨#[99, 111, 110, 115, 116]⟩ : ByteArray))))
 else (some Bool.false)))
 else (bif (seqB a.1.op (⟨#[115, 99, 97, 108, 101]⟩ : ByteArray)) then (bif (a.1.n == (0 : Int)) then (bif (((List.length a.1.data) : Int) == (0 : Int)) then (some Bool.true)
 else (some (seqB a.1.op (⟨#[99, 111, 110, 115, 116]⟩ : ByteArray))))
 else (bif (seqB a.1.op (⟨#[112, 111, 119, 101, 114]⟩ : ByteArray)) then (bif (((List.length a.1.data) : Int) == (0 : Int)) then (some Bool.true)
 else (some (seqB a.1.op (⟨#[99, 111, 110, 115, 116]⟩ : ByteArray))))
 else (some Bool.false)))
 else (some Bool.false)))
 else (bif (seqB a.1.name (⟨#[]⟩ : ByteArray)) then (bif (seqB a.1.k (⟨#[]⟩ : ByteArray)) then (bif (a.1.n == (0 : Int)) then (bif (((List.length a.1.data) : Int) == (0 : Int)) then (some Bool.true)
 else (some (seqB a.1.op (⟨#[99, 111, 110, 115, 116]⟩ : ByteArray))))
 else (bif (seqB a.1.op (⟨#[112, 111, 119, 101, 114]⟩ : ByteArray)) then (bif (((List.length a.1.data) : Int) == (0 : Int)) then (some Bool.true)
 else (some (seqB a.1.op (⟨#[99, 111, 110, 115, 116]⟩ : ByteArray))))
 else (some Bool.false)))
 else (bif (seqB a.1.op (⟨#[115, 99, 97, 108, 101]⟩ : ByteArray)) then (bif (a.1.n == (0 : Int)) then (bif (((List.length a.1.data) : Int) == (0 : Int)) then (some Bool.true)
 else (some (seqB a.1.op (⟨#[99, 111, 110, 115, 116]⟩ : ByteArray))))
 else (bif (seqB a.1.op (⟨#[112, 111, 119, 101, 114]⟩ : ByteArray)) then (bif (((List.length a.1.data) : Int) == (0 : Int)) then (some Bool.true)
 else (some (seqB a.1.op (⟨#[99, 111, 110, 115, 116]⟩ : ByteArray))))
 else (some Bool.false)))
 else (some Bool.false)))
 else (some Bool.false)))
 else (some Bool.false))))
 else (bif (a.1.b == (0 : Int)) then (Option.bind (Tf.lex_Name.f F a.1.name) (fun y31 => (bif (y31 == (seqB a.1.op (⟨#[105, 110, 112, 117, 116]⟩ : ByteArray))) then (bif (seqB a.1.op (⟨#[105, 110, 112, 117, 116]⟩ : ByteArray)) then (bif (seqB a.1.k (⟨#[]⟩ : ByteArray)) then (bif (a.1.n == (0 : Int)) then (bif (((List.length a.1.data) : Int) == (0 : Int)) then (some Bool.true)
 else (some (seqB a.1.op (⟨#[99, 111, 110, 115, 116]⟩ : ByteArray))))
 else (bif (seqB a.1.op (⟨#[112, 111, 119, 101, 114]⟩ : ByteArray)) then (bif (((List.length a.1.data) : Int) == (0 : Int)) then (some Bool.true)
 else (some (seqB a.1.op (⟨#[99, 111, 110, 115, 116]⟩ : ByteArray))))
 else (some Bool.false)))
 else (bif (seqB a.1.op (⟨#[115, 99, 97, 108, 101]⟩ : ByteArray)) then (bif (a.1.n == (0 : Int)) then (bif (((List.length a.1.data) : Int) == (0 : Int)) then (some Bool.true)
 else (some (seqB a.1.op (⟨#[99, 111, 110, 115, 116]⟩ : ByteArray))))
 else (bif (seqB a.1.op (⟨#[112, 111, 119, 101, 114]⟩ : ByteArray)) then (bif (((List.length a.1.data) : Int) == (0 : Int)) then (some Bool.true)
 else (some (seqB a.1.op (⟨#[99, 111, 110, 115, 116]⟩ : ByteArray))))
 else (some Bool.false)))
 else (some Bool.false)))
 else (bif (seqB a.1.name (⟨#[]⟩ : ByteArray)) then (bif (seqB a.1.k (⟨#[]⟩ : ByteArray)) then (bif (a.1.n == (0 : Int)) then (bif (((List.length a.1.data) : Int) == (0 : Int)) then (some Bool.true)
 else (some (seqB a.1.op (⟨#[99, 111, 110, 115, 116]⟩ : ByteArray))))
 else (bif (seqB a.1.op (⟨#[112, 111, 119, 101, 114]⟩ : ByteArray)) then (bif (((List.length a.1.data) : Int) == (0 : Int)) then (some Bool.true)
 else (some (seqB a.1.op (⟨#[99, 111, 110, 115, 116]⟩ : ByteArray))))
 else (some Bool.false)))
 else (bif (seqB a.1.op (⟨#[115, 99, 97, 108, 101]⟩ : ByteArray)) then (bif (a.1.n == (0 : Int)) then (bif (((List.length a.1.data) : Int) == (0 : Int)) then (some Bool.true)
 else (some (seqB a.1.op (⟨#[99, 111, 110, 115, 116]⟩ : ByteArray))))
 else (bif (seqB a.1.op (⟨#[112, 111, 119, 101, 114]⟩ : ByteArray)) then (bif (((List.length a.1.data) : Int) == (0 : Int)) then (some Bool.true)
 else (some (seqB a.1.op (⟨#[99, 111, 110, 115, 116]⟩ : ByteArray))))
 else (some Bool.false)))
 else (some Bool.false)))
 else (some Bool.false)))
 else (some Bool.false))))
 else (some Bool.false)))
 else (bif (a.1.a == (0 : Int)) then (bif (decide (a.2 > (1 : Int))) then (Option.bind (Tf.lex_Name.f F a.1.name) (fun y31 => (bif (y31 == (seqB a.1.op (⟨#[105, 110, 112, 117, 116]⟩ : ByteArray))) then (bif (seqB a.1.op (⟨#[105, 110, 112, 117, 116]⟩ : ByteArray)) then (bif (seqB a.1.k (⟨#[]⟩ : ByteArray)) then (bif (a.1.n == (0 : Int)) then (bif (((List.length a.1.data) : Int) == (0 : Int)) then (some Bool.true)
 else (some (seqB a.1.op (⟨#[99, 111, 110, 115, 116]⟩ : ByteArray))))
 else (bif (seqB a.1.op (⟨#[112, 111, 119, 101, 114]⟩ : ByteArray)) then (bif (((List.length a.1.data) : Int) == (0 : Int)) then (some Bool.true)
 else (some (seqB a.1.op (⟨#[99, 111, 110, 115, 116]⟩ : ByteArray))))
 else (some Bool.false)))
 else (bif (seqB a.1.op (⟨#[115, 99, 97, 108, 101]⟩ : ByteArray)) then (bif (a.1.n == (0 : Int)) then (bif (((List.length a.1.data) : Int) == (0 : Int)) then (some Bool.true)
 else (some (seqB a.1.op (⟨#[99, 111, 110, 115, 116]⟩ : ByteArray))))
 else (bif (seqB a.1.op (⟨#[112, 111, 119, 101, 114]⟩ : ByteArray)) then (bif (((List.length a.1.data) : Int) == (0 : Int)) then (some Bool.true)
 else (some (seqB a.1.op (⟨#[99, 111, 110, 115, 116]⟩ : ByteArray))))
 else (some Bool.false)))
 else (some Bool.false)))
 else (bif (seqB a.1.name (⟨#[]⟩ : ByteArray)) then (bif (seqB a.1.k (⟨#[]⟩ : ByteArray)) then (bif (a.1.n == (0 : Int)) then (bif (((List.length a.1.data) : Int) == (0 : Int)) then (some Bool.true)
 else (some (seqB a.1.op (⟨#[99, 111, 110, 115, 116]⟩ : ByteArray))))
 else (bif (seqB a.1.op (⟨#[112, 111, 119, 101, 114]⟩ : ByteArray)) then (bif (((List.length a.1.data) : Int) == (0 : Int)) then (some Bool.true)
 else (some (seqB a.1.op (⟨#[99, 111, 110, 115, 116]⟩ : ByteArray))))
 else (some Bool.false)))
 else (bif (seqB a.1.op (⟨#[115, 99, 97, 108, 101]⟩ : ByteArray)) then (bif (a.1.n == (0 : Int)) then (bif (((List.length a.1.data) : Int) == (0 : Int)) then (some Bool.true)
 else (some (seqB a.1.op (⟨#[99, 111, 110, 115, 116]⟩ : ByteArray))))
 else (bif (seqB a.1.op (⟨#[112, 111, 119, 101, 114]⟩ : ByteArray)) then (bif (((List.length a.1.data) : Int) == (0 : Int)) then (some Bool.true)
 else (some (seqB a.1.op (⟨#[99, 111, 110, 115, 116]⟩ : ByteArray))))
 else (some Bool.false)))
 else (some Bool.false)))
 else (some Bool.false)))
 else (some Bool.false))))
 else (bif (a.1.b == (0 : Int)) then (Option.bind (Tf.lex_Name.f F a.1.name) (fun y34 => (bif (y34 == (seqB a.1.op (⟨#[105, 110, 112, 117, 116]⟩ : ByteArray))) then (bif (seqB a.1.op (⟨#[105, 110, 112, 117, 116]⟩ : ByteArray)) then (bif (seqB a.1.k (⟨#[]⟩ : ByteArray)) then (bif (a.1.n == (0 : Int)) then (bif (((List.length a.1.data) : Int) == (0 : Int)) then (some Bool.true)
 else (some (seqB a.1.op (⟨#[99, 111, 110, 115, 116]⟩ : ByteArray))))
 else (bif (seqB a.1.op (⟨#[112, 111, 119, 101, 114]⟩ : ByteArray)) then (bif (((List.length a.1.data) : Int) == (0 : Int)) then (some Bool.true)
 else (some (seqB a.1.op (⟨#[99, 111, 110, 115, 116]⟩ : ByteArray))))
 else (some Bool.false)))
 else (bif (seqB a.1.op (⟨#[115, 99, 97, 108, 101]⟩ : ByteArray)) then (bif (a.1.n == (0 : Int)) then (bif (((List.length a.1.data) : Int) == (0 : Int)) then (some Bool.true)
 else (some (seqB a.1.op (⟨#[99, 111, 110, 115, 116]⟩ : ByteArray))))
 else (bif (seqB a.1.op (⟨#[112, 111, 119, 101, 114]⟩ : ByteArray)) then (bif (((List.length a.1.data) : Int) == (0 : Int)) then (some Bool.true)
 else (some (seqB a.1.op (⟨#[99, 111, 110, 115, 116]⟩ : ByteArray))))
 else (some Bool.false)))
 else (some Bool.false)))
 else (bif (seqB a.1.name (⟨#[]⟩ : ByteArray)) then (bif (seqB a.1.k (⟨#[]⟩ : ByteArray)) then (bif (a.1.n == (0 : Int)) then (bif (((List.length a.1.data) : Int) == (0 : Int)) then (some Bool.true)
 else (some (seqB a.1.op (⟨#[99, 111, 110, 115, 116]⟩ : ByteArray))))
 else (bif (seqB a.1.op (⟨#[112, 111, 119, 101, 114]⟩ : ByteArray)) then (bif (((List.length a.1.data) : Int) == (0 : Int)) then (some Bool.true)
 else (some (seqB a.1.op (⟨#[99, 111, 110, 115, 116]⟩ : ByteArray))))
 else (some Bool.false)))
 else (bif (seqB a.1.op (⟨#[115, 99, 97, 108, 101]⟩ : ByteArray)) then (bif (a.1.n == (0 : Int)) then (bif (((List.length a.1.data) : Int) == (0 : Int)) then (some Bool.true)
 else (some (seqB a.1.op (⟨#[99, 111, 110, 115, 116]⟩ : ByteArray))))
 else (bif (seqB a.1.op (⟨#[112, 111, 119, 101, 114]⟩ : ByteArray)) then (bif (((List.length a.1.data) : Int) == (0 : Int)) then (some Bool.true)
 else (some (seqB a.1.op (⟨#[99, 111, 110, 115, 116]⟩ : ByteArray))))
 else (some Bool.false)))
 else (some Bool.false)))
 else (some Bool.false)))
 else (some Bool.false))))
 else (some Bool.false)))
 else (some Bool.false))))
theorem Tf.graph_bare.f_ok (F : Nat) (a) : exec tyT (look [(80, Tf.lex_Name.e F)] : Fns) 76 (look [] : Loops) Tf.graph_bare.c (init [.v 206, .p] (encKs [.rc 6, .int .i64] a)) (finT (look [(80, Tf.lex_Name.e F)] : Fns) (⟨[.v 206, .p], [.p]⟩ : Sig) [4] [.pure] [.bool]) = Tf.graph_bare.f F a := by kernel_rfl
def Tf.graph_bare.e (F : Nat) : Fn := mkFn (⟨[.v 206, .p], [.p]⟩ : Sig) [.rc 6, .int .i64] [.pure] [.bool] (Tf.graph_bare.f F)
theorem Tf.graph_bare.ok (F : Nat) : EntryOk Proofs.Tryz.prog tyT.G 74 (Tf.graph_bare.e F) :=
  fn_ok tyT_ok rfl mix (.cons (Tf.lex_Name.ok F) .nil) (Λ := (look [] : Loops)) (fn := Proofs.Tryz.f74) (c := Tf.graph_bare.c) (LoopsOk.of (bs := []) (by kernel_rfl) .nil) (by kernel_rfl) (by kernel_rfl) (by kernel_rfl) (by kernel_rfl) (res1 (by kernel_rfl)) (by decide) (Tf.graph_bare.f_ok F)
noncomputable def Tf.slices_Equal___int_int_.c : Code := (Proofs.Tryz.f42.body).getD .skip
noncomputable def Tf.slices_Equal___int_int_.b4 : Code := codeAt [1, 1, 0, 1, 0, 0] Tf.slices_Equal___int_int_.c
def Tf.slices_Equal___int_int_.s4 (F : Nat) (L : (Int × ((List Int) × ((List Int) × Int))) → Option (Bool ⊕ Unit)) (x : (Int × ((List Int) × ((List Int) × Int)))) : Option (Bool ⊕ Unit) :=
 (bif (decide (x.1 < x.2.2.2)) then (bif (inR x.1 (List.length x.2.2.1)) then (bif (inR x.1 (List.length x.2.1)) then (bif ((List.getD x.2.2.1 (Int.toNat x.1) (0 : Int)) != (List.getD x.2.1 (Int.toNat x.1) (0 : Int))) then (some (.inl Bool.false))
 else (L ((IntKind.wrap .i64 (x.1 + (1 : Int))), (x.2.1, (x.2.2.1, x.2.2.2)))))
 else none)
 else none)
 else (some (.inr ())))
def Tf.slices_Equal___int_int_.l4 (F : Nat) : (Int × ((List Int) × ((List Int) × Int))) → Option (Bool ⊕ Unit) := iter (Tf.slices_Equal___int_int_.s4 F) F
theorem Tf.slices_Equal___int_int_.s4_ok (F : Nat) (L a) : exec tyT (look [] : Fns) 26 (look [] : Loops) Tf.slices_Equal___int_int_.b4 (rebuild [.slot 13, .view 1 0, .view 0 0, .slot 12] (encKs [.int .i64, .sl 0, .sl 0, .int .i64] a)) (bodyK [.slot 13, .view 1 0, .view 0 0, .slot 12] [.int .i64, .sl 0, .sl 0, .int .i64] [⟨.ret, [.slot 4], [.bool]⟩, ⟨.exit 0, [], []⟩] L) = Tf.slices_Equal___int_int_.s4 F L a := by kernel_rfl
theorem Tf.slices_Equal___int_int_.l4_ok (F : Nat) : LoopOk Proofs.Tryz.prog tyT.G 26 Tf.slices_Equal___int_int_.b4 (fun st κ => hand [.slot 13, .view 1 0, .view 0 0, .slot 12] [.int .i64, .sl 0, .sl 0, .int .i64] [⟨.ret, [.slot 4], [.bool]⟩, ⟨.exit 0, [], []⟩] (Tf.slices_Equal___int_int_.l4 F) st κ) :=
  loop_ok tyT_ok rfl mix .nil (Λ := (look [] : Loops)) (LoopsOk.of (bs := []) (by kernel_rfl) .nil) (Tf.slices_Equal___int_int_.s4_ok F) F
def Tf.slices_Equal___int_int_.f (F : Nat) (a : ((List Int) × (List Int))) : Option Bool :=
 (bif (((List.length a.1) : Int) != ((List.length a.2) : Int)) then (some Bool.false)
 else (Option.bind (Tf.slices_Equal___int_int_.l4 F ((0 : Int), (a.2, (a.1, ((List.length a.1) : Int))))) (fun y12 => (sumE y12 (fun y13 => (some y13)) (fun y13 => (some Bool.true))))))
theorem Tf.slices_Equal___int_int_.f_ok (F : Nat) (a) : exec tyT (look [] : Fns) 26 (look [(4, fun st κ => hand [.slot 13, .view 1 0, .view 0 0, .slot 12] [.int .i64, .sl 0, .sl 0, .int .i64] [⟨.ret, [.slot 4], [.bool]⟩, ⟨.exit 0, [], []⟩] (Tf.slices_Equal___int_int_.l4 F) st κ)] : Loops) Tf.slices_Equal___int_int_.c (init [.v 0, .v 0] (encKs [.sl 0, .sl 0] a)) (finT (look [] : Fns) (⟨[.v 0, .v 0], [.p]⟩ : Sig) [4] [.pure] [.bool]) = Tf.slices_Equal___int_int_.f F a := by kernel_rfl
def Tf.slices_Equal___int_int_.e (F : Nat) : Fn := mkFn (⟨[.v 0, .v 0], [.p]⟩ : Sig) [.sl 0, .sl 0] [.pure] [.bool] (Tf.slices_Equal___int_int_.f F)
theorem Tf.slices_Equal___int_int_.ok (F : Nat) : EntryOk Proofs.Tryz.prog tyT.G 42 (Tf.slices_Equal___int_int_.e F) :=
  fn_ok tyT_ok rfl mix .nil (Λ := (look [(4, fun st κ => hand [.slot 13, .view 1 0, .view 0 0, .slot 12] [.int .i64, .sl 0, .sl 0, .int .i64] [⟨.ret, [.slot 4], [.bool]⟩, ⟨.exit 0, [], []⟩] (Tf.slices_Equal___int_int_.l4 F) st κ)] : Loops)) (fn := Proofs.Tryz.f42) (c := Tf.slices_Equal___int_int_.c) (LoopsOk.of (bs := [Tf.slices_Equal___int_int_.b4]) (by kernel_rfl) (.cons rfl (Tf.slices_Equal___int_int_.l4_ok F) .nil)) (by kernel_rfl) (by kernel_rfl) (by kernel_rfl) (by kernel_rfl) (res1 (by kernel_rfl)) (by decide) (Tf.slices_Equal___int_int_.f_ok F)
noncomputable def Tf.shape_Same.c : Code := (Proofs.Tryz.f21.body).getD .skip
def Tf.shape_Same.f (F : Nat) (a : ((List Int) × (List Int))) : Option Bool :=
 (Option.bind (Tf.slices_Equal___int_int_.f F (a.1, a.2)) (fun y7 => (some y7)))
theorem Tf.shape_Same.f_ok (F : Nat) (a) : exec tyT (look [(42, Tf.slices_Equal___int_int_.e F)] : Fns) 8 (look [] : Loops) Tf.shape_Same.c (init [.v 0, .v 0] (encKs [.sl 0, .sl 0] a)) (finT (look [(42, Tf.slices_Equal___int_int_.e F)] : Fns) (⟨[.v 0, .v 0], [.p]⟩ : Sig) [4] [.pure] [.bool]) = Tf.shape_Same.f F a := by kernel_rfl
def Tf.shape_Same.e (F : Nat) : Fn := mkFn (⟨[.v 0, .v 0], [.p]⟩ : Sig) [.sl 0, .sl 0] [.pure] [.bool] (Tf.shape_Same.f F)
theorem Tf.shape_Same.ok (F : Nat) : EntryOk Proofs.Tryz.prog tyT.G 21 (Tf.shape_Same.e F) :=
  fn_ok tyT_ok rfl mix (.cons (Tf.slices_Equal___int_int_.ok F) .nil) (Λ := (look [] : Loops)) (fn := Proofs.Tryz.f21) (c := Tf.shape_Same.c) (LoopsOk.of (bs := []) (by kernel_rfl) .nil) (by kernel_rfl) (by kernel_rfl) (by kernel_rfl) (by kernel_rfl) (res1 (by kernel_rfl)) (by decide) (Tf.shape_Same.f_ok F)
noncomputable def Tf.graph_of_1.c : Code := (Proofs.Tryz.f95.body).getD .skip
def Tf.graph_of_1.f (F : Nat) (a : ByteArray) : Option Bool :=
 (Option.bind (Tf.rat_Right.f F a) (fun y6 => (some (!y6))))
theorem Tf.graph_of_1.f_ok (F : Nat) (a) : exec tyT (look [(76, Tf.rat_Right.e F)] : Fns) 6 (look [] : Loops) Tf.graph_of_1.c (init [.p] (encKs [.str] a)) (finT (look [(76, Tf.rat_Right.e F)] : Fns) (⟨[.p], [.p]⟩ : Sig) [2] [.pure] [.bool]) = Tf.graph_of_1.f F a := by kernel_rfl
def Tf.graph_of_1.e (F : Nat) : Fn := mkFn (⟨[.p], [.p]⟩ : Sig) [.str] [.pure] [.bool] (Tf.graph_of_1.f F)
theorem Tf.graph_of_1.ok (F : Nat) : EntryOk Proofs.Tryz.prog tyT.G 95 (Tf.graph_of_1.e F) :=
  fn_ok tyT_ok rfl mix (.cons (Tf.rat_Right.ok F) .nil) (Λ := (look [] : Loops)) (fn := Proofs.Tryz.f95) (c := Tf.graph_of_1.c) (LoopsOk.of (bs := []) (by kernel_rfl) .nil) (by kernel_rfl) (by kernel_rfl) (by kernel_rfl) (by kernel_rfl) (res1 (by kernel_rfl)) (by decide) (Tf.graph_of_1.f_ok F)
noncomputable def Tf.slices_IndexFunc___string_string__graph_of_1.c : Code := (Proofs.Tryz.f97.body).getD .skip
noncomputable def Tf.slices_IndexFunc___string_string__graph_of_1.b2 : Code := codeAt [1, 0, 1, 0, 0] Tf.slices_IndexFunc___string_string__graph_of_1.c
def Tf.slices_IndexFunc___string_string__graph_of_1.s2 (F : Nat) (L : (Int × ((List ByteArray) × (Unit × Int))) → Option (Int ⊕ Unit)) (x : (Int × ((List ByteArray) × (Unit × Int)))) : Option (Int ⊕ Unit) :=
 (bif (decide (x.1 < x.2.2.2)) then (bif (inR x.1 (List.length x.2.1)) then (Option.bind (Tf.graph_of_1.f F (List.getD x.2.1 (Int.toNat x.1) (dflt 4))) (fun y17 => (bif y17 then (some (.inl x.1))
 else (L ((IntKind.wrap .i64 (x.1 + (1 : Int))), (x.2.1, ((), x.2.2.2)))))))
 else none)
 else (some (.inr ())))
def Tf.slices_IndexFunc___string_string__graph_of_1.l2 (F : Nat) : (Int × ((List ByteArray) × (Unit × Int))) → Option (Int ⊕ Unit) := iter (Tf.slices_IndexFunc___string_string__graph_of_1.s2 F) F
theorem Tf.slices_IndexFunc___string_string__graph_of_1.s2_ok (F : Nat) (L a) : exec tyT (look [(95, Tf.graph_of_1.e F)] : Fns) 19 (look [] : Loops) Tf.slices_IndexFunc___string_string__graph_of_1.b2 (rebuild [.slot 8, .view 0 4, .slot 1, .slot 7] (encKs [.int .i64, .sl 4, .fn0 95, .int .i64] a)) (bodyK [.slot 8, .view 0 4, .slot 1, .slot 7] [.int .i64, .sl 4, .fn0 95, .int .i64] [⟨.ret, [.slot 4], [.int .i64]⟩, ⟨.exit 0, [], []⟩] L) = Tf.slices_IndexFunc___string_string__graph_of_1.s2 F L a := by kernel_rfl
theorem Tf.slices_IndexFunc___string_string__graph_of_1.l2_ok (F : Nat) : LoopOk Proofs.Tryz.prog tyT.G 19 Tf.slices_IndexFunc___string_string__graph_of_1.b2 (fun st κ => hand [.slot 8, .view 0 4, .slot 1, .slot 7] [.int .i64, .sl 4, .fn0 95, .int .i64] [⟨.ret, [.slot 4], [.int .i64]⟩, ⟨.exit 0, [], []⟩] (Tf.slices_IndexFunc___string_string__graph_of_1.l2 F) st κ) :=
  loop_ok tyT_ok rfl mix (.cons (Tf.graph_of_1.ok F) .nil) (Λ := (look [] : Loops)) (LoopsOk.of (bs := []) (by kernel_rfl) .nil) (Tf.slices_IndexFunc___string_string__graph_of_1.s2_ok F) F
def Tf.slices_IndexFunc___string_string__graph_of_1.f (F : Nat) (a : ((List ByteArray) × Unit)) : Option Int :=
 (Option.bind (Tf.slices_IndexFunc___string_string__graph_of_1.l2 F ((0 : Int), (a.1, ((), ((List.length a.1) : Int))))) (fun y7 => (sumE y7 (fun y8 => (some y8)) (fun y8 => (some (-(1 : Int)))))))
theorem Tf.slices_IndexFunc___string_string__graph_of_1.f_ok (F : Nat) (a) : exec tyT (look [(95, Tf.graph_of_1.e F)] : Fns) 19 (look [(2, fun st κ => hand [.slot 8, .view 0 4, .slot 1, .slot 7] [.int .i64, .sl 4, .fn0 95, .int .i64] [⟨.ret, [.slot 4], [.int .i64]⟩, ⟨.exit 0, [], []⟩] (Tf.slices_IndexFunc___string_string__graph_of_1.l2 F) st κ)] : Loops) Tf.slices_IndexFunc___string_string__graph_of_1.c (init [.v 4, .p] (encKs [.sl 4, .fn0 95] a)) (finT (look [(95, Tf.graph_of_1.e F)] : Fns) (⟨[.v 4, .p], [.p]⟩ : Sig) [4] [.pure] [.int .i64]) = Tf.slices_IndexFunc___string_string__graph_of_1.f F a := by kernel_rfl
def Tf.slices_IndexFunc___string_string__graph_of_1.e (F : Nat) : Fn := mkFn (⟨[.v 4, .p], [.p]⟩ : Sig) [.sl 4, .fn0 95] [.pure] [.int .i64] (Tf.slices_IndexFunc___string_string__graph_of_1.f F)
theorem Tf.slices_IndexFunc___string_string__graph_of_1.ok (F : Nat) : EntryOk Proofs.Tryz.prog tyT.G 97 (Tf.slices_IndexFunc___string_string__graph_of_1.e F) :=
  fn_ok tyT_ok rfl mix (.cons (Tf.graph_of_1.ok F) .nil) (Λ := (look [(2, fun st κ => hand [.slot 8, .view 0 4, .slot 1, .slot 7] [.int .i64, .sl 4, .fn0 95, .int .i64] [⟨.ret, [.slot 4], [.int .i64]⟩, ⟨.exit 0, [], []⟩] (Tf.slices_IndexFunc___string_string__graph_of_1.l2 F) st κ)] : Loops)) (fn := Proofs.Tryz.f97) (c := Tf.slices_IndexFunc___string_string__graph_of_1.c) (LoopsOk.of (bs := [Tf.slices_IndexFunc___string_string__graph_of_1.b2]) (by kernel_rfl) (.cons rfl (Tf.slices_IndexFunc___string_string__graph_of_1.l2_ok F) .nil)) (by kernel_rfl) (by kernel_rfl) (by kernel_rfl) (by kernel_rfl) (res1 (by kernel_rfl)) (by decide) (Tf.slices_IndexFunc___string_string__graph_of_1.f_ok F)
noncomputable def Tf.slices_ContainsFunc___string_string__graph_of_1.c : Code := (Proofs.Tryz.f78.body).getD .skip
def Tf.slices_ContainsFunc___string_string__graph_of_1.f (F : Nat) (a : ((List ByteArray) × Unit)) : Option Bool :=
 (Option.bind (Tf.slices_IndexFunc___string_string__graph_of_1.f F (a.1, ())) (fun y7 => (some (decide (y7 ≥ (0 : Int))))))
theorem Tf.slices_ContainsFunc___string_string__graph_of_1.f_ok (F : Nat) (a) : exec tyT (look [(97, Tf.slices_IndexFunc___string_string__graph_of_1.e F), (95, Tf.graph_of_1.e F)] : Fns) 9 (look [] : Loops) Tf.slices_ContainsFunc___string_string__graph_of_1.c (init [.v 4, .p] (encKs [.sl 4, .fn0 95] a)) (finT (look [(97, Tf.slices_IndexFunc___string_string__graph_of_1.e F), (95, Tf.graph_of_1.e F)] : Fns) (⟨[.v 4, .p], [.p]⟩ : Sig) [4] [.pure] [.bool]) = Tf.slices_ContainsFunc___string_string__graph_of_1.f F a := by kernel_rfl
def Tf.slices_ContainsFunc___string_string__graph_of_1.e (F : Nat) : Fn := mkFn (⟨[.v 4, .p], [.p]⟩ : Sig) [.sl 4, .fn0 95] [.pure] [.bool] (Tf.slices_ContainsFunc___string_string__graph_of_1.f F)
theorem Tf.slices_ContainsFunc___string_string__graph_of_1.ok (F : Nat) : EntryOk Proofs.Tryz.prog tyT.G 78 (Tf.slices_ContainsFunc___string_string__graph_of_1.e F) :=
  fn_ok tyT_ok rfl mix (.cons (Tf.slices_IndexFunc___string_string__graph_of_1.ok F) (.cons (Tf.graph_of_1.ok F) .nil)) (Λ := (look [] : Loops)) (fn := Proofs.Tryz.f78) (c := Tf.slices_ContainsFunc___string_string__graph_of_1.c) (LoopsOk.of (bs := []) (by kernel_rfl) .nil) (by kernel_rfl) (by kernel_rfl) (by kernel_rfl) (by kernel_rfl) (res1 (by kernel_rfl)) (by decide) (Tf.slices_ContainsFunc___string_string__graph_of_1.f_ok F)
noncomputable def Tf.graph_of.c : Code := (Proofs.Tryz.f75.body).getD .skip
def Tf.graph_of.f (F : Nat) (a : (Node × ((List Int) × (List Int)))) : Option ((List Int) × Bool) :=
 (bif (seqB a.1.op (⟨#[99, 111, 110, 115, 116]⟩ : ByteArray)) then (Option.bind (Tf.shape_Size.f F a.1.shape) (fun y18 => (bif (((List.length a.1.data) : Int) == y18) then (Option.bind (Tf.slices_ContainsFunc___string_string__graph_of_1.f F (a.1.data, ())) (fun y24 => (some (a.1.shape, (!y24)))))
 else (some (a.1.shape, Bool.false)))))
 else (bif (seqB a.1.op (⟨#[97, 100, 100]⟩ : ByteArray)) then (Option.bind (Tf.shape_Same.f F (a.2.1, a.2.2)) (fun y16 => (some (a.2.1, y16))))
 else (bif (seqB a.1.op (⟨#[115, 117, 98]⟩ : ByteArray)) then (Option.bind (Tf.shape_Same.f F (a.2.1, a.2.2)) (fun y18 => (some (a.2.1, y18))))
 else (bif (seqB a.1.op (⟨#[109, 117, 108]⟩ : ByteArray)) then (Option.bind (Tf.shape_Same.f F (a.2.1, a.2.2)) (fun y20 => (some (a.2.1, y20))))
 else (bif (seqB a.1.op (⟨#[109, 97, 120]⟩ : ByteArray)) then (Option.bind (Tf.shape_Same.f F (a.2.1, a.2.2)) (fun y22 => (some (a.2.1, y22))))
 else (bif (seqB a.1.op (⟨#[97, 98, 111, 118, 101]⟩ : ByteArray)) then (Option.bind (Tf.shape_Same.f F (a.2.1, a.2.2)) (fun y24 => (some (a.2.1, y24))))
 else (bif (seqB a.1.op (⟨#[109, 97, 116, 109, 117, 108]⟩ : ByteArray)) then (bif (((List.length a.2.1) : Int) != (2 : Int)) then (some (([] : List Int), Bool.false))
 else (bif (((List.length a.2.2) : Int) != (2 : Int)) then (some (([] : List Int), Bool.false))
 else (bif (inR (1 : Int) (List.length a.2.1)) then (bif (inR (0 : Int) (List.length a.2.2)) then (bif ((List.getD a.2.1 1 (0 : Int)) != (List.getD a.2.2 0 (0 : Int))) then (some (([] : List Int), Bool.false))
 else (bif (inR (0 : Int) (List.length a.2.1)) then (bif (inR (1 : Int) (List.length a.2.2)) then (some ((List.set (List.set (List.replicate 2 (0 : Int)) 0 (List.getD a.2.1 0 (0 : Int))) 1 (List.getD a.2.2 1 (0 : Int))), Bool.true))
 else none)
 else none))
 else none)
 else none)))
 else (bif (seqB a.1.op (⟨#[114, 101, 108, 117]⟩ : ByteArray)) then (some (a.2.1, Bool.true))
 else (bif (seqB a.1.op (⟨#[97, 98, 115]⟩ : ByteArray)) then (some (a.2.1, Bool.true))
 else (bif (seqB a.1.op (⟨#[115, 116, 101, 112]⟩ : ByteArray)) then (some (a.2.1, Bool.true))
 else (bif (seqB a.1.op (⟨#[115, 105, 103, 110]⟩ : ByteArray)) then (some (a.2.1, Bool.true))
 else (bif (seqB a.1.op (⟨#[115, 99, 97, 108, 101]⟩ : ByteArray)) then (Option.bind (Tf.rat_Right.f F a.1.k) (fun y36 => (some (a.2.1, y36))))
 else (bif (seqB a.1.op (⟨#[112, 111, 119, 101, 114]⟩ : ByteArray)) then (bif (decide (a.1.n ≥ (0 : Int))) then (some (a.2.1, (decide (a.1.n ≤ (6 : Int)))))
 else (some (a.2.1, Bool.false)))
 else (bif (seqB a.1.op (⟨#[116, 114, 97, 110, 115, 112, 111, 115, 101]⟩ : ByteArray)) then (bif (((List.length a.2.1) : Int) != (2 : Int)) then (some (([] : List Int), Bool.false))
 else (bif (inR (1 : Int) (List.length a.2.1)) then (bif (inR (0 : Int) (List.length a.2.1)) then (some ((List.set (List.set (List.replicate 2 (0 : Int)) 0 (List.getD a.2.1 1 (0 : Int))) 1 (List.getD a.2.1 0 (0 : Int))), Bool.true))
 else none)
 else none))
 else (bif (seqB a.1.op (⟨#[115, 117, 109]⟩ : ByteArray)) then (some (([] : List Int), Bool.true))
 else (bif (seqB a.1.op (⟨#[114, 101, 115, 104, 97, 112, 101]⟩ : ByteArray)) then (Option.bind (Tf.shape_Size.f F a.1.shape) (fun y45 => (Option.bind (Tf.shape_Size.f F a.2.1) (fun y48 => (some (a.1.shape, (y45 == y48)))))))
 else (bif (seqB a.1.op (⟨#[115, 112, 114, 101, 97, 100]⟩ : ByteArray)) then (some (a.1.shape, (((List.length a.2.1) : Int) == (0 : Int))))
 else (some (a.1.shape, Bool.true)))))))))))))))))))
theorem Tf.graph_of.f_ok (F : Nat) (a) : exec tyT (look [(21, Tf.shape_Same.e F), (76, Tf.rat_Right.e F), (78, Tf.slices_ContainsFunc___string_string__graph_of_1.e F), (82, Tf.shape_Size.e F), (95, Tf.graph_of_1.e F)] : Fns) 119 (look [] : Loops) Tf.graph_of.c (init [.v 206, .v 0, .v 0] (encKs [.rc 6, .sl 0, .sl 0] a)) (finT (look [(21, Tf.shape_Same.e F), (76, Tf.rat_Right.e F), (78, Tf.slices_ContainsFunc___string_string__graph_of_1.e F), (82, Tf.shape_Size.e F), (95, Tf.graph_of_1.e F)] : Fns) (⟨[.v 206, .v 0, .v 0], [.v 0, .p]⟩ : Sig) [6, 7] [.pure, .pure] [.sl 0, .bool]) = Tf.graph_of.f F a := by kernel_rfl
def Tf.graph_of.e (F : Nat) : Fn := mkFn (⟨[.v 206, .v 0, .v 0], [.v 0, .p]⟩ : Sig) [.rc 6, .sl 0, .sl 0] [.pure, .pure] [.sl 0, .bool] (Tf.graph_of.f F)
theorem Tf.graph_of.ok (F : Nat) : EntryOk Proofs.Tryz.prog tyT.G 75 (Tf.graph_of.e F) :=
  fn_ok tyT_ok rfl mix (.cons (Tf.shape_Same.ok F) (.cons (Tf.rat_Right.ok F) (.cons (Tf.slices_ContainsFunc___string_string__graph_of_1.ok F) (.cons (Tf.shape_Size.ok F) (.cons (Tf.graph_of_1.ok F) .nil))))) (Λ := (look [] : Loops)) (fn := Proofs.Tryz.f75) (c := Tf.graph_of.c) (LoopsOk.of (bs := []) (by kernel_rfl) .nil) (by kernel_rfl) (by kernel_rfl) (by kernel_rfl) (by kernel_rfl) (res2 (by kernel_rfl)) (by decide) (Tf.graph_of.f_ok F)
end Go.VI
