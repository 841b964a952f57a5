import Derived.Shelf.Strconv.Itoa3
import Derived.Shelf.SlSortCmp.NoneTotal
import Derived.Test.YtepljgpikfeklaaGreatDoorProg
import Derived.Test.YtepljgpikfeklaaGreatDoorQEngR
import Derived.Test.YtepljgpikfeklaaGreatDoorQVO
import Derived.Test.YtepljgpikfeklaaGreatDoorQWA
namespace Go.Proofs.YtepljgpikfeklaaGreatDoor
set_option linter.unusedVariables false
set_option linter.unusedSimpArgs false
open Go Go.Shelf
def laySp_ren : Go.Shelf.Ren := ⟨fun | 6 => 65 | 15 => 121 | 14 => 120 | 28 => 163 | 29 => 164 | 20 => 155 | 21 => 156 | 22 => 157 | 23 => 158 | 24 => 159 | 25 => 160 | 26 => 161 | 27 => 162 | 46 => 186 | 47 => 187 | 48 => 188 | 49 => 189 | 50 => 190 | 57 => 205 | n => n, fun | 22 => 94 | 24 => 134 | 25 => 137 | 3 => 3 | 39 => 183 | 0 => 0 | 53 => 218 | 55 => 77 | 4 => 4 | 46 => 212 | 45 => 211 | 50 => 191 | 5 => 5 | 9 => 9 | 66 => 238 | 70 => 242 | 76 => 252 | 77 => 253 | n => n, fun | n => n⟩
theorem laySp : Go.Proofs.SlLaysF0.n6 Tryz.prog laySp_ren := {
  mixed := by kernel_rfl
  f6 := ⟨Tryz.f65.name, by decide, Tryz.func65.trans (congrArg some (by kernel_rfl))⟩
  f14 := ⟨Tryz.f120.name, by decide, Tryz.func120.trans (congrArg some (by kernel_rfl))⟩
  f15 := Tryz.func121.trans (congrArg some (by kernel_rfl))
  f20 := ⟨Tryz.f155.name, by decide, Tryz.func155.trans (congrArg some (by kernel_rfl))⟩
  f21 := ⟨Tryz.f156.name, by decide, Tryz.func156.trans (congrArg some (by kernel_rfl))⟩
  f22 := ⟨Tryz.f157.name, by decide, Tryz.func157.trans (congrArg some (by kernel_rfl))⟩
  f23 := ⟨Tryz.f158.name, by decide, Tryz.func158.trans (congrArg some (by kernel_rfl))⟩
  f24 := ⟨Tryz.f159.name, by decide, Tryz.func159.trans (congrArg some (by kernel_rfl))⟩
  f25 := ⟨Tryz.f160.name, by decide, Tryz.func160.trans (congrArg some (by kernel_rfl))⟩
  f26 := ⟨Tryz.f161.name, by decide, Tryz.func161.trans (congrArg some (by kernel_rfl))⟩
  f27 := ⟨Tryz.f162.name, by decide, Tryz.func162.trans (congrArg some (by kernel_rfl))⟩
  f28 := Tryz.func163.trans (congrArg some (by kernel_rfl))
  f29 := Tryz.func164.trans (congrArg some (by kernel_rfl))
  f46 := ⟨Tryz.f186.name, by decide, Tryz.func186.trans (congrArg some (by kernel_rfl))⟩
  f47 := Tryz.func187.trans (congrArg some (by kernel_rfl))
  f48 := Tryz.func188.trans (congrArg some (by kernel_rfl))
  f49 := ⟨Tryz.f189.name, by decide, Tryz.func189.trans (congrArg some (by kernel_rfl))⟩
  f50 := ⟨Tryz.f190.name, by decide, Tryz.func190.trans (congrArg some (by kernel_rfl))⟩
  f57 := ⟨Tryz.f205.name, by decide, Tryz.func205.trans (congrArg some (by kernel_rfl))⟩
  t0 := Tryz.underlying0
  a0 := Tryz.isAgg0
  z0 := Tryz.sizeOf0
  v0 := Tryz.zeroValue0
  t3 := Tryz.underlying3
  a3 := Tryz.isAgg3
  z3 := Tryz.sizeOf3
  v3 := Tryz.zeroValue3
  t4 := Tryz.underlying4
  a4 := Tryz.isAgg4
  z4 := Tryz.sizeOf4
  v4 := Tryz.zeroValue4
  t5 := Tryz.underlying5
  a5 := Tryz.isAgg5
  z5 := Tryz.sizeOf5
  v5 := Tryz.zeroValue5
  t9 := Tryz.underlying9
  a9 := Tryz.isAgg9
  z9 := Tryz.sizeOf9
  v9 := Tryz.zeroValue9
  t22 := Tryz.underlying94
  a22 := Tryz.isAgg94
  z22 := Tryz.sizeOf94
  v22 := Tryz.zeroValue94
  t25 := Tryz.underlying137
  a25 := Tryz.isAgg137
  z25 := Tryz.sizeOf137
  v25 := Tryz.zeroValue137
  t39 := Tryz.underlying183
  a39 := Tryz.isAgg183
  z39 := Tryz.sizeOf183
  v39 := Tryz.zeroValue183
  t45 := Tryz.underlying211
  a45 := Tryz.isAgg211
  z45 := Tryz.sizeOf211
  v45 := Tryz.zeroValue211
  t46 := Tryz.underlying212
  a46 := Tryz.isAgg212
  z46 := Tryz.sizeOf212
  v46 := Tryz.zeroValue212
  t50 := Tryz.underlying191
  a50 := Tryz.isAgg191
  z50 := Tryz.sizeOf191
  v50 := Tryz.zeroValue191
  t53 := Tryz.underlying218
  a53 := Tryz.isAgg218
  z53 := Tryz.sizeOf218
  v53 := Tryz.zeroValue218
  t55 := Tryz.underlying77
  a55 := Tryz.isAgg77
  z55 := Tryz.sizeOf77
  v55 := Tryz.zeroValue77
  t66 := Tryz.underlying238
  a66 := Tryz.isAgg238
  z66 := Tryz.sizeOf238
  v66 := Tryz.zeroValue238
  t70 := Tryz.underlying242
  a70 := Tryz.isAgg242
  z70 := Tryz.sizeOf242
  v70 := Tryz.zeroValue242
  t76 := Tryz.underlying252
  a76 := Tryz.isAgg252
  z76 := Tryz.sizeOf252
  v76 := Tryz.zeroValue252
  t77 := Tryz.underlying253
  a77 := Tryz.isAgg253
  z77 := Tryz.sizeOf253
  v77 := Tryz.zeroValue253 }
def laySt0_ren : Go.Shelf.Ren := ⟨fun | 6 => 124 | 15 => 121 | 14 => 165 | 28 => 163 | 29 => 164 | 20 => 191 | 21 => 192 | 22 => 193 | 23 => 194 | 24 => 195 | 25 => 196 | 26 => 197 | 27 => 198 | 46 => 206 | 47 => 187 | 48 => 188 | 49 => 207 | 50 => 208 | 57 => 212 | n => n, fun | 22 => 67 | 24 => 9 | 25 => 107 | 3 => 3 | 39 => 183 | 0 => 0 | 53 => 218 | 55 => 77 | 4 => 4 | 46 => 212 | 45 => 211 | 50 => 191 | 5 => 5 | 9 => 9 | 66 => 238 | 70 => 242 | 76 => 252 | 77 => 253 | n => n, fun | n => n⟩
theorem laySt0 : Go.Proofs.SlLaysF0.n6 Tryz.prog laySt0_ren := {
  mixed := by kernel_rfl
  f6 := ⟨Tryz.f124.name, by decide, Tryz.func124.trans (congrArg some (by kernel_rfl))⟩
  f14 := ⟨Tryz.f165.name, by decide, Tryz.func165.trans (congrArg some (by kernel_rfl))⟩
  f15 := Tryz.func121.trans (congrArg some (by kernel_rfl))
  f20 := ⟨Tryz.f191.name, by decide, Tryz.func191.trans (congrArg some (by kernel_rfl))⟩
  f21 := ⟨Tryz.f192.name, by decide, Tryz.func192.trans (congrArg some (by kernel_rfl))⟩
  f22 := ⟨Tryz.f193.name, by decide, Tryz.func193.trans (congrArg some (by kernel_rfl))⟩
  f23 := ⟨Tryz.f194.name, by decide, Tryz.func194.trans (congrArg some (by kernel_rfl))⟩
  f24 := ⟨Tryz.f195.name, by decide, Tryz.func195.trans (congrArg some (by kernel_rfl))⟩
  f25 := ⟨Tryz.f196.name, by decide, Tryz.func196.trans (congrArg some (by kernel_rfl))⟩
  f26 := ⟨Tryz.f197.name, by decide, Tryz.func197.trans (congrArg some (by kernel_rfl))⟩
  f27 := ⟨Tryz.f198.name, by decide, Tryz.func198.trans (congrArg some (by kernel_rfl))⟩
  f28 := Tryz.func163.trans (congrArg some (by kernel_rfl))
  f29 := Tryz.func164.trans (congrArg some (by kernel_rfl))
  f46 := ⟨Tryz.f206.name, by decide, Tryz.func206.trans (congrArg some (by kernel_rfl))⟩
  f47 := Tryz.func187.trans (congrArg some (by kernel_rfl))
  f48 := Tryz.func188.trans (congrArg some (by kernel_rfl))
  f49 := ⟨Tryz.f207.name, by decide, Tryz.func207.trans (congrArg some (by kernel_rfl))⟩
  f50 := ⟨Tryz.f208.name, by decide, Tryz.func208.trans (congrArg some (by kernel_rfl))⟩
  f57 := ⟨Tryz.f212.name, by decide, Tryz.func212.trans (congrArg some (by kernel_rfl))⟩
  t0 := Tryz.underlying0
  a0 := Tryz.isAgg0
  z0 := Tryz.sizeOf0
  v0 := Tryz.zeroValue0
  t3 := Tryz.underlying3
  a3 := Tryz.isAgg3
  z3 := Tryz.sizeOf3
  v3 := Tryz.zeroValue3
  t4 := Tryz.underlying4
  a4 := Tryz.isAgg4
  z4 := Tryz.sizeOf4
  v4 := Tryz.zeroValue4
  t5 := Tryz.underlying5
  a5 := Tryz.isAgg5
  z5 := Tryz.sizeOf5
  v5 := Tryz.zeroValue5
  t9 := Tryz.underlying9
  a9 := Tryz.isAgg9
  z9 := Tryz.sizeOf9
  v9 := Tryz.zeroValue9
  t22 := Tryz.underlying67
  a22 := Tryz.isAgg67
  z22 := Tryz.sizeOf67
  v22 := Tryz.zeroValue67
  t25 := Tryz.underlying107
  a25 := Tryz.isAgg107
  z25 := Tryz.sizeOf107
  v25 := Tryz.zeroValue107
  t39 := Tryz.underlying183
  a39 := Tryz.isAgg183
  z39 := Tryz.sizeOf183
  v39 := Tryz.zeroValue183
  t45 := Tryz.underlying211
  a45 := Tryz.isAgg211
  z45 := Tryz.sizeOf211
  v45 := Tryz.zeroValue211
  t46 := Tryz.underlying212
  a46 := Tryz.isAgg212
  z46 := Tryz.sizeOf212
  v46 := Tryz.zeroValue212
  t50 := Tryz.underlying191
  a50 := Tryz.isAgg191
  z50 := Tryz.sizeOf191
  v50 := Tryz.zeroValue191
  t53 := Tryz.underlying218
  a53 := Tryz.isAgg218
  z53 := Tryz.sizeOf218
  v53 := Tryz.zeroValue218
  t55 := Tryz.underlying77
  a55 := Tryz.isAgg77
  z55 := Tryz.sizeOf77
  v55 := Tryz.zeroValue77
  t66 := Tryz.underlying238
  a66 := Tryz.isAgg238
  z66 := Tryz.sizeOf238
  v66 := Tryz.zeroValue238
  t70 := Tryz.underlying242
  a70 := Tryz.isAgg242
  z70 := Tryz.sizeOf242
  v70 := Tryz.zeroValue242
  t76 := Tryz.underlying252
  a76 := Tryz.isAgg252
  z76 := Tryz.sizeOf252
  v76 := Tryz.zeroValue252
  t77 := Tryz.underlying253
  a77 := Tryz.isAgg253
  z77 := Tryz.sizeOf253
  v77 := Tryz.zeroValue253 }
def laySt_ren : Go.Shelf.Ren := ⟨fun | 6 => 124 | 15 => 121 | 14 => 165 | 28 => 163 | 29 => 164 | 20 => 191 | 21 => 192 | 22 => 193 | 23 => 194 | 24 => 195 | 25 => 196 | 26 => 197 | 27 => 198 | 46 => 206 | 47 => 187 | 48 => 188 | 49 => 207 | 50 => 208 | 57 => 212 | n => n, fun | 22 => 67 | 24 => 9 | 25 => 107 | 3 => 3 | 39 => 183 | 0 => 0 | 53 => 218 | 55 => 77 | 4 => 4 | 46 => 212 | 45 => 211 | 50 => 191 | 5 => 5 | 9 => 9 | 66 => 238 | 70 => 242 | 76 => 252 | 77 => 253 | n => n, fun | n => n⟩
theorem laySt : Go.Proofs.SlLaysF.n6 Tryz.prog laySt_ren := {
  mixed := by kernel_rfl
  f6 := ⟨Tryz.f124.name, by decide, Tryz.func124.trans (congrArg some (by kernel_rfl))⟩
  f14 := ⟨Tryz.f165.name, by decide, Tryz.func165.trans (congrArg some (by kernel_rfl))⟩
  f15 := Tryz.func121.trans (congrArg some (by kernel_rfl))
  f20 := ⟨Tryz.f191.name, by decide, Tryz.func191.trans (congrArg some (by kernel_rfl))⟩
  f21 := ⟨Tryz.f192.name, by decide, Tryz.func192.trans (congrArg some (by kernel_rfl))⟩
  f22 := ⟨Tryz.f193.name, by decide, Tryz.func193.trans (congrArg some (by kernel_rfl))⟩
  f23 := ⟨Tryz.f194.name, by decide, Tryz.func194.trans (congrArg some (by kernel_rfl))⟩
  f24 := ⟨Tryz.f195.name, by decide, Tryz.func195.trans (congrArg some (by kernel_rfl))⟩
  f25 := ⟨Tryz.f196.name, by decide, Tryz.func196.trans (congrArg some (by kernel_rfl))⟩
  f26 := ⟨Tryz.f197.name, by decide, Tryz.func197.trans (congrArg some (by kernel_rfl))⟩
  f27 := ⟨Tryz.f198.name, by decide, Tryz.func198.trans (congrArg some (by kernel_rfl))⟩
  f28 := Tryz.func163.trans (congrArg some (by kernel_rfl))
  f29 := Tryz.func164.trans (congrArg some (by kernel_rfl))
  f46 := ⟨Tryz.f206.name, by decide, Tryz.func206.trans (congrArg some (by kernel_rfl))⟩
  f47 := Tryz.func187.trans (congrArg some (by kernel_rfl))
  f48 := Tryz.func188.trans (congrArg some (by kernel_rfl))
  f49 := ⟨Tryz.f207.name, by decide, Tryz.func207.trans (congrArg some (by kernel_rfl))⟩
  f50 := ⟨Tryz.f208.name, by decide, Tryz.func208.trans (congrArg some (by kernel_rfl))⟩
  f57 := ⟨Tryz.f212.name, by decide, Tryz.func212.trans (congrArg some (by kernel_rfl))⟩
  t0 := Tryz.underlying0
  a0 := Tryz.isAgg0
  z0 := Tryz.sizeOf0
  v0 := Tryz.zeroValue0
  t3 := Tryz.underlying3
  a3 := Tryz.isAgg3
  z3 := Tryz.sizeOf3
  v3 := Tryz.zeroValue3
  t4 := Tryz.underlying4
  a4 := Tryz.isAgg4
  z4 := Tryz.sizeOf4
  v4 := Tryz.zeroValue4
  t5 := Tryz.underlying5
  a5 := Tryz.isAgg5
  z5 := Tryz.sizeOf5
  v5 := Tryz.zeroValue5
  t9 := Tryz.underlying9
  a9 := Tryz.isAgg9
  z9 := Tryz.sizeOf9
  v9 := Tryz.zeroValue9
  t22 := Tryz.underlying67
  a22 := Tryz.isAgg67
  z22 := Tryz.sizeOf67
  v22 := Tryz.zeroValue67
  a24 := Tryz.isAgg9
  z24 := Tryz.sizeOf9
  t25 := Tryz.underlying107
  a25 := Tryz.isAgg107
  z25 := Tryz.sizeOf107
  v25 := Tryz.zeroValue107
  t39 := Tryz.underlying183
  a39 := Tryz.isAgg183
  z39 := Tryz.sizeOf183
  v39 := Tryz.zeroValue183
  t45 := Tryz.underlying211
  a45 := Tryz.isAgg211
  z45 := Tryz.sizeOf211
  v45 := Tryz.zeroValue211
  t46 := Tryz.underlying212
  a46 := Tryz.isAgg212
  z46 := Tryz.sizeOf212
  v46 := Tryz.zeroValue212
  t50 := Tryz.underlying191
  a50 := Tryz.isAgg191
  z50 := Tryz.sizeOf191
  v50 := Tryz.zeroValue191
  t53 := Tryz.underlying218
  a53 := Tryz.isAgg218
  z53 := Tryz.sizeOf218
  v53 := Tryz.zeroValue218
  t55 := Tryz.underlying77
  a55 := Tryz.isAgg77
  z55 := Tryz.sizeOf77
  v55 := Tryz.zeroValue77
  t66 := Tryz.underlying238
  a66 := Tryz.isAgg238
  z66 := Tryz.sizeOf238
  v66 := Tryz.zeroValue238
  t70 := Tryz.underlying242
  a70 := Tryz.isAgg242
  z70 := Tryz.sizeOf242
  v70 := Tryz.zeroValue242
  t76 := Tryz.underlying252
  a76 := Tryz.isAgg252
  z76 := Tryz.sizeOf252
  v76 := Tryz.zeroValue252
  t77 := Tryz.underlying253
  a77 := Tryz.isAgg253
  z77 := Tryz.sizeOf253
  v77 := Tryz.zeroValue253 }
def layItoa_ren : Go.Shelf.Ren := ⟨fun | 171 => 80 | 243 => 136 | 246 => 176 | 283 => 177 | 284 => 178 | 285 => 179 | 286 => 180 | 129 => 164 | 317 => 201 | 318 => 202 | 319 => 203 | 320 => 204 | 337 => 210 | 338 => 211 | n => n, fun | 3 => 3 | 9 => 9 | 2 => 2 | 4 => 4 | 171 => 231 | 0 => 0 | 53 => 77 | 37 => 148 | 5 => 5 | 173 => 233 | 212 => 250 | 51 => 218 | 20 => 20 | 213 => 251 | 46 => 183 | 232 => 258 | 233 => 259 | n => n, fun | 17 => 1 | 18 => 3 | 19 => 4 | n => n⟩
theorem layItoa : Go.Proofs.LaysM.n171 Tryz.prog layItoa_ren := {
  mixed := by kernel_rfl
  f129 := Tryz.func164.trans (congrArg some (by kernel_rfl))
  f171 := Tryz.func80.trans (congrArg some (by kernel_rfl))
  f243 := Tryz.func136.trans (congrArg some (by kernel_rfl))
  f246 := Tryz.func176.trans (congrArg some (by kernel_rfl))
  f283 := Tryz.func177.trans (congrArg some (by kernel_rfl))
  f284 := Tryz.func178.trans (congrArg some (by kernel_rfl))
  f285 := Tryz.func179.trans (congrArg some (by kernel_rfl))
  f286 := Tryz.func180.trans (congrArg some (by kernel_rfl))
  f317 := Tryz.func201.trans (congrArg some (by kernel_rfl))
  f318 := Tryz.func202.trans (congrArg some (by kernel_rfl))
  f319 := Tryz.func203.trans (congrArg some (by kernel_rfl))
  f320 := Tryz.func204.trans (congrArg some (by kernel_rfl))
  f337 := Tryz.func210.trans (congrArg some (by kernel_rfl))
  f338 := Tryz.func211.trans (congrArg some (by kernel_rfl))
  t0 := Tryz.underlying0
  a0 := Tryz.isAgg0
  z0 := Tryz.sizeOf0
  v0 := Tryz.zeroValue0
  t2 := Tryz.underlying2
  a2 := Tryz.isAgg2
  z2 := Tryz.sizeOf2
  v2 := Tryz.zeroValue2
  t3 := Tryz.underlying3
  a3 := Tryz.isAgg3
  z3 := Tryz.sizeOf3
  v3 := Tryz.zeroValue3
  t4 := Tryz.underlying4
  a4 := Tryz.isAgg4
  z4 := Tryz.sizeOf4
  v4 := Tryz.zeroValue4
  t5 := Tryz.underlying5
  a5 := Tryz.isAgg5
  z5 := Tryz.sizeOf5
  v5 := Tryz.zeroValue5
  t9 := Tryz.underlying9
  a9 := Tryz.isAgg9
  z9 := Tryz.sizeOf9
  v9 := Tryz.zeroValue9
  t20 := Tryz.underlying20
  a20 := Tryz.isAgg20
  z20 := Tryz.sizeOf20
  v20 := Tryz.zeroValue20
  t37 := Tryz.underlying148
  a37 := Tryz.isAgg148
  z37 := Tryz.sizeOf148
  v37 := Tryz.zeroValue148
  t46 := Tryz.underlying183
  a46 := Tryz.isAgg183
  z46 := Tryz.sizeOf183
  v46 := Tryz.zeroValue183
  t51 := Tryz.underlying218
  a51 := Tryz.isAgg218
  z51 := Tryz.sizeOf218
  v51 := Tryz.zeroValue218
  t53 := Tryz.underlying77
  a53 := Tryz.isAgg77
  z53 := Tryz.sizeOf77
  v53 := Tryz.zeroValue77
  t171 := Tryz.underlying231
  a171 := Tryz.isAgg231
  z171 := Tryz.sizeOf231
  v171 := Tryz.zeroValue231
  t173 := Tryz.underlying233
  a173 := Tryz.isAgg233
  z173 := Tryz.sizeOf233
  v173 := Tryz.zeroValue233
  t212 := Tryz.underlying250
  a212 := Tryz.isAgg250
  z212 := Tryz.sizeOf250
  v212 := Tryz.zeroValue250
  t213 := Tryz.underlying251
  a213 := Tryz.isAgg251
  z213 := Tryz.sizeOf251
  t232 := Tryz.underlying258
  a232 := Tryz.isAgg258
  z232 := Tryz.sizeOf258
  v232 := Tryz.zeroValue258
  t233 := Tryz.underlying259
  a233 := Tryz.isAgg259
  z233 := Tryz.sizeOf259
  v233 := Tryz.zeroValue259
  g17 := by kernel_rfl
  g18 := by kernel_rfl
  g19 := by kernel_rfl
  i0 := by kernel_rfl
  i2 := by kernel_rfl
  i3 := by kernel_rfl
  i4 := by kernel_rfl
  i5 := by kernel_rfl
  i9 := by kernel_rfl
  i20 := by kernel_rfl
  i37 := by kernel_rfl
  i46 := by kernel_rfl
  i51 := by kernel_rfl
  i53 := by kernel_rfl
  i171 := by kernel_rfl
  i173 := by kernel_rfl
  i212 := by kernel_rfl
  i232 := by kernel_rfl
  i233 := by kernel_rfl
  m17 := by kernel_rfl
  m18 := by kernel_rfl
  m19 := by kernel_rfl }
def laySmall_ren : Go.Shelf.Ren := ⟨fun | 283 => 177 | n => n, fun | 3 => 3 | 9 => 9 | 4 => 4 | n => n, fun | n => n⟩
theorem laySmall : Go.Proofs.Lays.n283 Tryz.prog laySmall_ren := {
  mixed := by kernel_rfl
  f283 := Tryz.func177.trans (congrArg some (by kernel_rfl))
  t3 := Tryz.underlying3
  a3 := Tryz.isAgg3
  z3 := Tryz.sizeOf3
  v3 := Tryz.zeroValue3
  t4 := Tryz.underlying4
  a4 := Tryz.isAgg4
  z4 := Tryz.sizeOf4
  v4 := Tryz.zeroValue4
  t9 := Tryz.underlying9
  a9 := Tryz.isAgg9
  z9 := Tryz.sizeOf9
  v9 := Tryz.zeroValue9 }
def layDigits_ren : Go.Shelf.Ren := ⟨fun | 284 => 178 | 129 => 164 | 317 => 201 | 318 => 202 | n => n, fun | 53 => 77 | 3 => 3 | 212 => 250 | 0 => 0 | 4 => 4 | 46 => 183 | 5 => 5 | 9 => 9 | n => n, fun | 17 => 1 | n => n⟩
theorem layDigits : Go.Proofs.LaysM.n284 Tryz.prog layDigits_ren := {
  mixed := by kernel_rfl
  f129 := Tryz.func164.trans (congrArg some (by kernel_rfl))
  f284 := Tryz.func178.trans (congrArg some (by kernel_rfl))
  f317 := Tryz.func201.trans (congrArg some (by kernel_rfl))
  f318 := Tryz.func202.trans (congrArg some (by kernel_rfl))
  t0 := Tryz.underlying0
  a0 := Tryz.isAgg0
  z0 := Tryz.sizeOf0
  v0 := Tryz.zeroValue0
  t3 := Tryz.underlying3
  a3 := Tryz.isAgg3
  z3 := Tryz.sizeOf3
  v3 := Tryz.zeroValue3
  t4 := Tryz.underlying4
  a4 := Tryz.isAgg4
  z4 := Tryz.sizeOf4
  v4 := Tryz.zeroValue4
  t5 := Tryz.underlying5
  a5 := Tryz.isAgg5
  z5 := Tryz.sizeOf5
  v5 := Tryz.zeroValue5
  t9 := Tryz.underlying9
  a9 := Tryz.isAgg9
  z9 := Tryz.sizeOf9
  v9 := Tryz.zeroValue9
  t46 := Tryz.underlying183
  a46 := Tryz.isAgg183
  z46 := Tryz.sizeOf183
  v46 := Tryz.zeroValue183
  t53 := Tryz.underlying77
  a53 := Tryz.isAgg77
  z53 := Tryz.sizeOf77
  v53 := Tryz.zeroValue77
  t212 := Tryz.underlying250
  a212 := Tryz.isAgg250
  z212 := Tryz.sizeOf250
  v212 := Tryz.zeroValue250
  g17 := by kernel_rfl
  i0 := by kernel_rfl
  i3 := by kernel_rfl
  i4 := by kernel_rfl
  i5 := by kernel_rfl
  i9 := by kernel_rfl
  i46 := by kernel_rfl
  i53 := by kernel_rfl
  i212 := by kernel_rfl
  m17 := by kernel_rfl }
def layTen_ren : Go.Shelf.Ren := ⟨fun | 285 => 179 | n => n, fun | 37 => 148 | 53 => 77 | 3 => 3 | 4 => 4 | 51 => 218 | 9 => 9 | 5 => 5 | 0 => 0 | n => n, fun | n => n⟩
theorem layTen : Go.Proofs.Lays.n285 Tryz.prog layTen_ren := {
  mixed := by kernel_rfl
  f285 := Tryz.func179.trans (congrArg some (by kernel_rfl))
  t0 := Tryz.underlying0
  a0 := Tryz.isAgg0
  z0 := Tryz.sizeOf0
  v0 := Tryz.zeroValue0
  t3 := Tryz.underlying3
  a3 := Tryz.isAgg3
  z3 := Tryz.sizeOf3
  v3 := Tryz.zeroValue3
  t4 := Tryz.underlying4
  a4 := Tryz.isAgg4
  z4 := Tryz.sizeOf4
  v4 := Tryz.zeroValue4
  t5 := Tryz.underlying5
  a5 := Tryz.isAgg5
  z5 := Tryz.sizeOf5
  v5 := Tryz.zeroValue5
  t9 := Tryz.underlying9
  a9 := Tryz.isAgg9
  z9 := Tryz.sizeOf9
  v9 := Tryz.zeroValue9
  t37 := Tryz.underlying148
  a37 := Tryz.isAgg148
  z37 := Tryz.sizeOf148
  v37 := Tryz.zeroValue148
  t51 := Tryz.underlying218
  a51 := Tryz.isAgg218
  z51 := Tryz.sizeOf218
  v51 := Tryz.zeroValue218
  t53 := Tryz.underlying77
  a53 := Tryz.isAgg77
  z53 := Tryz.sizeOf77
  v53 := Tryz.zeroValue77 }
end Go.Proofs.YtepljgpikfeklaaGreatDoor
namespace Go.Proofs.YtepljgpikfeklaaGreatDoor
set_option linter.unusedVariables false
set_option linter.unusedSimpArgs false
open Go Go.RowKit
set_option maxRecDepth 20000
def Pow10 (H : Hp) : Prop := ∀ w, Sat H w → Lib.TabIs Tryz.prog w "internal/strconv.uint64pow10" .u64 Lib.pow10Tab
theorem Pow10.mono {H H' : Hp} (hle : H.le H') (h : Pow10 H) : Pow10 H' := fun w hs => h w fun k o hk => hs k o (hle k o hk)
theorem below_grow (w : World) (k : Nat) (os : Array Obj) : Below w.heap.size w (Go.Sort.grow (w.drewN k) os) :=
  ⟨rfl, rfl, rfl, by rw [Go.Sort.size_grow]; exact Nat.le_add_right _ _, fun i hi => Go.Sort.heap_grow_old (w.drewN k) os hi, Nat.le_add_right _ _⟩
theorem c_Itoa (n : Int) (hn : I64 n) {H : Hp} {w : World} (hs : Sat H w) (hT : Pow10 H) : Calls Tryz.prog 80 #[intV n] w (Ret w (strV (Lib.itoa n))) :=
  (Any.strconv_Itoa layItoa n hn.1 hn.2 w (hT w hs)).mono fun _ _ ⟨he, k, os, hw⟩ => ⟨he, by rw [hw]; exact below_grow w k os⟩
theorem c_small (i : Nat) (hi : i < 100) {w : World} : Calls Tryz.prog 177 #[intV i] w (Ret w (strV (Lib.decDigits i))) :=
  (Any.internal_strconv_small laySmall i hi w).mono fun _ _ ⟨he, hw⟩ => ⟨he, by rw [hw]; exact Below.refl _ _⟩
theorem c_numDigits (u : Nat) (h1 : 1 ≤ u) (h2 : u < 18446744073709551616) {H : Hp} {w : World} (hs : Sat H w) (hT : Pow10 H) : Calls Tryz.prog 178 #[.int .u64 u] w (Ret w (intV (Lib.nDigits u))) :=
  (Any.internal_strconv_numDigits layDigits u h1 h2 w (hT w hs)).mono fun _ _ ⟨he, hw⟩ => ⟨he, by rw [hw]; exact Below.refl _ _⟩
def zeros24L : List Value := List.replicate 24 (.int .u8 0)
section
variable {P : Program} {n : FK} {w0 w : World} {H0 H : Hp} {S : World → Prop} {env : List (Nat × Value)} {L : List Loc}
theorem V.sliceArrTo [Tys P] {t e : TypeId} {x y : Operand} {b m i : Nat} {k ke : TyK} (hk : tyk P t = some k) (hd : k.desc = .array m e) (hke : tyk P e = some ke) (hx : ev env x = some (.pointer (some ⟨b, 0, none⟩))) (hy : ev env y = some (intV i)) (hi : i ≤ m) : V P n S env (.slice t x none (some y) none) (.slice (some ⟨b, 0, none⟩) i m) :=
  ⟨fun o A w ho hf _ => by
    obtain ⟨d, hu, hf'⟩ := (tyk_ok hk).und
    rw [hd] at hf'
    simp only [TyD.fits] at hf'
    subst hf'
    have hal : P.arrayLen t = m := by simp [Program.arrayLen, hu]
    have hel : P.underlying t = some (.array (P.arrayLen t) (P.elem t)) := by simp [Program.arrayLen, Program.elem, hu]
    have hsz : (sizeOf (P.elem t)).run P w = .ok ke.size w := by rw [show P.elem t = e by simp [Program.elem, hu]]; exact (tyk_ok hke).sizeOf w
    have hr := run_sliceAt_array_h (P := P) w t ⟨b, 0, none⟩ hel .i64 (i : Int) (by omega) (by rw [hal]; omega)
    rw [hsz] at hr
    have he : slicedAt (⟨b, 0, none⟩ : Addr) 0 i (P.arrayLen t) ke.size = .slice (some ⟨b, 0, none⟩) i m := by
      rw [hal]
      simp [slicedAt, Addr.add]
    unfold execOp; rw [ho]
    simp only [hf.ev hx, hf.ev hy, Sem.run_bind]
    unfold intV at *
    simp [show A.eval y = Value.int .i64 (i : Int) from hf.ev hy, hr, he]⟩
theorem V.bytesBack [Tys P] {s t e : TypeId} {x : Operand} {b c : Nat} {T : TypeId} {cs : List Value} {l : Bytes} {ks ke kt : TyK} (hks : tyk P s = some ks) (hds : ks.desc = .slice e) (hke : tyk P e = some ke) (hde : ke.desc = .int .u8) (hkt : tyk P t = some kt) (hdt : kt.desc = .str)
    (hx : ev env x = some (.slice (some ⟨b, 0, none⟩) l.length c)) (hm : Loc.blk b T cs ∈ L) (hc : ∀ j (hj : j < l.length), cs[j]? = some (.int .u8 (l[j].toNat : Int))) : V P n (St w0 H0 H L) env (.convert s t x) (strV l) :=
  ⟨fun o A w ho hf hs => by
    obtain ⟨d1, hu1, hf1⟩ := (tyk_ok hks).und
    rw [hds] at hf1
    simp only [TyD.fits] at hf1
    subst hf1
    obtain ⟨d2, hu2, hf2⟩ := (tyk_ok hke).und
    rw [hde] at hf2
    simp only [TyD.fits] at hf2
    subst hf2
    obtain ⟨d3, hu3, hf3⟩ := (tyk_ok hkt).und
    rw [hdt] at hf3
    simp only [TyD.fits] at hf3
    subst hf3
    have hr := run_convert_bytes_back (P := P) w s t e ⟨b, 0, none⟩ c l hu1 hu2 hu3 (fun j hj => by
      rw [Addr.add_mid, Nat.zero_add]
      exact hs.blk_cell hm (hc j hj))
    unfold execOp; rw [ho]
    simp only [hf.ev hx, Sem.run_bind, hr]
    rfl⟩
end
section
variable {w0 w : World} {H0 H : Hp} {L : List Loc}
theorem c_tenDigits (u : Nat) (hu1 : 1 ≤ u) (hu64 : u < 18446744073709551616) (i : Nat) {b : Nat} {T : TypeId} (hs : St w0 H0 H L w) (hi : L[i]? = some (.blk b T zeros24L)) :
    CallsIn (FW none) 0 Tryz.prog 179 [.slice (some ⟨b, 0, none⟩) (Lib.nDigits u) 24, .int .u64 u].toArray w (fun e w' => ∃ cs : List Value, (∀ j (hj : j < (Lib.decDigits u).length), cs[j]? = some (.int .u8 ((Lib.decDigits u)[j].toNat : Int))) ∧ e = .returned (.tuple #[]) ∧ St w0 H0 H (L.set i (.blk b T cs)) w') := by
  have hnd : Lib.nDigits u ≤ 20 := by have := Lib.numDigits_eq u hu1 hu64; split at this <;> omega
  have hb := (hs.ok _ (List.mem_of_getElem? hi))
  have hH : Go.Sort.Holds (fun (b : UInt8) => Value.int .u8 (b.toNat : Int)) w b 0 (Array.replicate (Lib.nDigits u) 0) := fun j hj => by
    have hj' : j < Lib.nDigits u := by simpa using hj
    refine ⟨?_, by simp [World.frozen?, hb.2]⟩
    rw [Nat.zero_add, getElem!_pos _ j hj, Array.getElem_replicate]
    refine hs.blk_cell (List.mem_of_getElem? hi) ?_
    unfold zeros24L
    rw [List.getElem?_replicate, if_pos (by omega)]
    rfl
  have hcall := Any.internal_strconv_formatBase10 layTen b 0 24 u (Array.replicate (Lib.nDigits u) 0) w hH (by rw [Array.size_replicate]; exact Lib.lt_pow_nDigits u) hu64 (by rw [Array.size_replicate]; omega)
  rw [Array.size_replicate] at hcall
  refine callsFW (hcall.mono ?_)
  rintro e w' ⟨rfl, k, v', dk, rfl, hF⟩
  have hsz : dk.size = Lib.nDigits u := hF.size
  refine ⟨(Go.Sort.putCells (fun (b : UInt8) => Value.int .u8 (b.toNat : Int)) 0 dk zeros24L.toArray).toList, fun j hj => ?_, rfl, ?_⟩
  · have hj' : j < dk.size := by rw [Lib.decDigits_length] at hj; omega
    have hjz : j < zeros24L.toArray.size := by show j < 24; omega
    rw [Lib.row_is_numeral hF j hj]
    simp only [Go.Sort.putCells, Array.getElem?_toList, Array.getElem?_mapIdx, Array.getElem?_eq_getElem hjz, Option.map_some]
    rw [if_pos ⟨Nat.zero_le _, by omega⟩, Nat.sub_zero]
  · have h1 : St w0 H0 H (L.set i (.blk b T (Go.Sort.putCells (fun (b : UInt8) => Value.int .u8 (b.toNat : Int)) 0 dk zeros24L.toArray).toList)) (Go.Sort.putRow (fun (b : UInt8) => Value.int .u8 (b.toNat : Int)) w b 0 dk) := by
      refine hs.set hi rfl rfl (fun k hk => ?_) ?_ rfl rfl rfl (Nat.le_refl _) ⟨hb.1, ?_⟩
      · unfold Go.Sort.putRow Go.Sort.mapBlock
        rw [Array.getElem?_modify, if_neg (Ne.symm hk)]
      · simp [Go.Sort.putRow, Go.Sort.mapBlock]
      · unfold Go.Sort.putRow Go.Sort.mapBlock
        simp [Array.getElem?_modify, hb.2, Go.Sort.onCells]
    exact h1.grow ⟨rfl, rfl, rfl, Nat.le_refl _, fun _ _ => rfl, Nat.le_add_right _ _⟩
end
set_option maxHeartbeats 1000000 in
theorem c_FormatU (u : Nat) (hu64 : u < 18446744073709551616) {H : Hp} {w : World} (hs : Sat H w) (hT : Pow10 H) : Calls Tryz.prog 137 #[.int .u64 u, intV 10] w (Ret w (strV (Lib.decDigits u))) := by
  refine T.enter (vs := [.int .u64 u, intV 10]) (H := H) Tryz.func137 rfl rfl rfl hs ?_
  by_cases hu : u < 100
  · repeat (any_goals (first | refine T.seq ?_ | refine T.region ?_ | refine TL.nil ?_ | refine N.next ?_ | refine N.ret_then ?_ | refine T.ret ?_ | refine T.skip ?_ | (apply T.cond_true; rfl) | (apply T.test; rfl; (exact isx); intro _; rotate_left; intro _; rotate_right) | (apply TL.val; rfl; rfl; (apply V.conv; (iterate 4 rfl); exact wrap_i64 (by constructor <;> omega))) | (apply TL.callE (f := 177) [intV u] Tryz.call177; (iterate 4 rfl); (exact fun _ hs => c_small u hu)) | (apply TL.val; rfl; rfl; (first | exact vpure | exact vread)) | (apply TL.x; rfl; rfl; (first | exact xgrow | exact xput); intro _ _)))
    all_goals (try contradiction)
    all_goals (try (exfalso; omega))
    exact N.ret_val rfl (by (exact rvx)) rfl
  · have hnd : Lib.nDigits u ≤ 20 := by have := Lib.numDigits_eq u (by omega) hu64; split at this <;> omega
    repeat (any_goals (first | refine T.seq ?_ | refine T.region ?_ | refine TL.nil ?_ | refine N.next ?_ | refine N.ret_then ?_ | refine T.ret ?_ | refine T.skip ?_ | (apply T.cond_true; rfl) | (apply T.test; rfl; (exact isx); intro _; rotate_left; intro _; rotate_right) | (apply TL.x; rfl; rfl; (apply X.alloc (d := 5); rfl; rfl; rfl); intro b5 _) | (apply TL.callE (f := 178) [.int .u64 u] Tryz.call178; (iterate 4 rfl); (exact fun _ hs => c_numDigits u (by omega) hu64 hs.sat hT)) | (apply TL.val; rfl; rfl; (apply V.sliceArrTo; (iterate 5 rfl); omega)) | (apply TL.x; rfl; rfl; (apply X.callB [.slice (some ⟨b5, 0, none⟩) (Lib.nDigits u) 24, .int .u64 u] (f := 179); (iterate 4 rfl); exact Tryz.call179; exact fun _ hs => c_tenDigits u (by omega) hu64 0 hs rfl); intro cs hcs; (have hln := Lib.decDigits_length u); rw [← hln]) | (apply TL.val; rfl; rfl; (apply V.bytesBack (l := Lib.decDigits u); (iterate 7 rfl); exact List.Mem.head _; exact hcs)) | (apply TL.val; rfl; rfl; (first | exact vpure | exact vread))))
    all_goals (try contradiction)
    all_goals (try (exfalso; omega))
    all_goals first
      | exact N.ret_val rfl (by (exact rvx)) rfl
      | trace_state
theorem c_FormatUint (u : Nat) (hu64 : u < 18446744073709551616) {H : Hp} {w : World} (hs : Sat H w) (hT : Pow10 H) : Calls Tryz.prog 81 #[.int .u64 u, intV 10] w (Ret w (strV (Lib.decDigits u))) := by
  refine T.enter (vs := [.int .u64 u, intV 10]) (H := H) Tryz.func81 rfl rfl rfl hs ?_
  repeat (any_goals (first | refine T.seq ?_ | refine T.region ?_ | refine TL.nil ?_ | refine N.next ?_ | refine T.ret ?_ | (apply TL.callE (f := 137) [.int .u64 u, intV 10] Tryz.call137; (iterate 4 rfl); (exact fun _ hs => c_FormatU u hu64 hs.sat hT)) | (apply TL.val; rfl; rfl; (first | exact vpure | exact vread))))
  exact N.ret_val rfl (by (exact rvx)) rfl
end Go.Proofs.YtepljgpikfeklaaGreatDoor
namespace Go.Proofs.YtepljgpikfeklaaGreatDoor
set_option linter.unusedVariables false
set_option linter.unusedSimpArgs false
open Go
def shiftL (cs : List Bytes) (a : Bytes) (m : Nat) : List Bytes := (cs ++ [a]).take (m + 1) ++ cs.drop m
theorem shift_all (cs : List Bytes) (a : Bytes) : shiftL cs a cs.length = cs ++ [a] := by
  unfold shiftL
  rw [List.drop_length, List.append_nil, List.take_of_length_le (by simp)]
theorem shift_len {cs : List Bytes} {a : Bytes} {m : Nat} (h : m ≤ cs.length) : (shiftL cs a m).length = cs.length + 1 := by
  unfold shiftL
  rw [List.length_append, List.length_take, List.length_drop, List.length_append, List.length_singleton]
  omega
theorem shift_at {cs : List Bytes} {a : Bytes} {m j : Nat} (h : m ≤ cs.length) : (shiftL cs a m)[j]? = if j ≤ m then (cs ++ [a])[j]? else cs[j - 1]? := by
  unfold shiftL
  have hl : ((cs ++ [a]).take (m + 1)).length = m + 1 := by rw [List.length_take, List.length_append, List.length_singleton]; omega
  by_cases hj : j ≤ m
  · rw [if_pos hj, List.getElem?_append_left (by omega), List.getElem?_take_of_lt (by omega)]
  · rw [if_neg hj, List.getElem?_append_right (by omega), hl, List.getElem?_drop]
    congr 1
    omega
theorem shift_get {cs : List Bytes} {a : Bytes} {m : Nat} (h0 : 0 < m) (h : m ≤ cs.length) : (shiftL cs a m)[m - 1]? = some (cs[m - 1]'(by omega)) := by
  rw [shift_at h, if_pos (by omega), List.getElem?_append_left (by omega), List.getElem?_eq_getElem (by omega)]
theorem shift_step {cs : List Bytes} {a : Bytes} {m : Nat} (h0 : 0 < m) (h : m ≤ cs.length) : (shiftL cs a m).set m (cs[m - 1]'(by omega)) = shiftL cs a (m - 1) := by
  apply List.ext_getElem?
  intro j
  rw [List.getElem?_set, shift_len h, shift_at h, shift_at (by omega)]
  by_cases e : m = j
  · subst e
    rw [if_pos rfl, if_pos (by omega), if_neg (by omega), List.getElem?_eq_getElem (by omega)]
  · rw [if_neg e]
    by_cases hj : j ≤ m
    · rw [if_pos hj, if_pos (by omega)]
    · rw [if_neg hj, if_neg (by omega)]
theorem shift_end {cs : List Bytes} {a : Bytes} {k : Nat} (h : k ≤ cs.length) : (shiftL cs a k).set k a = cs.take k ++ a :: cs.drop k := by
  apply List.ext_getElem?
  intro j
  rw [List.getElem?_set, shift_len h, shift_at h]
  have hl : (cs.take k).length = k := by rw [List.length_take]; omega
  by_cases e : k = j
  · subst e
    rw [if_pos rfl, if_pos (by omega), List.getElem?_append_right (by omega), hl, Nat.sub_self]; rfl
  · rw [if_neg e]
    by_cases hj : j ≤ k
    · rw [if_pos hj, List.getElem?_append_left (by omega), List.getElem?_append_left (by omega), List.getElem?_take_of_lt (by omega)]
    · rw [if_neg hj, List.getElem?_append_right (by omega), hl, show j - k = (j - k - 1) + 1 by omega, List.getElem?_cons_succ, List.getElem?_drop]
      congr 1
      omega
structure PlaceN (cs : List Bytes) (a : Bytes) (k : Nat) : Prop where
  le : k ≤ cs.length
  lo : ∀ j (h : j < cs.length), j < k → ordN cs[j] a < 0
  hi : ∀ h : k < cs.length, ¬ ordN cs[k] a < 0
def placeN (cs : List Bytes) (a : Bytes) : Nat := (cs.takeWhile fun x => decide (ordN x a < 0)).length
theorem placeN_eq : ∀ {cs : List Bytes} {a : Bytes} {k : Nat}, PlaceN cs a k → placeN cs a = k
  | [], a, k, h => by
    have := h.le
    simp at this
    subst this; rfl
  | x :: cs, a, 0, h => by
    have := h.hi (by simp)
    unfold placeN
    rw [List.takeWhile_cons, if_neg (by simpa using this)]; rfl
  | x :: cs, a, k + 1, h => by
    have h0 := h.lo 0 (by simp) (by omega)
    have ih := placeN_eq (cs := cs) (a := a) (k := k) ⟨by have := h.le; simpa using this, fun j hj hjk => h.lo (j + 1) (by simpa using hj) (by omega), fun hk => h.hi (by simpa using hk)⟩
    unfold placeN at ih ⊢
    rw [List.takeWhile_cons, if_pos (by simpa using h0), List.length_cons, ih]
def insA (cs : List Bytes) (a : Bytes) : List Bytes := if cs[placeN cs a]? = some a then cs else cs.take (placeN cs a) ++ a :: cs.drop (placeN cs a)
def apexesC (l : List Bytes) : List Bytes := l.foldl insA []
def apexUp (l : List Bytes) (k : Nat) : List Bytes := (l.take k).foldl insA []
theorem apexUp_next {l : List Bytes} {k : Nat} (hk : k < l.length) : apexUp l (k + 1) = insA (apexUp l k) l[k] := by
  unfold apexUp
  rw [List.take_succ_eq_append_getElem hk, List.foldl_append]; rfl
theorem insA_mem {cs : List Bytes} {a x : Bytes} : x ∈ insA cs a ↔ x ∈ cs ∨ x = a := by
  unfold insA
  split
  · rename_i h
    exact ⟨.inl, fun k => k.elim id fun e => e ▸ List.mem_of_getElem? h⟩
  · have h := List.take_append_drop (placeN cs a) cs
    constructor
    · intro hx
      rcases List.mem_append.1 hx with hx | hx
      · exact .inl (List.mem_of_mem_take hx)
      · rcases List.mem_cons.1 hx with hx | hx
        · exact .inr hx
        · exact .inl (List.mem_of_mem_drop hx)
    · rintro (hx | rfl)
      · rw [← h] at hx
        rcases List.mem_append.1 hx with hx | hx
        · exact List.mem_append.2 (.inl hx)
        · exact List.mem_append.2 (.inr (List.mem_cons_of_mem _ hx))
      · exact List.mem_append.2 (.inr (List.mem_cons_self ..))
theorem insA_len (cs : List Bytes) (a : Bytes) : (insA cs a).length ≤ cs.length + 1 ∧ 0 < (insA cs a).length := by
  unfold insA
  split
  · rename_i h
    have := (List.getElem?_eq_some_iff.1 h).1
    omega
  · rw [List.length_append, List.length_cons, List.length_take, List.length_drop]; omega
theorem apexUp_mem {l : List Bytes} {x : Bytes} : ∀ {k : Nat}, x ∈ apexUp l k → x ∈ l
  | 0, h => by simp [apexUp] at h
  | k + 1, h => by
    rcases Nat.lt_or_ge k l.length with hk | hk
    · rw [apexUp_next hk] at h
      rcases insA_mem.1 h with h | h
      · exact apexUp_mem h
      · rw [h]; exact List.getElem_mem hk
    · have e : apexUp l (k + 1) = apexUp l k := by unfold apexUp; rw [List.take_of_length_le (by omega), List.take_of_length_le hk]
      rw [e] at h
      exact apexUp_mem h
theorem apexUp_len (l : List Bytes) : ∀ k, k ≤ l.length → (apexUp l k).length ≤ k ∧ (0 < k → 0 < (apexUp l k).length)
  | 0, _ => by simp [apexUp]
  | k + 1, h => by
    have h1 := insA_len (apexUp l k) (l[k]'(by omega))
    have h2 := apexUp_len l k (by omega)
    rw [apexUp_next (by omega)]
    exact ⟨by omega, fun _ => h1.2⟩
end Go.Proofs.YtepljgpikfeklaaGreatDoor
