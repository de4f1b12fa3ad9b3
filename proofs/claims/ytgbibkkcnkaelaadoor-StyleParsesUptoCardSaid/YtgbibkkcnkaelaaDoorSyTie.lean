/-
  The ghost functions of this seat are the program's functions; the library's functions by their contracts.
-/
import Derived.Test.YtgbibkkcnkaelaaDoorRows
import Derived.Test.YtgbibkkcnkaelaaDoorSyG
import Derived.Test.YtgbibkkcnkaelaaDoorK5
import Derived.Shelf.Unicode.ValidAny
import Derived.Shelf.Strings.Search1
import Derived.Lib.LaidU8T
import Derived.Test.YtgbibkkcnkaelaaDoorBd
import Derived.Test.YtgbibkkcnkaelaaDoorBs
namespace Go.Proofs.YtgbibkkcnkaelaaDoor
open Go.Gh Go.RowKit
set_option maxRecDepth 100000
set_option linter.unusedVariables false
def LV_ren : Go.Shelf.Ren := ⟨fun | 196 => 72 | 259 => 81 | n => n, fun | 9 => 9 | 4 => 4 | 3 => 3 | 5 => 5 | 12 => 12 | 119 => 99 | 0 => 0 | 46 => 103 | 139 => 102 | 138 => 101 | 53 => 108 | n => n, fun | 3 => 0 | 4 => 1 | n => n⟩
theorem LV : Go.Proofs.Lays.n196 Tryd.prog LV_ren where
  mixed := by kernel_rfl
  f196 := Tryd.func72.trans (congrArg some (by kernel_rfl))
  f259 := Tryd.func81.trans (congrArg some (by kernel_rfl))
  t0 := Tryd.underlying0
  a0 := Tryd.isAgg0
  z0 := Tryd.sizeOf0
  v0 := Tryd.zeroValue0
  t3 := Tryd.underlying3
  a3 := Tryd.isAgg3
  z3 := Tryd.sizeOf3
  v3 := Tryd.zeroValue3
  t4 := Tryd.underlying4
  a4 := Tryd.isAgg4
  z4 := Tryd.sizeOf4
  v4 := Tryd.zeroValue4
  t5 := Tryd.underlying5
  a5 := Tryd.isAgg5
  z5 := Tryd.sizeOf5
  v5 := Tryd.zeroValue5
  t9 := Tryd.underlying9
  a9 := Tryd.isAgg9
  z9 := Tryd.sizeOf9
  v9 := Tryd.zeroValue9
  t12 := Tryd.underlying12
  a12 := Tryd.isAgg12
  z12 := Tryd.sizeOf12
  v12 := Tryd.zeroValue12
  t46 := Tryd.underlying103
  a46 := Tryd.isAgg103
  z46 := Tryd.sizeOf103
  v46 := Tryd.zeroValue103
  t53 := Tryd.underlying108
  a53 := Tryd.isAgg108
  z53 := Tryd.sizeOf108
  v53 := Tryd.zeroValue108
  t119 := Tryd.underlying99
  a119 := Tryd.isAgg99
  z119 := Tryd.sizeOf99
  t138 := Tryd.underlying101
  a138 := Tryd.isAgg101
  z138 := Tryd.sizeOf101
  v138 := Tryd.zeroValue101
  t139 := Tryd.underlying102
  a139 := Tryd.isAgg102
  z139 := Tryd.sizeOf102
  v139 := Tryd.zeroValue102
  g3 := by kernel_rfl
  g4 := by kernel_rfl
def LI_ren : Go.Shelf.Ren := ⟨fun | 217 => 85 | 266 => 89 | n => n, fun | 9 => 9 | 5 => 5 | 3 => 3 | n => n, fun n => n⟩
theorem LI : Go.Proofs.Lays.n217 Tryd.prog LI_ren where
  mixed := by kernel_rfl
  f217 := Tryd.func85.trans (congrArg some (by kernel_rfl))
  f266 := Tryd.func89.trans (congrArg some (by kernel_rfl))
  t3 := Tryd.underlying3
  a3 := Tryd.isAgg3
  z3 := Tryd.sizeOf3
  v3 := Tryd.zeroValue3
  t5 := Tryd.underlying5
  a5 := Tryd.isAgg5
  z5 := Tryd.sizeOf5
  v5 := Tryd.zeroValue5
  t9 := Tryd.underlying9
  a9 := Tryd.isAgg9
  z9 := Tryd.sizeOf9
  v9 := Tryd.zeroValue9
def LST_ren : Go.Shelf.Ren := ⟨fun | 169 => 55 | n => n, fun | 70 => 66 | 9 => 9 | 0 => 0 | 72 => 69 | 37 => 67 | 127 => 92 | 3 => 3 | 5 => 5 | n => n, fun | 240 => 76 | 276 => 84 | n => n⟩
theorem LST : Go.Proofs.Lays.n169 Tryd.prog LST_ren where
  mixed := by kernel_rfl
  f169 := Tryd.func55.trans (congrArg some (by kernel_rfl))
  t0 := Tryd.underlying0
  a0 := Tryd.isAgg0
  z0 := Tryd.sizeOf0
  v0 := Tryd.zeroValue0
  t3 := Tryd.underlying3
  a3 := Tryd.isAgg3
  z3 := Tryd.sizeOf3
  v3 := Tryd.zeroValue3
  t9 := Tryd.underlying9
  a9 := Tryd.isAgg9
  z9 := Tryd.sizeOf9
  v9 := Tryd.zeroValue9
  t37 := Tryd.underlying67
  a37 := Tryd.isAgg67
  z37 := Tryd.sizeOf67
  v37 := Tryd.zeroValue67
  t70 := Tryd.underlying66
  a70 := Tryd.isAgg66
  z70 := Tryd.sizeOf66
  v70 := Tryd.zeroValue66
  t72 := Tryd.underlying69
  a72 := Tryd.isAgg69
  z72 := Tryd.sizeOf69
  v72 := Tryd.zeroValue69
  t127 := Tryd.underlying92
  a127 := Tryd.isAgg92
  z127 := Tryd.sizeOf92
  v127 := Tryd.zeroValue92
def LCC_ren : Go.Shelf.Ren := ⟨fun | 240 => 76 | 276 => 84 | n => n, fun | 70 => 66 | 9 => 9 | 72 => 69 | 4 => 4 | 37 => 67 | 164 => 105 | n => n, fun n => n⟩
theorem LCC : Go.Proofs.Lays.n240 Tryd.prog LCC_ren where
  mixed := by kernel_rfl
  f240 := Tryd.func76.trans (congrArg some (by kernel_rfl))
  f276 := Tryd.func84.trans (congrArg some (by kernel_rfl))
  t0 := Tryd.underlying0
  a0 := Tryd.isAgg0
  z0 := Tryd.sizeOf0
  v0 := Tryd.zeroValue0
  t4 := Tryd.underlying4
  a4 := Tryd.isAgg4
  z4 := Tryd.sizeOf4
  v4 := Tryd.zeroValue4
  t9 := Tryd.underlying9
  a9 := Tryd.isAgg9
  z9 := Tryd.sizeOf9
  v9 := Tryd.zeroValue9
  t20 := Tryd.underlying20
  a20 := Tryd.isAgg20
  z20 := Tryd.sizeOf20
  v20 := Tryd.zeroValue20
  t70 := Tryd.underlying66
  a70 := Tryd.isAgg66
  z70 := Tryd.sizeOf66
  v70 := Tryd.zeroValue66
  t72 := Tryd.underlying69
  a72 := Tryd.isAgg69
  z72 := Tryd.sizeOf69
  v72 := Tryd.zeroValue69
  t164 := Tryd.underlying105
  a164 := Tryd.isAgg105
  z164 := Tryd.sizeOf105
  v164 := Tryd.zeroValue105


theorem tie6 : ∃ fn, Tryd.prog.funcs[6]? = some fn ∧ cFun Tryd.prog fn = some g6 := ⟨Tryd.f6, Tryd.func6, by kernel_rfl⟩
theorem tie7 : ∃ fn, Tryd.prog.funcs[7]? = some fn ∧ cFun Tryd.prog fn = some g7 := ⟨Tryd.f7, Tryd.func7, by kernel_rfl⟩
theorem tie10 : ∃ fn, Tryd.prog.funcs[10]? = some fn ∧ cFun Tryd.prog fn = some g10 := ⟨Tryd.f10, Tryd.func10, by kernel_rfl⟩
theorem tie11 : ∃ fn, Tryd.prog.funcs[11]? = some fn ∧ cFun Tryd.prog fn = some g11 := ⟨Tryd.f11, Tryd.func11, by kernel_rfl⟩
theorem tie12 : ∃ fn, Tryd.prog.funcs[12]? = some fn ∧ cFun Tryd.prog fn = some g12 := ⟨Tryd.f12, Tryd.func12, by kernel_rfl⟩
theorem tie13 : ∃ fn, Tryd.prog.funcs[13]? = some fn ∧ cFun Tryd.prog fn = some g13 := ⟨Tryd.f13, Tryd.func13, by kernel_rfl⟩
theorem tie14 : ∃ fn, Tryd.prog.funcs[14]? = some fn ∧ cFun Tryd.prog fn = some g14 := ⟨Tryd.f14, Tryd.func14, by kernel_rfl⟩
theorem tie15 : ∃ fn, Tryd.prog.funcs[15]? = some fn ∧ cFun Tryd.prog fn = some g15 := ⟨Tryd.f15, Tryd.func15, by kernel_rfl⟩
theorem tie16 : ∃ fn, Tryd.prog.funcs[16]? = some fn ∧ cFun Tryd.prog fn = some g16 := ⟨Tryd.f16, Tryd.func16, by kernel_rfl⟩
theorem tie17 : ∃ fn, Tryd.prog.funcs[17]? = some fn ∧ cFun Tryd.prog fn = some g17 := ⟨Tryd.f17, Tryd.func17, by kernel_rfl⟩
theorem tie18 : ∃ fn, Tryd.prog.funcs[18]? = some fn ∧ cFun Tryd.prog fn = some g18 := ⟨Tryd.f18, Tryd.func18, by kernel_rfl⟩
theorem tie19 : ∃ fn, Tryd.prog.funcs[19]? = some fn ∧ cFun Tryd.prog fn = some g19 := ⟨Tryd.f19, Tryd.func19, by kernel_rfl⟩
theorem tie20 : ∃ fn, Tryd.prog.funcs[20]? = some fn ∧ cFun Tryd.prog fn = some g20 := ⟨Tryd.f20, Tryd.func20, by kernel_rfl⟩
theorem tie21 : ∃ fn, Tryd.prog.funcs[21]? = some fn ∧ cFun Tryd.prog fn = some g21 := ⟨Tryd.f21, Tryd.func21, by kernel_rfl⟩
theorem tie22 : ∃ fn, Tryd.prog.funcs[22]? = some fn ∧ cFun Tryd.prog fn = some g22 := ⟨Tryd.f22, Tryd.func22, by kernel_rfl⟩
theorem tie23 : ∃ fn, Tryd.prog.funcs[23]? = some fn ∧ cFun Tryd.prog fn = some g23 := ⟨Tryd.f23, Tryd.func23, by kernel_rfl⟩
theorem tie24 : ∃ fn, Tryd.prog.funcs[24]? = some fn ∧ cFun Tryd.prog fn = some g24 := ⟨Tryd.f24, Tryd.func24, by kernel_rfl⟩
theorem tie25 : ∃ fn, Tryd.prog.funcs[25]? = some fn ∧ cFun Tryd.prog fn = some g25 := ⟨Tryd.f25, Tryd.func25, by kernel_rfl⟩
theorem tie26 : ∃ fn, Tryd.prog.funcs[26]? = some fn ∧ cFun Tryd.prog fn = some g26 := ⟨Tryd.f26, Tryd.func26, by kernel_rfl⟩
theorem tie27 : ∃ fn, Tryd.prog.funcs[27]? = some fn ∧ cFun Tryd.prog fn = some g27 := ⟨Tryd.f27, Tryd.func27, by kernel_rfl⟩
theorem tie28 : ∃ fn, Tryd.prog.funcs[28]? = some fn ∧ cFun Tryd.prog fn = some g28 := ⟨Tryd.f28, Tryd.func28, by kernel_rfl⟩
theorem tie29 : ∃ fn, Tryd.prog.funcs[29]? = some fn ∧ cFun Tryd.prog fn = some g29 := ⟨Tryd.f29, Tryd.func29, by kernel_rfl⟩
theorem tie30 : ∃ fn, Tryd.prog.funcs[30]? = some fn ∧ cFun Tryd.prog fn = some g30 := ⟨Tryd.f30, Tryd.func30, by kernel_rfl⟩
theorem tie31 : ∃ fn, Tryd.prog.funcs[31]? = some fn ∧ cFun Tryd.prog fn = some g31 := ⟨Tryd.f31, Tryd.func31, by kernel_rfl⟩
theorem tie32 : ∃ fn, Tryd.prog.funcs[32]? = some fn ∧ cFun Tryd.prog fn = some g32 := ⟨Tryd.f32, Tryd.func32, by kernel_rfl⟩
theorem tie33 : ∃ fn, Tryd.prog.funcs[33]? = some fn ∧ cFun Tryd.prog fn = some g33 := ⟨Tryd.f33, Tryd.func33, by kernel_rfl⟩
theorem tie34 : ∃ fn, Tryd.prog.funcs[34]? = some fn ∧ cFun Tryd.prog fn = some g34 := ⟨Tryd.f34, Tryd.func34, by kernel_rfl⟩
theorem tie35 : ∃ fn, Tryd.prog.funcs[35]? = some fn ∧ cFun Tryd.prog fn = some g35 := ⟨Tryd.f35, Tryd.func35, by kernel_rfl⟩
theorem tie36 : ∃ fn, Tryd.prog.funcs[36]? = some fn ∧ cFun Tryd.prog fn = some g36 := ⟨Tryd.f36, Tryd.func36, by kernel_rfl⟩
theorem tie37 : ∃ fn, Tryd.prog.funcs[37]? = some fn ∧ cFun Tryd.prog fn = some g37 := ⟨Tryd.f37, Tryd.func37, by kernel_rfl⟩
theorem tie38 : ∃ fn, Tryd.prog.funcs[38]? = some fn ∧ cFun Tryd.prog fn = some g38 := ⟨Tryd.f38, Tryd.func38, by kernel_rfl⟩
theorem tie39 : ∃ fn, Tryd.prog.funcs[39]? = some fn ∧ cFun Tryd.prog fn = some g39 := ⟨Tryd.f39, Tryd.func39, by kernel_rfl⟩
theorem tie40 : ∃ fn, Tryd.prog.funcs[40]? = some fn ∧ cFun Tryd.prog fn = some g40 := ⟨Tryd.f40, Tryd.func40, by kernel_rfl⟩
theorem tie41 : ∃ fn, Tryd.prog.funcs[41]? = some fn ∧ cFun Tryd.prog fn = some g41 := ⟨Tryd.f41, Tryd.func41, by kernel_rfl⟩
theorem tie42 : ∃ fn, Tryd.prog.funcs[42]? = some fn ∧ cFun Tryd.prog fn = some g42 := ⟨Tryd.f42, Tryd.func42, by kernel_rfl⟩
theorem tie43 : ∃ fn, Tryd.prog.funcs[43]? = some fn ∧ cFun Tryd.prog fn = some g43 := ⟨Tryd.f43, Tryd.func43, by kernel_rfl⟩
theorem tie44 : ∃ fn, Tryd.prog.funcs[44]? = some fn ∧ cFun Tryd.prog fn = some g44 := ⟨Tryd.f44, Tryd.func44, by kernel_rfl⟩
theorem tie45 : ∃ fn, Tryd.prog.funcs[45]? = some fn ∧ cFun Tryd.prog fn = some g45 := ⟨Tryd.f45, Tryd.func45, by kernel_rfl⟩
theorem tie46 : ∃ fn, Tryd.prog.funcs[46]? = some fn ∧ cFun Tryd.prog fn = some g46 := ⟨Tryd.f46, Tryd.func46, by kernel_rfl⟩
theorem tie47 : ∃ fn, Tryd.prog.funcs[47]? = some fn ∧ cFun Tryd.prog fn = some g47 := ⟨Tryd.f47, Tryd.func47, by kernel_rfl⟩
theorem tie48 : ∃ fn, Tryd.prog.funcs[48]? = some fn ∧ cFun Tryd.prog fn = some g48 := ⟨Tryd.f48, Tryd.func48, by kernel_rfl⟩
theorem tie49 : ∃ fn, Tryd.prog.funcs[49]? = some fn ∧ cFun Tryd.prog fn = some g49 := ⟨Tryd.f49, Tryd.func49, by kernel_rfl⟩
theorem tie50 : ∃ fn, Tryd.prog.funcs[50]? = some fn ∧ cFun Tryd.prog fn = some g50 := ⟨Tryd.f50, Tryd.func50, by kernel_rfl⟩
theorem tie51 : ∃ fn, Tryd.prog.funcs[51]? = some fn ∧ cFun Tryd.prog fn = some g51 := ⟨Tryd.f51, Tryd.func51, by kernel_rfl⟩
theorem tie52 : ∃ fn, Tryd.prog.funcs[52]? = some fn ∧ cFun Tryd.prog fn = some g52 := ⟨Tryd.f52, Tryd.func52, by kernel_rfl⟩
theorem tie53 : ∃ fn, Tryd.prog.funcs[53]? = some fn ∧ cFun Tryd.prog fn = some g53 := ⟨Tryd.f53, Tryd.func53, by kernel_rfl⟩
theorem tie54 : ∃ fn, Tryd.prog.funcs[54]? = some fn ∧ cFun Tryd.prog fn = some g54 := ⟨Tryd.f54, Tryd.func54, by kernel_rfl⟩
theorem tie56 : ∃ fn, Tryd.prog.funcs[56]? = some fn ∧ cFun Tryd.prog fn = some g56 := ⟨Tryd.f56, Tryd.func56, by kernel_rfl⟩
theorem tie57 : ∃ fn, Tryd.prog.funcs[57]? = some fn ∧ cFun Tryd.prog fn = some g57 := ⟨Tryd.f57, Tryd.func57, by kernel_rfl⟩
theorem tie58 : ∃ fn, Tryd.prog.funcs[58]? = some fn ∧ cFun Tryd.prog fn = some g58 := ⟨Tryd.f58, Tryd.func58, by kernel_rfl⟩
theorem tie59 : ∃ fn, Tryd.prog.funcs[59]? = some fn ∧ cFun Tryd.prog fn = some g59 := ⟨Tryd.f59, Tryd.func59, by kernel_rfl⟩
theorem tie60 : ∃ fn, Tryd.prog.funcs[60]? = some fn ∧ cFun Tryd.prog fn = some g60 := ⟨Tryd.f60, Tryd.func60, by kernel_rfl⟩
theorem tie61 : ∃ fn, Tryd.prog.funcs[61]? = some fn ∧ cFun Tryd.prog fn = some g61 := ⟨Tryd.f61, Tryd.func61, by kernel_rfl⟩
theorem tie62 : ∃ fn, Tryd.prog.funcs[62]? = some fn ∧ cFun Tryd.prog fn = some g62 := ⟨Tryd.f62, Tryd.func62, by kernel_rfl⟩
theorem tie63 : ∃ fn, Tryd.prog.funcs[63]? = some fn ∧ cFun Tryd.prog fn = some g63 := ⟨Tryd.f63, Tryd.func63, by kernel_rfl⟩
theorem tie64 : ∃ fn, Tryd.prog.funcs[64]? = some fn ∧ cFun Tryd.prog fn = some g64 := ⟨Tryd.f64, Tryd.func64, by kernel_rfl⟩
theorem tie65 : ∃ fn, Tryd.prog.funcs[65]? = some fn ∧ cFun Tryd.prog fn = some g65 := ⟨Tryd.f65, Tryd.func65, by kernel_rfl⟩
theorem tie66 : ∃ fn, Tryd.prog.funcs[66]? = some fn ∧ cFun Tryd.prog fn = some g66 := ⟨Tryd.f66, Tryd.func66, by kernel_rfl⟩
theorem tie67 : ∃ fn, Tryd.prog.funcs[67]? = some fn ∧ cFun Tryd.prog fn = some g67 := ⟨Tryd.f67, Tryd.func67, by kernel_rfl⟩
theorem tie68 : ∃ fn, Tryd.prog.funcs[68]? = some fn ∧ cFun Tryd.prog fn = some g68 := ⟨Tryd.f68, Tryd.func68, by kernel_rfl⟩
theorem tie69 : ∃ fn, Tryd.prog.funcs[69]? = some fn ∧ cFun Tryd.prog fn = some g69 := ⟨Tryd.f69, Tryd.func69, by kernel_rfl⟩
theorem tie70 : ∃ fn, Tryd.prog.funcs[70]? = some fn ∧ cFun Tryd.prog fn = some g70 := ⟨Tryd.f70, Tryd.func70, by kernel_rfl⟩
theorem tie71 : ∃ fn, Tryd.prog.funcs[71]? = some fn ∧ cFun Tryd.prog fn = some g71 := ⟨Tryd.f71, Tryd.func71, by kernel_rfl⟩
theorem tie73 : ∃ fn, Tryd.prog.funcs[73]? = some fn ∧ cFun Tryd.prog fn = some g73 := ⟨Tryd.f73, Tryd.func73, by kernel_rfl⟩
theorem tie74 : ∃ fn, Tryd.prog.funcs[74]? = some fn ∧ cFun Tryd.prog fn = some g74 := ⟨Tryd.f74, Tryd.func74, by kernel_rfl⟩
theorem tie75 : ∃ fn, Tryd.prog.funcs[75]? = some fn ∧ cFun Tryd.prog fn = some g75 := ⟨Tryd.f75, Tryd.func75, by kernel_rfl⟩
theorem tie77 : ∃ fn, Tryd.prog.funcs[77]? = some fn ∧ cFun Tryd.prog fn = some g77 := ⟨Tryd.f77, Tryd.func77, by kernel_rfl⟩
theorem tie78 : ∃ fn, Tryd.prog.funcs[78]? = some fn ∧ cFun Tryd.prog fn = some g78 := ⟨Tryd.f78, Tryd.func78, by kernel_rfl⟩
theorem tie79 : ∃ fn, Tryd.prog.funcs[79]? = some fn ∧ cFun Tryd.prog fn = some g79 := ⟨Tryd.f79, Tryd.func79, by kernel_rfl⟩
theorem tie80 : ∃ fn, Tryd.prog.funcs[80]? = some fn ∧ cFun Tryd.prog fn = some g80 := ⟨Tryd.f80, Tryd.func80, by kernel_rfl⟩
theorem tie82 : ∃ fn, Tryd.prog.funcs[82]? = some fn ∧ cFun Tryd.prog fn = some g82 := ⟨Tryd.f82, Tryd.func82, by kernel_rfl⟩
theorem tie83 : ∃ fn, Tryd.prog.funcs[83]? = some fn ∧ cFun Tryd.prog fn = some g83 := ⟨Tryd.f83, Tryd.func83, by kernel_rfl⟩
theorem tie86 : ∃ fn, Tryd.prog.funcs[86]? = some fn ∧ cFun Tryd.prog fn = some g86 := ⟨Tryd.f86, Tryd.func86, by kernel_rfl⟩
theorem tie87 : ∃ fn, Tryd.prog.funcs[87]? = some fn ∧ cFun Tryd.prog fn = some g87 := ⟨Tryd.f87, Tryd.func87, by kernel_rfl⟩
theorem tie88 : ∃ fn, Tryd.prog.funcs[88]? = some fn ∧ cFun Tryd.prog fn = some g88 := ⟨Tryd.f88, Tryd.func88, by kernel_rfl⟩
theorem tie90 : ∃ fn, Tryd.prog.funcs[90]? = some fn ∧ cFun Tryd.prog fn = some g90 := ⟨Tryd.f90, Tryd.func90, by kernel_rfl⟩
theorem lib72 : (∀ (asl : Array Value) (w : World), (callFunc 72 asl).run Tryd.prog w = .ok (.enter 72 asl) w) ∧
    ∀ args v, args.all litOk = true → runValid args = some v → litVal v = true → ∀ w : World, gT Tryd.prog w → Calls Tryd.prog 72 args.toArray w fun e w' => e = .returned v ∧ Below w.heap.size w w' := by
  refine ⟨fun asl w => callFunc_enter Tryd.func72 (by kernel_rfl) rfl asl w, fun args v _ hr _ w hT => ?_⟩
  unfold runValid at hr
  split at hr
  · split at hr
    · rename_i hs
      cases hr
      exact Any.utf8_ValidString LV _ w hs hT
    · cases hr
  · cases hr
theorem lib85 : (∀ (asl : Array Value) (w : World), (callFunc 85 asl).run Tryd.prog w = .ok (.enter 85 asl) w) ∧
    ∀ args v, args.all litOk = true → runIndexByte args = some v → litVal v = true → ∀ w : World, gT Tryd.prog w → Calls Tryd.prog 85 args.toArray w fun e w' => e = .returned v ∧ Below w.heap.size w w' := by
  refine ⟨fun asl w => callFunc_enter Tryd.func85 (by kernel_rfl) rfl asl w, fun args v _ hr _ w hT => ?_⟩
  unfold runIndexByte at hr
  split at hr
  · cases hr
    refine (Any.stringslite_IndexByte LI _ _ w).mono fun e w' hh => ?_
    obtain ⟨rfl, rfl⟩ := hh
    exact ⟨rfl, Below.refl _ _⟩
  · cases hr
theorem xcc : Builder.X72 Tryd.prog LCC_ren := ⟨by kernel_rfl, by kernel_rfl⟩
theorem ext76 : ExtOk Tryd.prog 76 runCC := cc_ok (fun asl w => callFunc_enter Tryd.func76 (by kernel_rfl) rfl asl w) (fun b w h0 h1 h2 => Any.Builder_copyCheck_fresh LCC xcc b w h0 h1 h2) (fun b w h0 => Any.Builder_copyCheck_used LCC xcc b w h0)
theorem xst : Builder.Extra Tryd.prog LST_ren := ⟨⟨by kernel_rfl, by kernel_rfl⟩, Tryd.underlying5, Tryd.isAgg5, Tryd.sizeOf5, Tryd.zeroValue5, by kernel_rfl, by kernel_rfl, by kernel_rfl, by decide⟩
theorem ext55 : ExtOk Tryd.prog 55 runStr := str_ok (fun asl w => callFunc_enter Tryd.func55 (by kernel_rfl) rfl asl w) (fun b g o cap l cur fz w h0 h1 h2 h3 h4 h5 h6 => string_exact LST xst b g o cap l cur fz w h0 h1 h2 h3 h4 h5 h6) (fun b w h => string_nil_exact LST xst b w h)
theorem gok : GOk Tryd.prog G := by
  intro f
  refine ⟨fun g h => ?_, fun g h => ?_, fun run h => ?_, fun run h => ?_⟩
  · unfold G at h
    split at h <;> rcases h with h | h <;> cases h
    · exact tie6
    · exact tie7
    · exact tie10
    · exact tie11
    · exact tie12
    · exact tie13
    · exact tie14
    · exact tie15
    · exact tie16
    · exact tie17
    · exact tie18
    · exact tie19
    · exact tie20
    · exact tie21
    · exact tie22
    · exact tie23
    · exact tie24
    · exact tie25
    · exact tie26
    · exact tie27
    · exact tie28
    · exact tie29
    · exact tie30
    · exact tie31
    · exact tie32
    · exact tie33
    · exact tie34
    · exact tie35
    · exact tie36
    · exact tie37
    · exact tie38
    · exact tie39
    · exact tie40
    · exact tie41
    · exact tie42
    · exact tie43
    · exact tie44
    · exact tie45
    · exact tie46
    · exact tie47
    · exact tie48
    · exact tie49
    · exact tie50
    · exact tie51
    · exact tie52
    · exact tie53
    · exact tie54
    · exact tie56
    · exact tie57
    · exact tie58
    · exact tie59
    · exact tie60
    · exact tie61
    · exact tie62
    · exact tie63
    · exact tie64
    · exact tie65
    · exact tie66
    · exact tie67
    · exact tie68
    · exact tie69
    · exact tie70
    · exact tie71
    · exact tie73
    · exact tie74
    · exact tie75
    · exact tie77
    · exact tie78
    · exact tie79
    · exact tie80
    · exact tie82
    · exact tie83
    · exact tie86
    · exact tie87
    · exact tie88
    · exact tie90
  · unfold G at h
    split at h <;> cases h
  · unfold G at h
    split at h <;> cases h
    · exact lib72
    · exact lib85
  · unfold G at h
    split at h <;> cases h
    · exact ext76
    · exact ext55
theorem gbyte : szK Tryd.prog Tryd.prog.rt.byte = some 1 := by kernel_rfl
theorem gmix : Tryd.prog.follows .mixedOrders = true := by kernel_rfl
end Go.Proofs.YtgbibkkcnkaelaaDoor
