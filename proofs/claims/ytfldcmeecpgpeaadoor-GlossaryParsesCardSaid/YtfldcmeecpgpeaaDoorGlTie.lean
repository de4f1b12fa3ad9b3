/-
  The ghost functions of this seat are the program's functions; the library's functions by their contracts.
-/
import Derived.Test.YtfldcmeecpgpeaaDoorRows
import Derived.Test.YtfldcmeecpgpeaaDoorGlG
import Derived.Test.YtfldcmeecpgpeaaDoorK5
import Derived.Shelf.Unicode.ValidAny
import Derived.Shelf.Strings.Search1
import Derived.Lib.LaidU8T
import Derived.Test.YtfldcmeecpgpeaaDoorSp
import Derived.Shelf.Strings.Replace
import Derived.Shelf.Strings.Search3
namespace Go.Proofs.YtfldcmeecpgpeaaDoor
open Go.Gh Go.RowKit
set_option maxRecDepth 100000
set_option linter.unusedVariables false
def LV_ren : Go.Shelf.Ren := ⟨fun | 196 => 49 | 259 => 81 | n => n, fun | 9 => 9 | 4 => 4 | 3 => 3 | 5 => 5 | 12 => 12 | 119 => 102 | 0 => 0 | 46 => 106 | 139 => 105 | 138 => 104 | 53 => 122 | n => n, fun | 3 => 0 | 4 => 1 | n => n⟩
theorem LV : Go.Proofs.Lays.n196 Tryd.prog LV_ren where
  mixed := by kernel_rfl
  f196 := Tryd.func49.trans (congrArg some (by kernel_rfl))
  f259 := Tryd.func81.trans (congrArg some (by kernel_rfl))
  t0 := Tryd.underlying0
  a0 := Tryd.isAgg0
  z0 := Tryd.sizeOf0
  v0 := Tryd.zeroValue0
  t3 := Tryd.underlying3
  a3 := Tryd.isAgg3
  z3 := Tryd.sizeOf3
  v3 := Tryd.zeroValue3
  t4 := Tryd.underlying4
  a4 := Tryd.isAgg4
  z4 := Tryd.sizeOf4
  v4 := Tryd.zeroValue4
  t5 := Tryd.underlying5
  a5 := Tryd.isAgg5
  z5 := Tryd.sizeOf5
  v5 := Tryd.zeroValue5
  t9 := Tryd.underlying9
  a9 := Tryd.isAgg9
  z9 := Tryd.sizeOf9
  v9 := Tryd.zeroValue9
  t12 := Tryd.underlying12
  a12 := Tryd.isAgg12
  z12 := Tryd.sizeOf12
  v12 := Tryd.zeroValue12
  t46 := Tryd.underlying106
  a46 := Tryd.isAgg106
  z46 := Tryd.sizeOf106
  v46 := Tryd.zeroValue106
  t53 := Tryd.underlying122
  a53 := Tryd.isAgg122
  z53 := Tryd.sizeOf122
  v53 := Tryd.zeroValue122
  t119 := Tryd.underlying102
  a119 := Tryd.isAgg102
  z119 := Tryd.sizeOf102
  t138 := Tryd.underlying104
  a138 := Tryd.isAgg104
  z138 := Tryd.sizeOf104
  v138 := Tryd.zeroValue104
  t139 := Tryd.underlying105
  a139 := Tryd.isAgg105
  z139 := Tryd.sizeOf105
  v139 := Tryd.zeroValue105
  g3 := by kernel_rfl
  g4 := by kernel_rfl
def LI_ren : Go.Shelf.Ren := ⟨fun | 217 => 107 | 266 => 112 | n => n, fun | 9 => 9 | 5 => 5 | 3 => 3 | n => n, fun n => n⟩
theorem LI : Go.Proofs.Lays.n217 Tryd.prog LI_ren where
  mixed := by kernel_rfl
  f217 := Tryd.func107.trans (congrArg some (by kernel_rfl))
  f266 := Tryd.func112.trans (congrArg some (by kernel_rfl))
  t3 := Tryd.underlying3
  a3 := Tryd.isAgg3
  z3 := Tryd.sizeOf3
  v3 := Tryd.zeroValue3
  t5 := Tryd.underlying5
  a5 := Tryd.isAgg5
  z5 := Tryd.sizeOf5
  v5 := Tryd.zeroValue5
  t9 := Tryd.underlying9
  a9 := Tryd.isAgg9
  z9 := Tryd.sizeOf9
  v9 := Tryd.zeroValue9
def LCt_ren : Go.Shelf.Ren := ⟨fun | 144 => 50 | 143 => 77 | 219 => 98 | 217 => 107 | 225 => 108 | 224 => 109 | 267 => 110 | 266 => 112 | 314 => 113 | n => n, fun | 9 => 9 | 4 => 4 | 3 => 3 | 5 => 5 | 46 => 106 | 146 => 129 | 51 => 123 | n => n, fun | 1 => 2 | n => n⟩
theorem LCt : Go.Proofs.Lays.n144 Tryd.prog LCt_ren where
  mixed := by kernel_rfl
  f143 := Tryd.func77.trans (congrArg some (by kernel_rfl))
  f144 := Tryd.func50.trans (congrArg some (by kernel_rfl))
  f217 := Tryd.func107.trans (congrArg some (by kernel_rfl))
  f219 := Tryd.func98.trans (congrArg some (by kernel_rfl))
  f224 := Tryd.func109.trans (congrArg some (by kernel_rfl))
  f225 := Tryd.func108.trans (congrArg some (by kernel_rfl))
  f266 := Tryd.func112.trans (congrArg some (by kernel_rfl))
  f267 := Tryd.func110.trans (congrArg some (by kernel_rfl))
  f314 := Tryd.func113.trans (congrArg some (by kernel_rfl))
  t3 := Tryd.underlying3
  a3 := Tryd.isAgg3
  z3 := Tryd.sizeOf3
  v3 := Tryd.zeroValue3
  t4 := Tryd.underlying4
  a4 := Tryd.isAgg4
  z4 := Tryd.sizeOf4
  v4 := Tryd.zeroValue4
  t5 := Tryd.underlying5
  a5 := Tryd.isAgg5
  z5 := Tryd.sizeOf5
  v5 := Tryd.zeroValue5
  t9 := Tryd.underlying9
  a9 := Tryd.isAgg9
  z9 := Tryd.sizeOf9
  v9 := Tryd.zeroValue9
  t46 := Tryd.underlying106
  a46 := Tryd.isAgg106
  z46 := Tryd.sizeOf106
  v46 := Tryd.zeroValue106
  t51 := Tryd.underlying123
  a51 := Tryd.isAgg123
  z51 := Tryd.sizeOf123
  v51 := Tryd.zeroValue123
  t146 := Tryd.underlying129
  a146 := Tryd.isAgg129
  z146 := Tryd.sizeOf129
  v146 := Tryd.zeroValue129
  g1 := by kernel_rfl
def LRa_ren : Go.Shelf.Ren := ⟨fun | 155 => 20 | 154 => 48 | 138 => 75 | 165 => 76 | 143 => 77 | 166 => 78 | 197 => 79 | 169 => 80 | 195 => 33 | 218 => 95 | 240 => 96 | 241 => 97 | 219 => 98 | 260 => 99 | 276 => 105 | 277 => 106 | 217 => 107 | 225 => 108 | 224 => 109 | 267 => 110 | 266 => 112 | 314 => 113 | n => n, fun | 9 => 9 | 3 => 3 | 4 => 4 | 72 => 93 | 0 => 0 | 76 => 97 | 105 => 99 | 21 => 21 | 5 => 5 | 70 => 90 | 20 => 20 | 37 => 91 | 75 => 96 | 127 => 121 | 164 => 125 | 46 => 106 | 119 => 102 | 139 => 105 | 138 => 104 | 146 => 129 | 51 => 123 | 80 => 62 | n => n, fun | 1 => 2 | 3 => 0 | 4 => 1 | n => n⟩
theorem LRa : Go.Proofs.Lays.n155 Tryd.prog LRa_ren where
  mixed := by kernel_rfl
  f138 := Tryd.func75.trans (congrArg some (by kernel_rfl))
  f143 := Tryd.func77.trans (congrArg some (by kernel_rfl))
  f154 := Tryd.func48.trans (congrArg some (by kernel_rfl))
  f155 := Tryd.func20.trans (congrArg some (by kernel_rfl))
  f165 := Tryd.func76.trans (congrArg some (by kernel_rfl))
  f166 := Tryd.func78.trans (congrArg some (by kernel_rfl))
  f169 := Tryd.func80.trans (congrArg some (by kernel_rfl))
  f195 := Tryd.func33.trans (congrArg some (by kernel_rfl))
  f197 := Tryd.func79.trans (congrArg some (by kernel_rfl))
  f217 := Tryd.func107.trans (congrArg some (by kernel_rfl))
  f218 := Tryd.func95.trans (congrArg some (by kernel_rfl))
  f219 := Tryd.func98.trans (congrArg some (by kernel_rfl))
  f224 := Tryd.func109.trans (congrArg some (by kernel_rfl))
  f225 := Tryd.func108.trans (congrArg some (by kernel_rfl))
  f240 := Tryd.func96.trans (congrArg some (by kernel_rfl))
  f241 := Tryd.func97.trans (congrArg some (by kernel_rfl))
  f260 := Tryd.func99.trans (congrArg some (by kernel_rfl))
  f266 := Tryd.func112.trans (congrArg some (by kernel_rfl))
  f267 := Tryd.func110.trans (congrArg some (by kernel_rfl))
  f276 := Tryd.func105.trans (congrArg some (by kernel_rfl))
  f277 := Tryd.func106.trans (congrArg some (by kernel_rfl))
  f314 := Tryd.func113.trans (congrArg some (by kernel_rfl))
  t0 := Tryd.underlying0
  a0 := Tryd.isAgg0
  z0 := Tryd.sizeOf0
  v0 := Tryd.zeroValue0
  t3 := Tryd.underlying3
  a3 := Tryd.isAgg3
  z3 := Tryd.sizeOf3
  v3 := Tryd.zeroValue3
  t4 := Tryd.underlying4
  a4 := Tryd.isAgg4
  z4 := Tryd.sizeOf4
  v4 := Tryd.zeroValue4
  t5 := Tryd.underlying5
  a5 := Tryd.isAgg5
  z5 := Tryd.sizeOf5
  v5 := Tryd.zeroValue5
  t9 := Tryd.underlying9
  a9 := Tryd.isAgg9
  z9 := Tryd.sizeOf9
  v9 := Tryd.zeroValue9
  t20 := Tryd.underlying20
  a20 := Tryd.isAgg20
  z20 := Tryd.sizeOf20
  v20 := Tryd.zeroValue20
  t21 := Tryd.underlying21
  a21 := Tryd.isAgg21
  z21 := Tryd.sizeOf21
  v21 := Tryd.zeroValue21
  t37 := Tryd.underlying91
  a37 := Tryd.isAgg91
  z37 := Tryd.sizeOf91
  v37 := Tryd.zeroValue91
  t46 := Tryd.underlying106
  a46 := Tryd.isAgg106
  z46 := Tryd.sizeOf106
  v46 := Tryd.zeroValue106
  t51 := Tryd.underlying123
  a51 := Tryd.isAgg123
  z51 := Tryd.sizeOf123
  v51 := Tryd.zeroValue123
  t70 := Tryd.underlying90
  a70 := Tryd.isAgg90
  z70 := Tryd.sizeOf90
  v70 := Tryd.zeroValue90
  t72 := Tryd.underlying93
  a72 := Tryd.isAgg93
  z72 := Tryd.sizeOf93
  v72 := Tryd.zeroValue93
  t75 := Tryd.underlying96
  a75 := Tryd.isAgg96
  z75 := Tryd.sizeOf96
  v75 := Tryd.zeroValue96
  t76 := Tryd.underlying97
  a76 := Tryd.isAgg97
  z76 := Tryd.sizeOf97
  v76 := Tryd.zeroValue97
  t105 := Tryd.underlying99
  a105 := Tryd.isAgg99
  z105 := Tryd.sizeOf99
  v105 := Tryd.zeroValue99
  t119 := Tryd.underlying102
  a119 := Tryd.isAgg102
  z119 := Tryd.sizeOf102
  t127 := Tryd.underlying121
  a127 := Tryd.isAgg121
  z127 := Tryd.sizeOf121
  v127 := Tryd.zeroValue121
  t138 := Tryd.underlying104
  a138 := Tryd.isAgg104
  z138 := Tryd.sizeOf104
  v138 := Tryd.zeroValue104
  t139 := Tryd.underlying105
  a139 := Tryd.isAgg105
  z139 := Tryd.sizeOf105
  v139 := Tryd.zeroValue105
  t146 := Tryd.underlying129
  a146 := Tryd.isAgg129
  z146 := Tryd.sizeOf129
  v146 := Tryd.zeroValue129
  t164 := Tryd.underlying125
  a164 := Tryd.isAgg125
  z164 := Tryd.sizeOf125
  v164 := Tryd.zeroValue125
  g1 := by kernel_rfl
  g3 := by kernel_rfl
  g4 := by kernel_rfl
def LSp_ren : Go.Shelf.Ren := ⟨fun | 146 => 62 | 221 => 86 | 268 => 102 | 138 => 75 | 143 => 77 | 195 => 33 | 197 => 79 | 218 => 95 | 219 => 98 | 260 => 99 | 217 => 107 | 225 => 108 | 224 => 109 | 267 => 110 | 266 => 112 | 314 => 113 | n => n, fun | 9 => 9 | 31 => 34 | 3 => 3 | 4 => 4 | 0 => 0 | 105 => 99 | 21 => 21 | 5 => 5 | 46 => 106 | 119 => 102 | 139 => 105 | 138 => 104 | 146 => 129 | 51 => 123 | n => n, fun | 1 => 2 | 3 => 0 | 4 => 1 | n => n⟩
theorem LSp : Go.Proofs.Lays.n146 Tryd.prog LSp_ren where
  mixed := by kernel_rfl
  f138 := Tryd.func75.trans (congrArg some (by kernel_rfl))
  f143 := Tryd.func77.trans (congrArg some (by kernel_rfl))
  f146 := Tryd.func62.trans (congrArg some (by kernel_rfl))
  f195 := Tryd.func33.trans (congrArg some (by kernel_rfl))
  f197 := Tryd.func79.trans (congrArg some (by kernel_rfl))
  f217 := Tryd.func107.trans (congrArg some (by kernel_rfl))
  f218 := Tryd.func95.trans (congrArg some (by kernel_rfl))
  f219 := Tryd.func98.trans (congrArg some (by kernel_rfl))
  f221 := Tryd.func86.trans (congrArg some (by kernel_rfl))
  f224 := Tryd.func109.trans (congrArg some (by kernel_rfl))
  f225 := Tryd.func108.trans (congrArg some (by kernel_rfl))
  f260 := Tryd.func99.trans (congrArg some (by kernel_rfl))
  f266 := Tryd.func112.trans (congrArg some (by kernel_rfl))
  f267 := Tryd.func110.trans (congrArg some (by kernel_rfl))
  f268 := Tryd.func102.trans (congrArg some (by kernel_rfl))
  f314 := Tryd.func113.trans (congrArg some (by kernel_rfl))
  t0 := Tryd.underlying0
  a0 := Tryd.isAgg0
  z0 := Tryd.sizeOf0
  v0 := Tryd.zeroValue0
  t3 := Tryd.underlying3
  a3 := Tryd.isAgg3
  z3 := Tryd.sizeOf3
  v3 := Tryd.zeroValue3
  t4 := Tryd.underlying4
  a4 := Tryd.isAgg4
  z4 := Tryd.sizeOf4
  v4 := Tryd.zeroValue4
  t5 := Tryd.underlying5
  a5 := Tryd.isAgg5
  z5 := Tryd.sizeOf5
  v5 := Tryd.zeroValue5
  t9 := Tryd.underlying9
  a9 := Tryd.isAgg9
  z9 := Tryd.sizeOf9
  v9 := Tryd.zeroValue9
  t21 := Tryd.underlying21
  a21 := Tryd.isAgg21
  z21 := Tryd.sizeOf21
  v21 := Tryd.zeroValue21
  t31 := Tryd.underlying34
  a31 := Tryd.isAgg34
  z31 := Tryd.sizeOf34
  v31 := Tryd.zeroValue34
  t46 := Tryd.underlying106
  a46 := Tryd.isAgg106
  z46 := Tryd.sizeOf106
  v46 := Tryd.zeroValue106
  t51 := Tryd.underlying123
  a51 := Tryd.isAgg123
  z51 := Tryd.sizeOf123
  v51 := Tryd.zeroValue123
  t105 := Tryd.underlying99
  a105 := Tryd.isAgg99
  z105 := Tryd.sizeOf99
  v105 := Tryd.zeroValue99
  t119 := Tryd.underlying102
  a119 := Tryd.isAgg102
  z119 := Tryd.sizeOf102
  t138 := Tryd.underlying104
  a138 := Tryd.isAgg104
  z138 := Tryd.sizeOf104
  v138 := Tryd.zeroValue104
  t139 := Tryd.underlying105
  a139 := Tryd.isAgg105
  z139 := Tryd.sizeOf105
  v139 := Tryd.zeroValue105
  t146 := Tryd.underlying129
  a146 := Tryd.isAgg129
  z146 := Tryd.sizeOf129
  v146 := Tryd.zeroValue129
  g1 := by kernel_rfl
  g3 := by kernel_rfl
  g4 := by kernel_rfl



theorem tie5 : ∃ fn, Tryd.prog.funcs[5]? = some fn ∧ cFun Tryd.prog fn = some g5 := ⟨Tryd.f5, Tryd.func5, by kernel_rfl⟩
theorem tie6 : ∃ fn, Tryd.prog.funcs[6]? = some fn ∧ cFun Tryd.prog fn = some g6 := ⟨Tryd.f6, Tryd.func6, by kernel_rfl⟩
theorem tie7 : ∃ fn, Tryd.prog.funcs[7]? = some fn ∧ cFun Tryd.prog fn = some g7 := ⟨Tryd.f7, Tryd.func7, by kernel_rfl⟩
theorem tie10 : ∃ fn, Tryd.prog.funcs[10]? = some fn ∧ cFun Tryd.prog fn = some g10 := ⟨Tryd.f10, Tryd.func10, by kernel_rfl⟩
theorem tie12 : ∃ fn, Tryd.prog.funcs[12]? = some fn ∧ cFun Tryd.prog fn = some g12 := ⟨Tryd.f12, Tryd.func12, by kernel_rfl⟩
theorem tie15 : ∃ fn, Tryd.prog.funcs[15]? = some fn ∧ cFun Tryd.prog fn = some g15 := ⟨Tryd.f15, Tryd.func15, by kernel_rfl⟩
theorem tie17 : ∃ fn, Tryd.prog.funcs[17]? = some fn ∧ cFun Tryd.prog fn = some g17 := ⟨Tryd.f17, Tryd.func17, by kernel_rfl⟩
theorem tie18 : ∃ fn, Tryd.prog.funcs[18]? = some fn ∧ cFun Tryd.prog fn = some g18 := ⟨Tryd.f18, Tryd.func18, by kernel_rfl⟩
theorem tie19 : ∃ fn, Tryd.prog.funcs[19]? = some fn ∧ cFun Tryd.prog fn = some g19 := ⟨Tryd.f19, Tryd.func19, by kernel_rfl⟩
theorem tie21 : ∃ fn, Tryd.prog.funcs[21]? = some fn ∧ cFun Tryd.prog fn = some g21 := ⟨Tryd.f21, Tryd.func21, by kernel_rfl⟩
theorem tie22 : ∃ fn, Tryd.prog.funcs[22]? = some fn ∧ cFun Tryd.prog fn = some g22 := ⟨Tryd.f22, Tryd.func22, by kernel_rfl⟩
theorem tie23 : ∃ fn, Tryd.prog.funcs[23]? = some fn ∧ cFun Tryd.prog fn = some g23 := ⟨Tryd.f23, Tryd.func23, by kernel_rfl⟩
theorem tie24 : ∃ fn, Tryd.prog.funcs[24]? = some fn ∧ cFun Tryd.prog fn = some g24 := ⟨Tryd.f24, Tryd.func24, by kernel_rfl⟩
theorem tie26 : ∃ fn, Tryd.prog.funcs[26]? = some fn ∧ cFun Tryd.prog fn = some g26 := ⟨Tryd.f26, Tryd.func26, by kernel_rfl⟩
theorem tie27 : ∃ fn, Tryd.prog.funcs[27]? = some fn ∧ cFun Tryd.prog fn = some g27 := ⟨Tryd.f27, Tryd.func27, by kernel_rfl⟩
theorem tie29 : ∃ fn, Tryd.prog.funcs[29]? = some fn ∧ cFun Tryd.prog fn = some g29 := ⟨Tryd.f29, Tryd.func29, by kernel_rfl⟩
theorem tie31 : ∃ fn, Tryd.prog.funcs[31]? = some fn ∧ cFun Tryd.prog fn = some g31 := ⟨Tryd.f31, Tryd.func31, by kernel_rfl⟩
theorem tie32 : ∃ fn, Tryd.prog.funcs[32]? = some fn ∧ cFun Tryd.prog fn = some g32 := ⟨Tryd.f32, Tryd.func32, by kernel_rfl⟩
theorem tie34 : ∃ fn, Tryd.prog.funcs[34]? = some fn ∧ cFun Tryd.prog fn = some g34 := ⟨Tryd.f34, Tryd.func34, by kernel_rfl⟩
theorem tie35 : ∃ fn, Tryd.prog.funcs[35]? = some fn ∧ cFun Tryd.prog fn = some g35 := ⟨Tryd.f35, Tryd.func35, by kernel_rfl⟩
theorem tie36 : ∃ fn, Tryd.prog.funcs[36]? = some fn ∧ cFun Tryd.prog fn = some g36 := ⟨Tryd.f36, Tryd.func36, by kernel_rfl⟩
theorem tie37 : ∃ fn, Tryd.prog.funcs[37]? = some fn ∧ cFun Tryd.prog fn = some g37 := ⟨Tryd.f37, Tryd.func37, by kernel_rfl⟩
theorem tie38 : ∃ fn, Tryd.prog.funcs[38]? = some fn ∧ cFun Tryd.prog fn = some g38 := ⟨Tryd.f38, Tryd.func38, by kernel_rfl⟩
theorem tie39 : ∃ fn, Tryd.prog.funcs[39]? = some fn ∧ cFun Tryd.prog fn = some g39 := ⟨Tryd.f39, Tryd.func39, by kernel_rfl⟩
theorem tie40 : ∃ fn, Tryd.prog.funcs[40]? = some fn ∧ cFun Tryd.prog fn = some g40 := ⟨Tryd.f40, Tryd.func40, by kernel_rfl⟩
theorem tie41 : ∃ fn, Tryd.prog.funcs[41]? = some fn ∧ cFun Tryd.prog fn = some g41 := ⟨Tryd.f41, Tryd.func41, by kernel_rfl⟩
theorem tie42 : ∃ fn, Tryd.prog.funcs[42]? = some fn ∧ cFun Tryd.prog fn = some g42 := ⟨Tryd.f42, Tryd.func42, by kernel_rfl⟩
theorem tie43 : ∃ fn, Tryd.prog.funcs[43]? = some fn ∧ cFun Tryd.prog fn = some g43 := ⟨Tryd.f43, Tryd.func43, by kernel_rfl⟩
theorem tie44 : ∃ fn, Tryd.prog.funcs[44]? = some fn ∧ cFun Tryd.prog fn = some g44 := ⟨Tryd.f44, Tryd.func44, by kernel_rfl⟩
theorem tie45 : ∃ fn, Tryd.prog.funcs[45]? = some fn ∧ cFun Tryd.prog fn = some g45 := ⟨Tryd.f45, Tryd.func45, by kernel_rfl⟩
theorem tie46 : ∃ fn, Tryd.prog.funcs[46]? = some fn ∧ cFun Tryd.prog fn = some g46 := ⟨Tryd.f46, Tryd.func46, by kernel_rfl⟩
theorem tie47 : ∃ fn, Tryd.prog.funcs[47]? = some fn ∧ cFun Tryd.prog fn = some g47 := ⟨Tryd.f47, Tryd.func47, by kernel_rfl⟩
theorem tie51 : ∃ fn, Tryd.prog.funcs[51]? = some fn ∧ cFun Tryd.prog fn = some g51 := ⟨Tryd.f51, Tryd.func51, by kernel_rfl⟩
theorem tie52 : ∃ fn, Tryd.prog.funcs[52]? = some fn ∧ cFun Tryd.prog fn = some g52 := ⟨Tryd.f52, Tryd.func52, by kernel_rfl⟩
theorem tie53 : ∃ fn, Tryd.prog.funcs[53]? = some fn ∧ cFun Tryd.prog fn = some g53 := ⟨Tryd.f53, Tryd.func53, by kernel_rfl⟩
theorem tie54 : ∃ fn, Tryd.prog.funcs[54]? = some fn ∧ cFun Tryd.prog fn = some g54 := ⟨Tryd.f54, Tryd.func54, by kernel_rfl⟩
theorem tie55 : ∃ fn, Tryd.prog.funcs[55]? = some fn ∧ cFun Tryd.prog fn = some g55 := ⟨Tryd.f55, Tryd.func55, by kernel_rfl⟩
theorem tie57 : ∃ fn, Tryd.prog.funcs[57]? = some fn ∧ cFun Tryd.prog fn = some g57 := ⟨Tryd.f57, Tryd.func57, by kernel_rfl⟩
theorem tie58 : ∃ fn, Tryd.prog.funcs[58]? = some fn ∧ cFun Tryd.prog fn = some g58 := ⟨Tryd.f58, Tryd.func58, by kernel_rfl⟩
theorem tie60 : ∃ fn, Tryd.prog.funcs[60]? = some fn ∧ cFun Tryd.prog fn = some g60 := ⟨Tryd.f60, Tryd.func60, by kernel_rfl⟩
theorem tie61 : ∃ fn, Tryd.prog.funcs[61]? = some fn ∧ cFun Tryd.prog fn = some g61 := ⟨Tryd.f61, Tryd.func61, by kernel_rfl⟩
theorem tie63 : ∃ fn, Tryd.prog.funcs[63]? = some fn ∧ cFun Tryd.prog fn = some g63 := ⟨Tryd.f63, Tryd.func63, by kernel_rfl⟩
theorem tie64 : ∃ fn, Tryd.prog.funcs[64]? = some fn ∧ cFun Tryd.prog fn = some g64 := ⟨Tryd.f64, Tryd.func64, by kernel_rfl⟩
theorem tie65 : ∃ fn, Tryd.prog.funcs[65]? = some fn ∧ cFun Tryd.prog fn = some g65 := ⟨Tryd.f65, Tryd.func65, by kernel_rfl⟩
theorem tie66 : ∃ fn, Tryd.prog.funcs[66]? = some fn ∧ cFun Tryd.prog fn = some g66 := ⟨Tryd.f66, Tryd.func66, by kernel_rfl⟩
theorem tie67 : ∃ fn, Tryd.prog.funcs[67]? = some fn ∧ cFun Tryd.prog fn = some g67 := ⟨Tryd.f67, Tryd.func67, by kernel_rfl⟩
theorem tie68 : ∃ fn, Tryd.prog.funcs[68]? = some fn ∧ cFun Tryd.prog fn = some g68 := ⟨Tryd.f68, Tryd.func68, by kernel_rfl⟩
theorem tie69 : ∃ fn, Tryd.prog.funcs[69]? = some fn ∧ cFun Tryd.prog fn = some g69 := ⟨Tryd.f69, Tryd.func69, by kernel_rfl⟩
theorem tie70 : ∃ fn, Tryd.prog.funcs[70]? = some fn ∧ cFun Tryd.prog fn = some g70 := ⟨Tryd.f70, Tryd.func70, by kernel_rfl⟩
theorem tie71 : ∃ fn, Tryd.prog.funcs[71]? = some fn ∧ cFun Tryd.prog fn = some g71 := ⟨Tryd.f71, Tryd.func71, by kernel_rfl⟩
theorem tie72 : ∃ fn, Tryd.prog.funcs[72]? = some fn ∧ cFun Tryd.prog fn = some g72 := ⟨Tryd.f72, Tryd.func72, by kernel_rfl⟩
theorem tie73 : ∃ fn, Tryd.prog.funcs[73]? = some fn ∧ cFun Tryd.prog fn = some g73 := ⟨Tryd.f73, Tryd.func73, by kernel_rfl⟩
theorem tie74 : ∃ fn, Tryd.prog.funcs[74]? = some fn ∧ cFun Tryd.prog fn = some g74 := ⟨Tryd.f74, Tryd.func74, by kernel_rfl⟩
theorem tie82 : ∃ fn, Tryd.prog.funcs[82]? = some fn ∧ cFun Tryd.prog fn = some g82 := ⟨Tryd.f82, Tryd.func82, by kernel_rfl⟩
theorem tie83 : ∃ fn, Tryd.prog.funcs[83]? = some fn ∧ cFun Tryd.prog fn = some g83 := ⟨Tryd.f83, Tryd.func83, by kernel_rfl⟩
theorem tie84 : ∃ fn, Tryd.prog.funcs[84]? = some fn ∧ cFun Tryd.prog fn = some g84 := ⟨Tryd.f84, Tryd.func84, by kernel_rfl⟩
theorem tie85 : ∃ fn, Tryd.prog.funcs[85]? = some fn ∧ cFun Tryd.prog fn = some g85 := ⟨Tryd.f85, Tryd.func85, by kernel_rfl⟩
theorem tie87 : ∃ fn, Tryd.prog.funcs[87]? = some fn ∧ cFun Tryd.prog fn = some g87 := ⟨Tryd.f87, Tryd.func87, by kernel_rfl⟩
theorem tie88 : ∃ fn, Tryd.prog.funcs[88]? = some fn ∧ cFun Tryd.prog fn = some g88 := ⟨Tryd.f88, Tryd.func88, by kernel_rfl⟩
theorem tie89 : ∃ fn, Tryd.prog.funcs[89]? = some fn ∧ cFun Tryd.prog fn = some g89 := ⟨Tryd.f89, Tryd.func89, by kernel_rfl⟩
theorem tie90 : ∃ fn, Tryd.prog.funcs[90]? = some fn ∧ cFun Tryd.prog fn = some g90 := ⟨Tryd.f90, Tryd.func90, by kernel_rfl⟩
theorem tie91 : ∃ fn, Tryd.prog.funcs[91]? = some fn ∧ cFun Tryd.prog fn = some g91 := ⟨Tryd.f91, Tryd.func91, by kernel_rfl⟩
theorem tie92 : ∃ fn, Tryd.prog.funcs[92]? = some fn ∧ cFun Tryd.prog fn = some g92 := ⟨Tryd.f92, Tryd.func92, by kernel_rfl⟩
theorem tie93 : ∃ fn, Tryd.prog.funcs[93]? = some fn ∧ cFun Tryd.prog fn = some g93 := ⟨Tryd.f93, Tryd.func93, by kernel_rfl⟩
theorem tie94 : ∃ fn, Tryd.prog.funcs[94]? = some fn ∧ cFun Tryd.prog fn = some g94 := ⟨Tryd.f94, Tryd.func94, by kernel_rfl⟩
theorem tie100 : ∃ fn, Tryd.prog.funcs[100]? = some fn ∧ cFun Tryd.prog fn = some g100 := ⟨Tryd.f100, Tryd.func100, by kernel_rfl⟩
theorem tie101 : ∃ fn, Tryd.prog.funcs[101]? = some fn ∧ cFun Tryd.prog fn = some g101 := ⟨Tryd.f101, Tryd.func101, by kernel_rfl⟩
theorem tie103 : ∃ fn, Tryd.prog.funcs[103]? = some fn ∧ cFun Tryd.prog fn = some g103 := ⟨Tryd.f103, Tryd.func103, by kernel_rfl⟩
theorem tie104 : ∃ fn, Tryd.prog.funcs[104]? = some fn ∧ cFun Tryd.prog fn = some g104 := ⟨Tryd.f104, Tryd.func104, by kernel_rfl⟩
theorem tie109 : ∃ fn, Tryd.prog.funcs[109]? = some fn ∧ cFun Tryd.prog fn = some g109 := ⟨Tryd.f109, Tryd.func109, by kernel_rfl⟩
theorem tie111 : ∃ fn, Tryd.prog.funcs[111]? = some fn ∧ cFun Tryd.prog fn = some g111 := ⟨Tryd.f111, Tryd.func111, by kernel_rfl⟩
theorem xra : Builder.Extra Tryd.prog LRa_ren := ⟨⟨by kernel_rfl, by kernel_rfl⟩, Tryd.underlying5, Tryd.isAgg5, Tryd.sizeOf5, Tryd.zeroValue5, by kernel_rfl, by kernel_rfl, by kernel_rfl, by decide⟩
theorem lib49 : (∀ (asl : Array Value) (w : World), (callFunc 49 asl).run Tryd.prog w = .ok (.enter 49 asl) w) ∧
    ∀ args v, args.all litOk = true → runValid args = some v → litVal v = true → ∀ w : World, gT Tryd.prog w → Calls Tryd.prog 49 args.toArray w fun e w' => e = .returned v ∧ Below w.heap.size w w' := by
  refine ⟨fun asl w => callFunc_enter Tryd.func49 (by kernel_rfl) rfl asl w, fun args v _ hr _ w hT => ?_⟩
  unfold runValid at hr
  split at hr
  · split at hr
    · rename_i hs
      cases hr
      exact Any.utf8_ValidString LV _ w hs hT.1
    · cases hr
  · cases hr
theorem lib107 : (∀ (asl : Array Value) (w : World), (callFunc 107 asl).run Tryd.prog w = .ok (.enter 107 asl) w) ∧
    ∀ args v, args.all litOk = true → runIndexByte args = some v → litVal v = true → ∀ w : World, gT Tryd.prog w → Calls Tryd.prog 107 args.toArray w fun e w' => e = .returned v ∧ Below w.heap.size w w' := by
  refine ⟨fun asl w => callFunc_enter Tryd.func107 (by kernel_rfl) rfl asl w, fun args v _ hr _ w hT => ?_⟩
  unfold runIndexByte at hr
  split at hr
  · cases hr
    refine (Any.stringslite_IndexByte LI _ _ w).mono fun e w' hh => ?_
    obtain ⟨rfl, rfl⟩ := hh
    exact ⟨rfl, Below.refl _ _⟩
  · cases hr
theorem lib50 : (∀ (asl : Array Value) (w : World), (callFunc 50 asl).run Tryd.prog w = .ok (.enter 50 asl) w) ∧
    ∀ args v, args.all litOk = true → runContains args = some v → litVal v = true → ∀ w : World, gT Tryd.prog w → Calls Tryd.prog 50 args.toArray w fun e w' => e = .returned v ∧ Below w.heap.size w w' := by
  refine ⟨fun asl w => callFunc_enter Tryd.func50 (by kernel_rfl) rfl asl w, fun args v _ hr _ w hT => ?_⟩
  unfold runContains at hr
  split at hr
  · split at hr
    · rename_i hs
      cases hr
      obtain ⟨m, hm⟩ := hT.2
      refine (Any.strings_Contains LCt _ _ m w hs hm).mono fun e w' hh => ?_
      obtain ⟨rfl, rfl⟩ := hh
      exact ⟨rfl, Below.refl _ _⟩
    · cases hr
  · cases hr
theorem lib20 : (∀ (asl : Array Value) (w : World), (callFunc 20 asl).run Tryd.prog w = .ok (.enter 20 asl) w) ∧
    ∀ args v, args.all litOk = true → runReplaceAll args = some v → litVal v = true → ∀ w : World, gT Tryd.prog w → Calls Tryd.prog 20 args.toArray w fun e w' => e = .returned v ∧ Below w.heap.size w w' := by
  refine ⟨fun asl w => callFunc_enter Tryd.func20 (by kernel_rfl) rfl asl w, fun args v _ hr _ w hT => ?_⟩
  unfold runReplaceAll at hr
  split at hr
  · split at hr
    · rename_i hs
      cases hr
      obtain ⟨m, hm⟩ := hT.2
      exact Any.strings_ReplaceAll LRa xra _ _ _ m w hs.1 hm hs.2.1 hs.2.2
    · cases hr
  · cases hr
theorem ext62 : ExtOk Tryd.prog 62 runSplit := split_ok (fun asl w => callFunc_enter Tryd.func62 (by kernel_rfl) rfl asl w) (fun s sep m w h1 h2 h3 => Any.strings_Split LSp (by kernel_rfl) s sep m w h1 h2 h3)
theorem gok : GOk Tryd.prog G := by
  intro f
  refine ⟨fun g h => ?_, fun g h => ?_, fun run h => ?_, fun run h => ?_⟩
  · unfold G at h
    split at h <;> rcases h with h | h <;> cases h
    · exact tie5
    · exact tie6
    · exact tie7
    · exact tie10
    · exact tie12
    · exact tie15
    · exact tie17
    · exact tie18
    · exact tie19
    · exact tie21
    · exact tie22
    · exact tie23
    · exact tie24
    · exact tie26
    · exact tie27
    · exact tie29
    · exact tie31
    · exact tie32
    · exact tie34
    · exact tie35
    · exact tie36
    · exact tie37
    · exact tie38
    · exact tie39
    · exact tie40
    · exact tie41
    · exact tie42
    · exact tie43
    · exact tie44
    · exact tie45
    · exact tie46
    · exact tie47
    · exact tie51
    · exact tie52
    · exact tie53
    · exact tie54
    · exact tie55
    · exact tie57
    · exact tie58
    · exact tie60
    · exact tie61
    · exact tie63
    · exact tie64
    · exact tie65
    · exact tie66
    · exact tie67
    · exact tie68
    · exact tie69
    · exact tie70
    · exact tie71
    · exact tie72
    · exact tie73
    · exact tie74
    · exact tie82
    · exact tie83
    · exact tie84
    · exact tie85
    · exact tie87
    · exact tie88
    · exact tie89
    · exact tie90
    · exact tie91
    · exact tie92
    · exact tie93
    · exact tie94
    · exact tie100
    · exact tie101
    · exact tie103
    · exact tie104
    · exact tie109
    · exact tie111
  · unfold G at h
    split at h <;> cases h
  · unfold G at h
    split at h <;> cases h
    · exact lib49
    · exact lib107
    · exact lib50
    · exact lib20
  · unfold G at h
    split at h <;> cases h
    · exact ext62
theorem gbyte : szK Tryd.prog Tryd.prog.rt.byte = some 1 := by kernel_rfl
theorem gmix : Tryd.prog.follows .mixedOrders = true := by kernel_rfl
end Go.Proofs.YtfldcmeecpgpeaaDoor
