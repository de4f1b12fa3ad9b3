/-
  The ghost functions of this seat are the program's functions; the library's functions by their contracts.
-/
import Derived.Test.YtfldcmeecpgpeaaGreatDoorRows
import Derived.Test.YtfldcmeecpgpeaaGreatDoorGlG
import Derived.Test.YtfldcmeecpgpeaaGreatDoorK5
import Derived.Shelf.Unicode.ValidAny
import Derived.Shelf.Strings.Search1
import Derived.Lib.LaidU8T
import Derived.Test.YtfldcmeecpgpeaaGreatDoorSp
import Derived.Shelf.Strings.Replace
import Derived.Shelf.Strings.Search3
import Derived.Test.YtfldcmeecpgpeaaGreatDoorBd
import Derived.Test.YtfldcmeecpgpeaaGreatDoorBs
namespace Go.Proofs.YtfldcmeecpgpeaaGreatDoor
open Go.Gh Go.RowKit
set_option maxRecDepth 100000
set_option linter.unusedVariables false
def LV_ren : Go.Shelf.Ren := ⟨fun | 196 => 62 | 259 => 82 | n => n, fun | 9 => 9 | 4 => 4 | 3 => 3 | 5 => 5 | 12 => 12 | 119 => 109 | 0 => 0 | 46 => 113 | 139 => 112 | 138 => 111 | 53 => 122 | n => n, fun | 3 => 0 | 4 => 1 | n => n⟩
theorem LV : Go.Proofs.Lays.n196 Tryz.prog LV_ren where
  mixed := by kernel_rfl
  f196 := Tryz.func62.trans (congrArg some (by kernel_rfl))
  f259 := Tryz.func82.trans (congrArg some (by kernel_rfl))
  t0 := Tryz.underlying0
  a0 := Tryz.isAgg0
  z0 := Tryz.sizeOf0
  v0 := Tryz.zeroValue0
  t3 := Tryz.underlying3
  a3 := Tryz.isAgg3
  z3 := Tryz.sizeOf3
  v3 := Tryz.zeroValue3
  t4 := Tryz.underlying4
  a4 := Tryz.isAgg4
  z4 := Tryz.sizeOf4
  v4 := Tryz.zeroValue4
  t5 := Tryz.underlying5
  a5 := Tryz.isAgg5
  z5 := Tryz.sizeOf5
  v5 := Tryz.zeroValue5
  t9 := Tryz.underlying9
  a9 := Tryz.isAgg9
  z9 := Tryz.sizeOf9
  v9 := Tryz.zeroValue9
  t12 := Tryz.underlying12
  a12 := Tryz.isAgg12
  z12 := Tryz.sizeOf12
  v12 := Tryz.zeroValue12
  t46 := Tryz.underlying113
  a46 := Tryz.isAgg113
  z46 := Tryz.sizeOf113
  v46 := Tryz.zeroValue113
  t53 := Tryz.underlying122
  a53 := Tryz.isAgg122
  z53 := Tryz.sizeOf122
  v53 := Tryz.zeroValue122
  t119 := Tryz.underlying109
  a119 := Tryz.isAgg109
  z119 := Tryz.sizeOf109
  t138 := Tryz.underlying111
  a138 := Tryz.isAgg111
  z138 := Tryz.sizeOf111
  v138 := Tryz.zeroValue111
  t139 := Tryz.underlying112
  a139 := Tryz.isAgg112
  z139 := Tryz.sizeOf112
  v139 := Tryz.zeroValue112
  g3 := by kernel_rfl
  g4 := by kernel_rfl
def LI_ren : Go.Shelf.Ren := ⟨fun | 217 => 96 | 266 => 102 | n => n, fun | 9 => 9 | 5 => 5 | 3 => 3 | n => n, fun n => n⟩
theorem LI : Go.Proofs.Lays.n217 Tryz.prog LI_ren where
  mixed := by kernel_rfl
  f217 := Tryz.func96.trans (congrArg some (by kernel_rfl))
  f266 := Tryz.func102.trans (congrArg some (by kernel_rfl))
  t3 := Tryz.underlying3
  a3 := Tryz.isAgg3
  z3 := Tryz.sizeOf3
  v3 := Tryz.zeroValue3
  t5 := Tryz.underlying5
  a5 := Tryz.isAgg5
  z5 := Tryz.sizeOf5
  v5 := Tryz.zeroValue5
  t9 := Tryz.underlying9
  a9 := Tryz.isAgg9
  z9 := Tryz.sizeOf9
  v9 := Tryz.zeroValue9
def LCt_ren : Go.Shelf.Ren := ⟨fun | 144 => 42 | 143 => 69 | 219 => 86 | 217 => 96 | 225 => 97 | 224 => 98 | 267 => 99 | 266 => 102 | 314 => 103 | n => n, fun | 9 => 9 | 4 => 4 | 3 => 3 | 5 => 5 | 46 => 113 | 146 => 126 | 51 => 123 | n => n, fun | 1 => 2 | n => n⟩
theorem LCt : Go.Proofs.Lays.n144 Tryz.prog LCt_ren where
  mixed := by kernel_rfl
  f143 := Tryz.func69.trans (congrArg some (by kernel_rfl))
  f144 := Tryz.func42.trans (congrArg some (by kernel_rfl))
  f217 := Tryz.func96.trans (congrArg some (by kernel_rfl))
  f219 := Tryz.func86.trans (congrArg some (by kernel_rfl))
  f224 := Tryz.func98.trans (congrArg some (by kernel_rfl))
  f225 := Tryz.func97.trans (congrArg some (by kernel_rfl))
  f266 := Tryz.func102.trans (congrArg some (by kernel_rfl))
  f267 := Tryz.func99.trans (congrArg some (by kernel_rfl))
  f314 := Tryz.func103.trans (congrArg some (by kernel_rfl))
  t3 := Tryz.underlying3
  a3 := Tryz.isAgg3
  z3 := Tryz.sizeOf3
  v3 := Tryz.zeroValue3
  t4 := Tryz.underlying4
  a4 := Tryz.isAgg4
  z4 := Tryz.sizeOf4
  v4 := Tryz.zeroValue4
  t5 := Tryz.underlying5
  a5 := Tryz.isAgg5
  z5 := Tryz.sizeOf5
  v5 := Tryz.zeroValue5
  t9 := Tryz.underlying9
  a9 := Tryz.isAgg9
  z9 := Tryz.sizeOf9
  v9 := Tryz.zeroValue9
  t46 := Tryz.underlying113
  a46 := Tryz.isAgg113
  z46 := Tryz.sizeOf113
  v46 := Tryz.zeroValue113
  t51 := Tryz.underlying123
  a51 := Tryz.isAgg123
  z51 := Tryz.sizeOf123
  v51 := Tryz.zeroValue123
  t146 := Tryz.underlying126
  a146 := Tryz.isAgg126
  z146 := Tryz.sizeOf126
  v146 := Tryz.zeroValue126
  g1 := by kernel_rfl
def LRa_ren : Go.Shelf.Ren := ⟨fun | 155 => 38 | 154 => 61 | 138 => 79 | 165 => 80 | 143 => 69 | 166 => 54 | 197 => 81 | 169 => 56 | 195 => 90 | 218 => 91 | 240 => 74 | 241 => 92 | 219 => 86 | 260 => 93 | 276 => 87 | 277 => 100 | 217 => 96 | 225 => 97 | 224 => 98 | 267 => 99 | 266 => 102 | 314 => 103 | n => n, fun | 9 => 9 | 3 => 3 | 4 => 4 | 72 => 79 | 0 => 0 | 76 => 85 | 105 => 106 | 21 => 21 | 5 => 5 | 70 => 76 | 20 => 20 | 37 => 77 | 75 => 81 | 127 => 100 | 164 => 117 | 46 => 113 | 119 => 109 | 139 => 112 | 138 => 111 | 146 => 126 | 51 => 123 | 80 => 62 | n => n, fun | 1 => 2 | 3 => 0 | 4 => 1 | n => n⟩
theorem LRa : Go.Proofs.Lays.n155 Tryz.prog LRa_ren where
  mixed := by kernel_rfl
  f138 := Tryz.func79.trans (congrArg some (by kernel_rfl))
  f143 := Tryz.func69.trans (congrArg some (by kernel_rfl))
  f154 := Tryz.func61.trans (congrArg some (by kernel_rfl))
  f155 := Tryz.func38.trans (congrArg some (by kernel_rfl))
  f165 := Tryz.func80.trans (congrArg some (by kernel_rfl))
  f166 := Tryz.func54.trans (congrArg some (by kernel_rfl))
  f169 := Tryz.func56.trans (congrArg some (by kernel_rfl))
  f195 := Tryz.func90.trans (congrArg some (by kernel_rfl))
  f197 := Tryz.func81.trans (congrArg some (by kernel_rfl))
  f217 := Tryz.func96.trans (congrArg some (by kernel_rfl))
  f218 := Tryz.func91.trans (congrArg some (by kernel_rfl))
  f219 := Tryz.func86.trans (congrArg some (by kernel_rfl))
  f224 := Tryz.func98.trans (congrArg some (by kernel_rfl))
  f225 := Tryz.func97.trans (congrArg some (by kernel_rfl))
  f240 := Tryz.func74.trans (congrArg some (by kernel_rfl))
  f241 := Tryz.func92.trans (congrArg some (by kernel_rfl))
  f260 := Tryz.func93.trans (congrArg some (by kernel_rfl))
  f266 := Tryz.func102.trans (congrArg some (by kernel_rfl))
  f267 := Tryz.func99.trans (congrArg some (by kernel_rfl))
  f276 := Tryz.func87.trans (congrArg some (by kernel_rfl))
  f277 := Tryz.func100.trans (congrArg some (by kernel_rfl))
  f314 := Tryz.func103.trans (congrArg some (by kernel_rfl))
  t0 := Tryz.underlying0
  a0 := Tryz.isAgg0
  z0 := Tryz.sizeOf0
  v0 := Tryz.zeroValue0
  t3 := Tryz.underlying3
  a3 := Tryz.isAgg3
  z3 := Tryz.sizeOf3
  v3 := Tryz.zeroValue3
  t4 := Tryz.underlying4
  a4 := Tryz.isAgg4
  z4 := Tryz.sizeOf4
  v4 := Tryz.zeroValue4
  t5 := Tryz.underlying5
  a5 := Tryz.isAgg5
  z5 := Tryz.sizeOf5
  v5 := Tryz.zeroValue5
  t9 := Tryz.underlying9
  a9 := Tryz.isAgg9
  z9 := Tryz.sizeOf9
  v9 := Tryz.zeroValue9
  t20 := Tryz.underlying20
  a20 := Tryz.isAgg20
  z20 := Tryz.sizeOf20
  v20 := Tryz.zeroValue20
  t21 := Tryz.underlying21
  a21 := Tryz.isAgg21
  z21 := Tryz.sizeOf21
  v21 := Tryz.zeroValue21
  t37 := Tryz.underlying77
  a37 := Tryz.isAgg77
  z37 := Tryz.sizeOf77
  v37 := Tryz.zeroValue77
  t46 := Tryz.underlying113
  a46 := Tryz.isAgg113
  z46 := Tryz.sizeOf113
  v46 := Tryz.zeroValue113
  t51 := Tryz.underlying123
  a51 := Tryz.isAgg123
  z51 := Tryz.sizeOf123
  v51 := Tryz.zeroValue123
  t70 := Tryz.underlying76
  a70 := Tryz.isAgg76
  z70 := Tryz.sizeOf76
  v70 := Tryz.zeroValue76
  t72 := Tryz.underlying79
  a72 := Tryz.isAgg79
  z72 := Tryz.sizeOf79
  v72 := Tryz.zeroValue79
  t75 := Tryz.underlying81
  a75 := Tryz.isAgg81
  z75 := Tryz.sizeOf81
  v75 := Tryz.zeroValue81
  t76 := Tryz.underlying85
  a76 := Tryz.isAgg85
  z76 := Tryz.sizeOf85
  v76 := Tryz.zeroValue85
  t105 := Tryz.underlying106
  a105 := Tryz.isAgg106
  z105 := Tryz.sizeOf106
  v105 := Tryz.zeroValue106
  t119 := Tryz.underlying109
  a119 := Tryz.isAgg109
  z119 := Tryz.sizeOf109
  t127 := Tryz.underlying100
  a127 := Tryz.isAgg100
  z127 := Tryz.sizeOf100
  v127 := Tryz.zeroValue100
  t138 := Tryz.underlying111
  a138 := Tryz.isAgg111
  z138 := Tryz.sizeOf111
  v138 := Tryz.zeroValue111
  t139 := Tryz.underlying112
  a139 := Tryz.isAgg112
  z139 := Tryz.sizeOf112
  v139 := Tryz.zeroValue112
  t146 := Tryz.underlying126
  a146 := Tryz.isAgg126
  z146 := Tryz.sizeOf126
  v146 := Tryz.zeroValue126
  t164 := Tryz.underlying117
  a164 := Tryz.isAgg117
  z164 := Tryz.sizeOf117
  v164 := Tryz.zeroValue117
  g1 := by kernel_rfl
  g3 := by kernel_rfl
  g4 := by kernel_rfl
def LSp_ren : Go.Shelf.Ren := ⟨fun | 146 => 57 | 221 => 76 | 268 => 88 | 138 => 79 | 143 => 69 | 195 => 90 | 197 => 81 | 218 => 91 | 219 => 86 | 260 => 93 | 217 => 96 | 225 => 97 | 224 => 98 | 267 => 99 | 266 => 102 | 314 => 103 | n => n, fun | 9 => 9 | 31 => 36 | 3 => 3 | 4 => 4 | 0 => 0 | 105 => 106 | 21 => 21 | 5 => 5 | 46 => 113 | 119 => 109 | 139 => 112 | 138 => 111 | 146 => 126 | 51 => 123 | n => n, fun | 1 => 2 | 3 => 0 | 4 => 1 | n => n⟩
theorem LSp : Go.Proofs.Lays.n146 Tryz.prog LSp_ren where
  mixed := by kernel_rfl
  f138 := Tryz.func79.trans (congrArg some (by kernel_rfl))
  f143 := Tryz.func69.trans (congrArg some (by kernel_rfl))
  f146 := Tryz.func57.trans (congrArg some (by kernel_rfl))
  f195 := Tryz.func90.trans (congrArg some (by kernel_rfl))
  f197 := Tryz.func81.trans (congrArg some (by kernel_rfl))
  f217 := Tryz.func96.trans (congrArg some (by kernel_rfl))
  f218 := Tryz.func91.trans (congrArg some (by kernel_rfl))
  f219 := Tryz.func86.trans (congrArg some (by kernel_rfl))
  f221 := Tryz.func76.trans (congrArg some (by kernel_rfl))
  f224 := Tryz.func98.trans (congrArg some (by kernel_rfl))
  f225 := Tryz.func97.trans (congrArg some (by kernel_rfl))
  f260 := Tryz.func93.trans (congrArg some (by kernel_rfl))
  f266 := Tryz.func102.trans (congrArg some (by kernel_rfl))
  f267 := Tryz.func99.trans (congrArg some (by kernel_rfl))
  f268 := Tryz.func88.trans (congrArg some (by kernel_rfl))
  f314 := Tryz.func103.trans (congrArg some (by kernel_rfl))
  t0 := Tryz.underlying0
  a0 := Tryz.isAgg0
  z0 := Tryz.sizeOf0
  v0 := Tryz.zeroValue0
  t3 := Tryz.underlying3
  a3 := Tryz.isAgg3
  z3 := Tryz.sizeOf3
  v3 := Tryz.zeroValue3
  t4 := Tryz.underlying4
  a4 := Tryz.isAgg4
  z4 := Tryz.sizeOf4
  v4 := Tryz.zeroValue4
  t5 := Tryz.underlying5
  a5 := Tryz.isAgg5
  z5 := Tryz.sizeOf5
  v5 := Tryz.zeroValue5
  t9 := Tryz.underlying9
  a9 := Tryz.isAgg9
  z9 := Tryz.sizeOf9
  v9 := Tryz.zeroValue9
  t21 := Tryz.underlying21
  a21 := Tryz.isAgg21
  z21 := Tryz.sizeOf21
  v21 := Tryz.zeroValue21
  t31 := Tryz.underlying36
  a31 := Tryz.isAgg36
  z31 := Tryz.sizeOf36
  v31 := Tryz.zeroValue36
  t46 := Tryz.underlying113
  a46 := Tryz.isAgg113
  z46 := Tryz.sizeOf113
  v46 := Tryz.zeroValue113
  t51 := Tryz.underlying123
  a51 := Tryz.isAgg123
  z51 := Tryz.sizeOf123
  v51 := Tryz.zeroValue123
  t105 := Tryz.underlying106
  a105 := Tryz.isAgg106
  z105 := Tryz.sizeOf106
  v105 := Tryz.zeroValue106
  t119 := Tryz.underlying109
  a119 := Tryz.isAgg109
  z119 := Tryz.sizeOf109
  t138 := Tryz.underlying111
  a138 := Tryz.isAgg111
  z138 := Tryz.sizeOf111
  v138 := Tryz.zeroValue111
  t139 := Tryz.underlying112
  a139 := Tryz.isAgg112
  z139 := Tryz.sizeOf112
  v139 := Tryz.zeroValue112
  t146 := Tryz.underlying126
  a146 := Tryz.isAgg126
  z146 := Tryz.sizeOf126
  v146 := Tryz.zeroValue126
  g1 := by kernel_rfl
  g3 := by kernel_rfl
  g4 := by kernel_rfl
def LST_ren : Go.Shelf.Ren := ⟨fun | 169 => 56 | n => n, fun | 70 => 76 | 9 => 9 | 0 => 0 | 72 => 79 | 37 => 77 | 127 => 100 | 3 => 3 | 5 => 5 | n => n, fun n => n⟩
theorem LST : Go.Proofs.Lays.n169 Tryz.prog LST_ren where
  mixed := by kernel_rfl
  f169 := Tryz.func56.trans (congrArg some (by kernel_rfl))
  t0 := Tryz.underlying0
  a0 := Tryz.isAgg0
  z0 := Tryz.sizeOf0
  v0 := Tryz.zeroValue0
  t3 := Tryz.underlying3
  a3 := Tryz.isAgg3
  z3 := Tryz.sizeOf3
  v3 := Tryz.zeroValue3
  t9 := Tryz.underlying9
  a9 := Tryz.isAgg9
  z9 := Tryz.sizeOf9
  v9 := Tryz.zeroValue9
  t37 := Tryz.underlying77
  a37 := Tryz.isAgg77
  z37 := Tryz.sizeOf77
  v37 := Tryz.zeroValue77
  t70 := Tryz.underlying76
  a70 := Tryz.isAgg76
  z70 := Tryz.sizeOf76
  v70 := Tryz.zeroValue76
  t72 := Tryz.underlying79
  a72 := Tryz.isAgg79
  z72 := Tryz.sizeOf79
  v72 := Tryz.zeroValue79
  t127 := Tryz.underlying100
  a127 := Tryz.isAgg100
  z127 := Tryz.sizeOf100
  v127 := Tryz.zeroValue100
def LCC_ren : Go.Shelf.Ren := ⟨fun | 240 => 74 | 276 => 87 | n => n, fun | 70 => 76 | 9 => 9 | 72 => 79 | 4 => 4 | 37 => 77 | 164 => 117 | n => n, fun n => n⟩
theorem LCC : Go.Proofs.Lays.n240 Tryz.prog LCC_ren where
  mixed := by kernel_rfl
  f240 := Tryz.func74.trans (congrArg some (by kernel_rfl))
  f276 := Tryz.func87.trans (congrArg some (by kernel_rfl))
  t0 := Tryz.underlying0
  a0 := Tryz.isAgg0
  z0 := Tryz.sizeOf0
  v0 := Tryz.zeroValue0
  t4 := Tryz.underlying4
  a4 := Tryz.isAgg4
  z4 := Tryz.sizeOf4
  v4 := Tryz.zeroValue4
  t9 := Tryz.underlying9
  a9 := Tryz.isAgg9
  z9 := Tryz.sizeOf9
  v9 := Tryz.zeroValue9
  t20 := Tryz.underlying20
  a20 := Tryz.isAgg20
  z20 := Tryz.sizeOf20
  v20 := Tryz.zeroValue20
  t70 := Tryz.underlying76
  a70 := Tryz.isAgg76
  z70 := Tryz.sizeOf76
  v70 := Tryz.zeroValue76
  t72 := Tryz.underlying79
  a72 := Tryz.isAgg79
  z72 := Tryz.sizeOf79
  v72 := Tryz.zeroValue79
  t164 := Tryz.underlying117
  a164 := Tryz.isAgg117
  z164 := Tryz.sizeOf117
  v164 := Tryz.zeroValue117


theorem tie3 : ∃ fn, Tryz.prog.funcs[3]? = some fn ∧ cFun Tryz.prog fn = some g3 := ⟨Tryz.f3, Tryz.func3, by kernel_rfl⟩
theorem tie4 : ∃ fn, Tryz.prog.funcs[4]? = some fn ∧ cFun Tryz.prog fn = some g4 := ⟨Tryz.f4, Tryz.func4, by kernel_rfl⟩
theorem tie5 : ∃ fn, Tryz.prog.funcs[5]? = some fn ∧ cFun Tryz.prog fn = some g5 := ⟨Tryz.f5, Tryz.func5, by kernel_rfl⟩
theorem tie6 : ∃ fn, Tryz.prog.funcs[6]? = some fn ∧ cFun Tryz.prog fn = some g6 := ⟨Tryz.f6, Tryz.func6, by kernel_rfl⟩
theorem tie7 : ∃ fn, Tryz.prog.funcs[7]? = some fn ∧ cFun Tryz.prog fn = some g7 := ⟨Tryz.f7, Tryz.func7, by kernel_rfl⟩
theorem tie8 : ∃ fn, Tryz.prog.funcs[8]? = some fn ∧ cFun Tryz.prog fn = some g8 := ⟨Tryz.f8, Tryz.func8, by kernel_rfl⟩
theorem tie9 : ∃ fn, Tryz.prog.funcs[9]? = some fn ∧ cFun Tryz.prog fn = some g9 := ⟨Tryz.f9, Tryz.func9, by kernel_rfl⟩
theorem tie10 : ∃ fn, Tryz.prog.funcs[10]? = some fn ∧ cFun Tryz.prog fn = some g10 := ⟨Tryz.f10, Tryz.func10, by kernel_rfl⟩
theorem tie11 : ∃ fn, Tryz.prog.funcs[11]? = some fn ∧ cFun Tryz.prog fn = some g11 := ⟨Tryz.f11, Tryz.func11, by kernel_rfl⟩
theorem tie12 : ∃ fn, Tryz.prog.funcs[12]? = some fn ∧ cFun Tryz.prog fn = some g12 := ⟨Tryz.f12, Tryz.func12, by kernel_rfl⟩
theorem tie13 : ∃ fn, Tryz.prog.funcs[13]? = some fn ∧ cFun Tryz.prog fn = some g13 := ⟨Tryz.f13, Tryz.func13, by kernel_rfl⟩
theorem tie14 : ∃ fn, Tryz.prog.funcs[14]? = some fn ∧ cFun Tryz.prog fn = some g14 := ⟨Tryz.f14, Tryz.func14, by kernel_rfl⟩
theorem tie15 : ∃ fn, Tryz.prog.funcs[15]? = some fn ∧ cFun Tryz.prog fn = some g15 := ⟨Tryz.f15, Tryz.func15, by kernel_rfl⟩
theorem tie16 : ∃ fn, Tryz.prog.funcs[16]? = some fn ∧ cFun Tryz.prog fn = some g16 := ⟨Tryz.f16, Tryz.func16, by kernel_rfl⟩
theorem tie17 : ∃ fn, Tryz.prog.funcs[17]? = some fn ∧ cFun Tryz.prog fn = some g17 := ⟨Tryz.f17, Tryz.func17, by kernel_rfl⟩
theorem tie18 : ∃ fn, Tryz.prog.funcs[18]? = some fn ∧ cFun Tryz.prog fn = some g18 := ⟨Tryz.f18, Tryz.func18, by kernel_rfl⟩
theorem tie19 : ∃ fn, Tryz.prog.funcs[19]? = some fn ∧ cFun Tryz.prog fn = some g19 := ⟨Tryz.f19, Tryz.func19, by kernel_rfl⟩
theorem tie20 : ∃ fn, Tryz.prog.funcs[20]? = some fn ∧ cFun Tryz.prog fn = some g20 := ⟨Tryz.f20, Tryz.func20, by kernel_rfl⟩
theorem tie21 : ∃ fn, Tryz.prog.funcs[21]? = some fn ∧ cFun Tryz.prog fn = some g21 := ⟨Tryz.f21, Tryz.func21, by kernel_rfl⟩
theorem tie22 : ∃ fn, Tryz.prog.funcs[22]? = some fn ∧ cFun Tryz.prog fn = some g22 := ⟨Tryz.f22, Tryz.func22, by kernel_rfl⟩
theorem tie23 : ∃ fn, Tryz.prog.funcs[23]? = some fn ∧ cFun Tryz.prog fn = some g23 := ⟨Tryz.f23, Tryz.func23, by kernel_rfl⟩
theorem tie24 : ∃ fn, Tryz.prog.funcs[24]? = some fn ∧ cFun Tryz.prog fn = some g24 := ⟨Tryz.f24, Tryz.func24, by kernel_rfl⟩
theorem tie25 : ∃ fn, Tryz.prog.funcs[25]? = some fn ∧ cFun Tryz.prog fn = some g25 := ⟨Tryz.f25, Tryz.func25, by kernel_rfl⟩
theorem tie26 : ∃ fn, Tryz.prog.funcs[26]? = some fn ∧ cFun Tryz.prog fn = some g26 := ⟨Tryz.f26, Tryz.func26, by kernel_rfl⟩
theorem tie27 : ∃ fn, Tryz.prog.funcs[27]? = some fn ∧ cFun Tryz.prog fn = some g27 := ⟨Tryz.f27, Tryz.func27, by kernel_rfl⟩
theorem tie28 : ∃ fn, Tryz.prog.funcs[28]? = some fn ∧ cFun Tryz.prog fn = some g28 := ⟨Tryz.f28, Tryz.func28, by kernel_rfl⟩
theorem tie29 : ∃ fn, Tryz.prog.funcs[29]? = some fn ∧ cFun Tryz.prog fn = some g29 := ⟨Tryz.f29, Tryz.func29, by kernel_rfl⟩
theorem tie30 : ∃ fn, Tryz.prog.funcs[30]? = some fn ∧ cFun Tryz.prog fn = some g30 := ⟨Tryz.f30, Tryz.func30, by kernel_rfl⟩
theorem tie31 : ∃ fn, Tryz.prog.funcs[31]? = some fn ∧ cFun Tryz.prog fn = some g31 := ⟨Tryz.f31, Tryz.func31, by kernel_rfl⟩
theorem tie32 : ∃ fn, Tryz.prog.funcs[32]? = some fn ∧ cFun Tryz.prog fn = some g32 := ⟨Tryz.f32, Tryz.func32, by kernel_rfl⟩
theorem tie33 : ∃ fn, Tryz.prog.funcs[33]? = some fn ∧ cFun Tryz.prog fn = some g33 := ⟨Tryz.f33, Tryz.func33, by kernel_rfl⟩
theorem tie34 : ∃ fn, Tryz.prog.funcs[34]? = some fn ∧ cFun Tryz.prog fn = some g34 := ⟨Tryz.f34, Tryz.func34, by kernel_rfl⟩
theorem tie35 : ∃ fn, Tryz.prog.funcs[35]? = some fn ∧ cFun Tryz.prog fn = some g35 := ⟨Tryz.f35, Tryz.func35, by kernel_rfl⟩
theorem tie36 : ∃ fn, Tryz.prog.funcs[36]? = some fn ∧ cFun Tryz.prog fn = some g36 := ⟨Tryz.f36, Tryz.func36, by kernel_rfl⟩
theorem tie37 : ∃ fn, Tryz.prog.funcs[37]? = some fn ∧ cFun Tryz.prog fn = some g37 := ⟨Tryz.f37, Tryz.func37, by kernel_rfl⟩
theorem tie39 : ∃ fn, Tryz.prog.funcs[39]? = some fn ∧ cFun Tryz.prog fn = some g39 := ⟨Tryz.f39, Tryz.func39, by kernel_rfl⟩
theorem tie40 : ∃ fn, Tryz.prog.funcs[40]? = some fn ∧ cFun Tryz.prog fn = some g40 := ⟨Tryz.f40, Tryz.func40, by kernel_rfl⟩
theorem tie41 : ∃ fn, Tryz.prog.funcs[41]? = some fn ∧ cFun Tryz.prog fn = some g41 := ⟨Tryz.f41, Tryz.func41, by kernel_rfl⟩
theorem tie43 : ∃ fn, Tryz.prog.funcs[43]? = some fn ∧ cFun Tryz.prog fn = some g43 := ⟨Tryz.f43, Tryz.func43, by kernel_rfl⟩
theorem tie44 : ∃ fn, Tryz.prog.funcs[44]? = some fn ∧ cFun Tryz.prog fn = some g44 := ⟨Tryz.f44, Tryz.func44, by kernel_rfl⟩
theorem tie45 : ∃ fn, Tryz.prog.funcs[45]? = some fn ∧ cFun Tryz.prog fn = some g45 := ⟨Tryz.f45, Tryz.func45, by kernel_rfl⟩
theorem tie46 : ∃ fn, Tryz.prog.funcs[46]? = some fn ∧ cFun Tryz.prog fn = some g46 := ⟨Tryz.f46, Tryz.func46, by kernel_rfl⟩
theorem tie47 : ∃ fn, Tryz.prog.funcs[47]? = some fn ∧ cFun Tryz.prog fn = some g47 := ⟨Tryz.f47, Tryz.func47, by kernel_rfl⟩
theorem tie48 : ∃ fn, Tryz.prog.funcs[48]? = some fn ∧ cFun Tryz.prog fn = some g48 := ⟨Tryz.f48, Tryz.func48, by kernel_rfl⟩
theorem tie49 : ∃ fn, Tryz.prog.funcs[49]? = some fn ∧ cFun Tryz.prog fn = some g49 := ⟨Tryz.f49, Tryz.func49, by kernel_rfl⟩
theorem tie50 : ∃ fn, Tryz.prog.funcs[50]? = some fn ∧ cFun Tryz.prog fn = some g50 := ⟨Tryz.f50, Tryz.func50, by kernel_rfl⟩
theorem tie51 : ∃ fn, Tryz.prog.funcs[51]? = some fn ∧ cFun Tryz.prog fn = some g51 := ⟨Tryz.f51, Tryz.func51, by kernel_rfl⟩
theorem tie52 : ∃ fn, Tryz.prog.funcs[52]? = some fn ∧ cFun Tryz.prog fn = some g52 := ⟨Tryz.f52, Tryz.func52, by kernel_rfl⟩
theorem tie53 : ∃ fn, Tryz.prog.funcs[53]? = some fn ∧ cFun Tryz.prog fn = some g53 := ⟨Tryz.f53, Tryz.func53, by kernel_rfl⟩
theorem tie54 : ∃ fn, Tryz.prog.funcs[54]? = some fn ∧ cFun Tryz.prog fn = some g54 := ⟨Tryz.f54, Tryz.func54, by kernel_rfl⟩
theorem tie55 : ∃ fn, Tryz.prog.funcs[55]? = some fn ∧ cFun Tryz.prog fn = some g55 := ⟨Tryz.f55, Tryz.func55, by kernel_rfl⟩
theorem tie58 : ∃ fn, Tryz.prog.funcs[58]? = some fn ∧ cFun Tryz.prog fn = some g58 := ⟨Tryz.f58, Tryz.func58, by kernel_rfl⟩
theorem tie59 : ∃ fn, Tryz.prog.funcs[59]? = some fn ∧ cFun Tryz.prog fn = some g59 := ⟨Tryz.f59, Tryz.func59, by kernel_rfl⟩
theorem tie60 : ∃ fn, Tryz.prog.funcs[60]? = some fn ∧ cFun Tryz.prog fn = some g60 := ⟨Tryz.f60, Tryz.func60, by kernel_rfl⟩
theorem tie63 : ∃ fn, Tryz.prog.funcs[63]? = some fn ∧ cFun Tryz.prog fn = some g63 := ⟨Tryz.f63, Tryz.func63, by kernel_rfl⟩
theorem tie64 : ∃ fn, Tryz.prog.funcs[64]? = some fn ∧ cFun Tryz.prog fn = some g64 := ⟨Tryz.f64, Tryz.func64, by kernel_rfl⟩
theorem tie65 : ∃ fn, Tryz.prog.funcs[65]? = some fn ∧ cFun Tryz.prog fn = some g65 := ⟨Tryz.f65, Tryz.func65, by kernel_rfl⟩
theorem tie66 : ∃ fn, Tryz.prog.funcs[66]? = some fn ∧ cFun Tryz.prog fn = some g66 := ⟨Tryz.f66, Tryz.func66, by kernel_rfl⟩
theorem tie67 : ∃ fn, Tryz.prog.funcs[67]? = some fn ∧ cFun Tryz.prog fn = some g67 := ⟨Tryz.f67, Tryz.func67, by kernel_rfl⟩
theorem tie68 : ∃ fn, Tryz.prog.funcs[68]? = some fn ∧ cFun Tryz.prog fn = some g68 := ⟨Tryz.f68, Tryz.func68, by kernel_rfl⟩
theorem tie70 : ∃ fn, Tryz.prog.funcs[70]? = some fn ∧ cFun Tryz.prog fn = some g70 := ⟨Tryz.f70, Tryz.func70, by kernel_rfl⟩
theorem tie71 : ∃ fn, Tryz.prog.funcs[71]? = some fn ∧ cFun Tryz.prog fn = some g71 := ⟨Tryz.f71, Tryz.func71, by kernel_rfl⟩
theorem tie72 : ∃ fn, Tryz.prog.funcs[72]? = some fn ∧ cFun Tryz.prog fn = some g72 := ⟨Tryz.f72, Tryz.func72, by kernel_rfl⟩
theorem tie73 : ∃ fn, Tryz.prog.funcs[73]? = some fn ∧ cFun Tryz.prog fn = some g73 := ⟨Tryz.f73, Tryz.func73, by kernel_rfl⟩
theorem tie75 : ∃ fn, Tryz.prog.funcs[75]? = some fn ∧ cFun Tryz.prog fn = some g75 := ⟨Tryz.f75, Tryz.func75, by kernel_rfl⟩
theorem tie77 : ∃ fn, Tryz.prog.funcs[77]? = some fn ∧ cFun Tryz.prog fn = some g77 := ⟨Tryz.f77, Tryz.func77, by kernel_rfl⟩
theorem tie78 : ∃ fn, Tryz.prog.funcs[78]? = some fn ∧ cFun Tryz.prog fn = some g78 := ⟨Tryz.f78, Tryz.func78, by kernel_rfl⟩
theorem tie83 : ∃ fn, Tryz.prog.funcs[83]? = some fn ∧ cFun Tryz.prog fn = some g83 := ⟨Tryz.f83, Tryz.func83, by kernel_rfl⟩
theorem tie84 : ∃ fn, Tryz.prog.funcs[84]? = some fn ∧ cFun Tryz.prog fn = some g84 := ⟨Tryz.f84, Tryz.func84, by kernel_rfl⟩
theorem tie85 : ∃ fn, Tryz.prog.funcs[85]? = some fn ∧ cFun Tryz.prog fn = some g85 := ⟨Tryz.f85, Tryz.func85, by kernel_rfl⟩
theorem tie89 : ∃ fn, Tryz.prog.funcs[89]? = some fn ∧ cFun Tryz.prog fn = some g89 := ⟨Tryz.f89, Tryz.func89, by kernel_rfl⟩
theorem tie94 : ∃ fn, Tryz.prog.funcs[94]? = some fn ∧ cFun Tryz.prog fn = some g94 := ⟨Tryz.f94, Tryz.func94, by kernel_rfl⟩
theorem tie95 : ∃ fn, Tryz.prog.funcs[95]? = some fn ∧ cFun Tryz.prog fn = some g95 := ⟨Tryz.f95, Tryz.func95, by kernel_rfl⟩
theorem tie98 : ∃ fn, Tryz.prog.funcs[98]? = some fn ∧ cFun Tryz.prog fn = some g98 := ⟨Tryz.f98, Tryz.func98, by kernel_rfl⟩
theorem tie101 : ∃ fn, Tryz.prog.funcs[101]? = some fn ∧ cFun Tryz.prog fn = some g101 := ⟨Tryz.f101, Tryz.func101, by kernel_rfl⟩
theorem xra : Builder.Extra Tryz.prog LRa_ren := ⟨⟨by kernel_rfl, by kernel_rfl⟩, Tryz.underlying5, Tryz.isAgg5, Tryz.sizeOf5, Tryz.zeroValue5, by kernel_rfl, by kernel_rfl, by kernel_rfl, by decide⟩
theorem lib62 : (∀ (asl : Array Value) (w : World), (callFunc 62 asl).run Tryz.prog w = .ok (.enter 62 asl) w) ∧
    ∀ args v, args.all litOk = true → runValid args = some v → litVal v = true → ∀ w : World, gT Tryz.prog w → Calls Tryz.prog 62 args.toArray w fun e w' => e = .returned v ∧ Below w.heap.size w w' := by
  refine ⟨fun asl w => callFunc_enter Tryz.func62 (by kernel_rfl) rfl asl w, fun args v _ hr _ w hT => ?_⟩
  unfold runValid at hr
  split at hr
  · split at hr
    · rename_i hs
      cases hr
      exact Any.utf8_ValidString LV _ w hs hT.1
    · cases hr
  · cases hr
theorem lib96 : (∀ (asl : Array Value) (w : World), (callFunc 96 asl).run Tryz.prog w = .ok (.enter 96 asl) w) ∧
    ∀ args v, args.all litOk = true → runIndexByte args = some v → litVal v = true → ∀ w : World, gT Tryz.prog w → Calls Tryz.prog 96 args.toArray w fun e w' => e = .returned v ∧ Below w.heap.size w w' := by
  refine ⟨fun asl w => callFunc_enter Tryz.func96 (by kernel_rfl) rfl asl w, fun args v _ hr _ w hT => ?_⟩
  unfold runIndexByte at hr
  split at hr
  · cases hr
    refine (Any.stringslite_IndexByte LI _ _ w).mono fun e w' hh => ?_
    obtain ⟨rfl, rfl⟩ := hh
    exact ⟨rfl, Below.refl _ _⟩
  · cases hr
theorem lib42 : (∀ (asl : Array Value) (w : World), (callFunc 42 asl).run Tryz.prog w = .ok (.enter 42 asl) w) ∧
    ∀ args v, args.all litOk = true → runContains args = some v → litVal v = true → ∀ w : World, gT Tryz.prog w → Calls Tryz.prog 42 args.toArray w fun e w' => e = .returned v ∧ Below w.heap.size w w' := by
  refine ⟨fun asl w => callFunc_enter Tryz.func42 (by kernel_rfl) rfl asl w, fun args v _ hr _ w hT => ?_⟩
  unfold runContains at hr
  split at hr
  · split at hr
    · rename_i hs
      cases hr
      obtain ⟨m, hm⟩ := hT.2
      refine (Any.strings_Contains LCt _ _ m w hs hm).mono fun e w' hh => ?_
      obtain ⟨rfl, rfl⟩ := hh
      exact ⟨rfl, Below.refl _ _⟩
    · cases hr
  · cases hr
theorem lib38 : (∀ (asl : Array Value) (w : World), (callFunc 38 asl).run Tryz.prog w = .ok (.enter 38 asl) w) ∧
    ∀ args v, args.all litOk = true → runReplaceAll args = some v → litVal v = true → ∀ w : World, gT Tryz.prog w → Calls Tryz.prog 38 args.toArray w fun e w' => e = .returned v ∧ Below w.heap.size w w' := by
  refine ⟨fun asl w => callFunc_enter Tryz.func38 (by kernel_rfl) rfl asl w, fun args v _ hr _ w hT => ?_⟩
  unfold runReplaceAll at hr
  split at hr
  · split at hr
    · rename_i hs
      cases hr
      obtain ⟨m, hm⟩ := hT.2
      exact Any.strings_ReplaceAll LRa xra _ _ _ m w hs.1 hm hs.2.1 hs.2.2
    · cases hr
  · cases hr
theorem ext57 : ExtOk Tryz.prog 57 runSplit := split_ok (fun asl w => callFunc_enter Tryz.func57 (by kernel_rfl) rfl asl w) (fun s sep m w h1 h2 h3 => Any.strings_Split LSp (by kernel_rfl) s sep m w h1 h2 h3)
theorem xcc : Builder.X72 Tryz.prog LCC_ren := ⟨by kernel_rfl, by kernel_rfl⟩
theorem ext74 : ExtOk Tryz.prog 74 runCC := cc_ok (fun asl w => callFunc_enter Tryz.func74 (by kernel_rfl) rfl asl w) (fun b w h0 h1 h2 => Any.Builder_copyCheck_fresh LCC xcc b w h0 h1 h2) (fun b w h0 => Any.Builder_copyCheck_used LCC xcc b w h0)
theorem xst : Builder.Extra Tryz.prog LST_ren := ⟨⟨by kernel_rfl, by kernel_rfl⟩, Tryz.underlying5, Tryz.isAgg5, Tryz.sizeOf5, Tryz.zeroValue5, by kernel_rfl, by kernel_rfl, by kernel_rfl, by decide⟩
theorem ext56 : ExtOk Tryz.prog 56 runStr := str_ok (fun asl w => callFunc_enter Tryz.func56 (by kernel_rfl) rfl asl w) (fun b g o cap l cur fz w h0 h1 h2 h3 h4 h5 h6 => string_exact LST xst b g o cap l cur fz w h0 h1 h2 h3 h4 h5 h6) (fun b w h => string_nil_exact LST xst b w h)
theorem gok : GOk Tryz.prog G := by
  intro f
  refine ⟨fun g h => ?_, fun g h => ?_, fun run h => ?_, fun run h => ?_⟩
  · unfold G at h
    split at h <;> rcases h with h | h <;> cases h
    · exact tie3
    · exact tie4
    · exact tie5
    · exact tie6
    · exact tie7
    · exact tie8
    · exact tie9
    · exact tie10
    · exact tie11
    · exact tie12
    · exact tie13
    · exact tie14
    · exact tie15
    · exact tie16
    · exact tie17
    · exact tie18
    · exact tie19
    · exact tie20
    · exact tie21
    · exact tie22
    · exact tie23
    · exact tie24
    · exact tie25
    · exact tie26
    · exact tie27
    · exact tie28
    · exact tie29
    · exact tie30
    · exact tie31
    · exact tie32
    · exact tie33
    · exact tie34
    · exact tie35
    · exact tie36
    · exact tie37
    · exact tie39
    · exact tie40
    · exact tie41
    · exact tie43
    · exact tie44
    · exact tie45
    · exact tie46
    · exact tie47
    · exact tie48
    · exact tie49
    · exact tie50
    · exact tie51
    · exact tie52
    · exact tie53
    · exact tie54
    · exact tie55
    · exact tie58
    · exact tie59
    · exact tie60
    · exact tie63
    · exact tie64
    · exact tie65
    · exact tie66
    · exact tie67
    · exact tie68
    · exact tie70
    · exact tie71
    · exact tie72
    · exact tie73
    · exact tie75
    · exact tie77
    · exact tie78
    · exact tie83
    · exact tie84
    · exact tie85
    · exact tie89
    · exact tie94
    · exact tie95
    · exact tie98
    · exact tie101
  · unfold G at h
    split at h <;> cases h
  · unfold G at h
    split at h <;> cases h
    · exact lib62
    · exact lib96
    · exact lib42
    · exact lib38
  · unfold G at h
    split at h <;> cases h
    · exact ext57
    · exact ext74
    · exact ext56
theorem gbyte : szK Tryz.prog Tryz.prog.rt.byte = some 1 := by kernel_rfl
theorem gmix : Tryz.prog.follows .mixedOrders = true := by kernel_rfl
end Go.Proofs.YtfldcmeecpgpeaaGreatDoor
