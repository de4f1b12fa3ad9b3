/-
  The ghost functions of this seat are the program's functions; the library's functions by their contracts.
-/
import Derived.Test.YtjjcgaompnjbdaaDoorRows
import Derived.Test.YtjjcgaompnjbdaaDoorSyG
import Derived.Test.YtjjcgaompnjbdaaDoorK5
import Derived.Shelf.Unicode.ValidAny
import Derived.Shelf.Strings.Search1
import Derived.Lib.LaidU8T
import Derived.Shelf.Strings.Replace
import Derived.Shelf.Strings.Search3
import Derived.Test.YtjjcgaompnjbdaaDoorBd
import Derived.Test.YtjjcgaompnjbdaaDoorBs
namespace Go.Proofs.YtjjcgaompnjbdaaDoor
open Go.Gh Go.RowKit
set_option maxRecDepth 100000
set_option linter.unusedVariables false
def LV_ren : Go.Shelf.Ren := ⟨fun | 196 => 41 | 259 => 58 | n => n, fun | 9 => 9 | 4 => 4 | 3 => 3 | 5 => 5 | 12 => 12 | 119 => 119 | 0 => 0 | 46 => 123 | 139 => 122 | 138 => 121 | 53 => 109 | n => n, fun | 3 => 0 | 4 => 1 | n => n⟩
theorem LV : Go.Proofs.Lays.n196 Tryd.prog LV_ren where
  mixed := by kernel_rfl
  f196 := Tryd.func41.trans (congrArg some (by kernel_rfl))
  f259 := Tryd.func58.trans (congrArg some (by kernel_rfl))
  t0 := Tryd.underlying0
  a0 := Tryd.isAgg0
  z0 := Tryd.sizeOf0
  v0 := Tryd.zeroValue0
  t3 := Tryd.underlying3
  a3 := Tryd.isAgg3
  z3 := Tryd.sizeOf3
  v3 := Tryd.zeroValue3
  t4 := Tryd.underlying4
  a4 := Tryd.isAgg4
  z4 := Tryd.sizeOf4
  v4 := Tryd.zeroValue4
  t5 := Tryd.underlying5
  a5 := Tryd.isAgg5
  z5 := Tryd.sizeOf5
  v5 := Tryd.zeroValue5
  t9 := Tryd.underlying9
  a9 := Tryd.isAgg9
  z9 := Tryd.sizeOf9
  v9 := Tryd.zeroValue9
  t12 := Tryd.underlying12
  a12 := Tryd.isAgg12
  z12 := Tryd.sizeOf12
  v12 := Tryd.zeroValue12
  t46 := Tryd.underlying123
  a46 := Tryd.isAgg123
  z46 := Tryd.sizeOf123
  v46 := Tryd.zeroValue123
  t53 := Tryd.underlying109
  a53 := Tryd.isAgg109
  z53 := Tryd.sizeOf109
  v53 := Tryd.zeroValue109
  t119 := Tryd.underlying119
  a119 := Tryd.isAgg119
  z119 := Tryd.sizeOf119
  t138 := Tryd.underlying121
  a138 := Tryd.isAgg121
  z138 := Tryd.sizeOf121
  v138 := Tryd.zeroValue121
  t139 := Tryd.underlying122
  a139 := Tryd.isAgg122
  z139 := Tryd.sizeOf122
  v139 := Tryd.zeroValue122
  g3 := by kernel_rfl
  g4 := by kernel_rfl
def LST_ren : Go.Shelf.Ren := ⟨fun | 169 => 63 | n => n, fun | 70 => 127 | 9 => 9 | 0 => 0 | 72 => 130 | 37 => 128 | 127 => 138 | 3 => 3 | 5 => 5 | n => n, fun n => n⟩
theorem LST : Go.Proofs.Lays.n169 Tryd.prog LST_ren where
  mixed := by kernel_rfl
  f169 := Tryd.func63.trans (congrArg some (by kernel_rfl))
  t0 := Tryd.underlying0
  a0 := Tryd.isAgg0
  z0 := Tryd.sizeOf0
  v0 := Tryd.zeroValue0
  t3 := Tryd.underlying3
  a3 := Tryd.isAgg3
  z3 := Tryd.sizeOf3
  v3 := Tryd.zeroValue3
  t9 := Tryd.underlying9
  a9 := Tryd.isAgg9
  z9 := Tryd.sizeOf9
  v9 := Tryd.zeroValue9
  t37 := Tryd.underlying128
  a37 := Tryd.isAgg128
  z37 := Tryd.sizeOf128
  v37 := Tryd.zeroValue128
  t70 := Tryd.underlying127
  a70 := Tryd.isAgg127
  z70 := Tryd.sizeOf127
  v70 := Tryd.zeroValue127
  t72 := Tryd.underlying130
  a72 := Tryd.isAgg130
  z72 := Tryd.sizeOf130
  v72 := Tryd.zeroValue130
  t127 := Tryd.underlying138
  a127 := Tryd.isAgg138
  z127 := Tryd.sizeOf138
  v127 := Tryd.zeroValue138
def LCt_ren : Go.Shelf.Ren := ⟨fun | 144 => 48 | 143 => 64 | 219 => 67 | 217 => 70 | 225 => 71 | 224 => 72 | 267 => 73 | 266 => 74 | 314 => 75 | n => n, fun | 9 => 9 | 4 => 4 | 3 => 3 | 5 => 5 | 46 => 123 | 146 => 144 | 51 => 143 | n => n, fun | 1 => 2 | n => n⟩
theorem LCt : Go.Proofs.Lays.n144 Tryd.prog LCt_ren where
  mixed := by kernel_rfl
  f143 := Tryd.func64.trans (congrArg some (by kernel_rfl))
  f144 := Tryd.func48.trans (congrArg some (by kernel_rfl))
  f217 := Tryd.func70.trans (congrArg some (by kernel_rfl))
  f219 := Tryd.func67.trans (congrArg some (by kernel_rfl))
  f224 := Tryd.func72.trans (congrArg some (by kernel_rfl))
  f225 := Tryd.func71.trans (congrArg some (by kernel_rfl))
  f266 := Tryd.func74.trans (congrArg some (by kernel_rfl))
  f267 := Tryd.func73.trans (congrArg some (by kernel_rfl))
  f314 := Tryd.func75.trans (congrArg some (by kernel_rfl))
  t3 := Tryd.underlying3
  a3 := Tryd.isAgg3
  z3 := Tryd.sizeOf3
  v3 := Tryd.zeroValue3
  t4 := Tryd.underlying4
  a4 := Tryd.isAgg4
  z4 := Tryd.sizeOf4
  v4 := Tryd.zeroValue4
  t5 := Tryd.underlying5
  a5 := Tryd.isAgg5
  z5 := Tryd.sizeOf5
  v5 := Tryd.zeroValue5
  t9 := Tryd.underlying9
  a9 := Tryd.isAgg9
  z9 := Tryd.sizeOf9
  v9 := Tryd.zeroValue9
  t46 := Tryd.underlying123
  a46 := Tryd.isAgg123
  z46 := Tryd.sizeOf123
  v46 := Tryd.zeroValue123
  t51 := Tryd.underlying143
  a51 := Tryd.isAgg143
  z51 := Tryd.sizeOf143
  v51 := Tryd.zeroValue143
  t146 := Tryd.underlying144
  a146 := Tryd.isAgg144
  z146 := Tryd.sizeOf144
  v146 := Tryd.zeroValue144
  g1 := by kernel_rfl
def LCC_ren : Go.Shelf.Ren := ⟨fun | 240 => 66 | 276 => 69 | n => n, fun | 70 => 127 | 9 => 9 | 72 => 130 | 4 => 4 | 37 => 128 | 164 => 139 | n => n, fun n => n⟩
theorem LCC : Go.Proofs.Lays.n240 Tryd.prog LCC_ren where
  mixed := by kernel_rfl
  f240 := Tryd.func66.trans (congrArg some (by kernel_rfl))
  f276 := Tryd.func69.trans (congrArg some (by kernel_rfl))
  t0 := Tryd.underlying0
  a0 := Tryd.isAgg0
  z0 := Tryd.sizeOf0
  v0 := Tryd.zeroValue0
  t4 := Tryd.underlying4
  a4 := Tryd.isAgg4
  z4 := Tryd.sizeOf4
  v4 := Tryd.zeroValue4
  t9 := Tryd.underlying9
  a9 := Tryd.isAgg9
  z9 := Tryd.sizeOf9
  v9 := Tryd.zeroValue9
  t20 := Tryd.underlying20
  a20 := Tryd.isAgg20
  z20 := Tryd.sizeOf20
  v20 := Tryd.zeroValue20
  t70 := Tryd.underlying127
  a70 := Tryd.isAgg127
  z70 := Tryd.sizeOf127
  v70 := Tryd.zeroValue127
  t72 := Tryd.underlying130
  a72 := Tryd.isAgg130
  z72 := Tryd.sizeOf130
  v72 := Tryd.zeroValue130
  t164 := Tryd.underlying139
  a164 := Tryd.isAgg139
  z164 := Tryd.sizeOf139
  v164 := Tryd.zeroValue139


theorem tie3 : ∃ fn, Tryd.prog.funcs[3]? = some fn ∧ cFun Tryd.prog fn = some g3 := ⟨Tryd.f3, Tryd.func3, by kernel_rfl⟩
theorem tie4 : ∃ fn, Tryd.prog.funcs[4]? = some fn ∧ cFun Tryd.prog fn = some g4 := ⟨Tryd.f4, Tryd.func4, by kernel_rfl⟩
theorem tie5 : ∃ fn, Tryd.prog.funcs[5]? = some fn ∧ cFun Tryd.prog fn = some g5 := ⟨Tryd.f5, Tryd.func5, by kernel_rfl⟩
theorem tie6 : ∃ fn, Tryd.prog.funcs[6]? = some fn ∧ cFun Tryd.prog fn = some g6 := ⟨Tryd.f6, Tryd.func6, by kernel_rfl⟩
theorem tie7 : ∃ fn, Tryd.prog.funcs[7]? = some fn ∧ cFun Tryd.prog fn = some g7 := ⟨Tryd.f7, Tryd.func7, by kernel_rfl⟩
theorem tie8 : ∃ fn, Tryd.prog.funcs[8]? = some fn ∧ cFun Tryd.prog fn = some g8 := ⟨Tryd.f8, Tryd.func8, by kernel_rfl⟩
theorem tie9 : ∃ fn, Tryd.prog.funcs[9]? = some fn ∧ cFun Tryd.prog fn = some g9 := ⟨Tryd.f9, Tryd.func9, by kernel_rfl⟩
theorem tie10 : ∃ fn, Tryd.prog.funcs[10]? = some fn ∧ cFun Tryd.prog fn = some g10 := ⟨Tryd.f10, Tryd.func10, by kernel_rfl⟩
theorem tie11 : ∃ fn, Tryd.prog.funcs[11]? = some fn ∧ cFun Tryd.prog fn = some g11 := ⟨Tryd.f11, Tryd.func11, by kernel_rfl⟩
theorem tie12 : ∃ fn, Tryd.prog.funcs[12]? = some fn ∧ cFun Tryd.prog fn = some g12 := ⟨Tryd.f12, Tryd.func12, by kernel_rfl⟩
theorem tie13 : ∃ fn, Tryd.prog.funcs[13]? = some fn ∧ cFun Tryd.prog fn = some g13 := ⟨Tryd.f13, Tryd.func13, by kernel_rfl⟩
theorem tie14 : ∃ fn, Tryd.prog.funcs[14]? = some fn ∧ cFun Tryd.prog fn = some g14 := ⟨Tryd.f14, Tryd.func14, by kernel_rfl⟩
theorem tie15 : ∃ fn, Tryd.prog.funcs[15]? = some fn ∧ cFun Tryd.prog fn = some g15 := ⟨Tryd.f15, Tryd.func15, by kernel_rfl⟩
theorem tie16 : ∃ fn, Tryd.prog.funcs[16]? = some fn ∧ cFun Tryd.prog fn = some g16 := ⟨Tryd.f16, Tryd.func16, by kernel_rfl⟩
theorem tie17 : ∃ fn, Tryd.prog.funcs[17]? = some fn ∧ cFun Tryd.prog fn = some g17 := ⟨Tryd.f17, Tryd.func17, by kernel_rfl⟩
theorem tie18 : ∃ fn, Tryd.prog.funcs[18]? = some fn ∧ cFun Tryd.prog fn = some g18 := ⟨Tryd.f18, Tryd.func18, by kernel_rfl⟩
theorem tie19 : ∃ fn, Tryd.prog.funcs[19]? = some fn ∧ cFun Tryd.prog fn = some g19 := ⟨Tryd.f19, Tryd.func19, by kernel_rfl⟩
theorem tie20 : ∃ fn, Tryd.prog.funcs[20]? = some fn ∧ cFun Tryd.prog fn = some g20 := ⟨Tryd.f20, Tryd.func20, by kernel_rfl⟩
theorem tie21 : ∃ fn, Tryd.prog.funcs[21]? = some fn ∧ cFun Tryd.prog fn = some g21 := ⟨Tryd.f21, Tryd.func21, by kernel_rfl⟩
theorem tie22 : ∃ fn, Tryd.prog.funcs[22]? = some fn ∧ cFun Tryd.prog fn = some g22 := ⟨Tryd.f22, Tryd.func22, by kernel_rfl⟩
theorem tie23 : ∃ fn, Tryd.prog.funcs[23]? = some fn ∧ cFun Tryd.prog fn = some g23 := ⟨Tryd.f23, Tryd.func23, by kernel_rfl⟩
theorem tie24 : ∃ fn, Tryd.prog.funcs[24]? = some fn ∧ cFun Tryd.prog fn = some g24 := ⟨Tryd.f24, Tryd.func24, by kernel_rfl⟩
theorem tie25 : ∃ fn, Tryd.prog.funcs[25]? = some fn ∧ cFun Tryd.prog fn = some g25 := ⟨Tryd.f25, Tryd.func25, by kernel_rfl⟩
theorem tie26 : ∃ fn, Tryd.prog.funcs[26]? = some fn ∧ cFun Tryd.prog fn = some g26 := ⟨Tryd.f26, Tryd.func26, by kernel_rfl⟩
theorem tie27 : ∃ fn, Tryd.prog.funcs[27]? = some fn ∧ cFun Tryd.prog fn = some g27 := ⟨Tryd.f27, Tryd.func27, by kernel_rfl⟩
theorem tie28 : ∃ fn, Tryd.prog.funcs[28]? = some fn ∧ cFun Tryd.prog fn = some g28 := ⟨Tryd.f28, Tryd.func28, by kernel_rfl⟩
theorem tie29 : ∃ fn, Tryd.prog.funcs[29]? = some fn ∧ cFun Tryd.prog fn = some g29 := ⟨Tryd.f29, Tryd.func29, by kernel_rfl⟩
theorem tie30 : ∃ fn, Tryd.prog.funcs[30]? = some fn ∧ cFun Tryd.prog fn = some g30 := ⟨Tryd.f30, Tryd.func30, by kernel_rfl⟩
theorem tie31 : ∃ fn, Tryd.prog.funcs[31]? = some fn ∧ cFun Tryd.prog fn = some g31 := ⟨Tryd.f31, Tryd.func31, by kernel_rfl⟩
theorem tie32 : ∃ fn, Tryd.prog.funcs[32]? = some fn ∧ cFun Tryd.prog fn = some g32 := ⟨Tryd.f32, Tryd.func32, by kernel_rfl⟩
theorem tie33 : ∃ fn, Tryd.prog.funcs[33]? = some fn ∧ cFun Tryd.prog fn = some g33 := ⟨Tryd.f33, Tryd.func33, by kernel_rfl⟩
theorem tie34 : ∃ fn, Tryd.prog.funcs[34]? = some fn ∧ cFun Tryd.prog fn = some g34 := ⟨Tryd.f34, Tryd.func34, by kernel_rfl⟩
theorem tie35 : ∃ fn, Tryd.prog.funcs[35]? = some fn ∧ cFun Tryd.prog fn = some g35 := ⟨Tryd.f35, Tryd.func35, by kernel_rfl⟩
theorem tie36 : ∃ fn, Tryd.prog.funcs[36]? = some fn ∧ cFun Tryd.prog fn = some g36 := ⟨Tryd.f36, Tryd.func36, by kernel_rfl⟩
theorem tie37 : ∃ fn, Tryd.prog.funcs[37]? = some fn ∧ cFun Tryd.prog fn = some g37 := ⟨Tryd.f37, Tryd.func37, by kernel_rfl⟩
theorem tie38 : ∃ fn, Tryd.prog.funcs[38]? = some fn ∧ cFun Tryd.prog fn = some g38 := ⟨Tryd.f38, Tryd.func38, by kernel_rfl⟩
theorem tie39 : ∃ fn, Tryd.prog.funcs[39]? = some fn ∧ cFun Tryd.prog fn = some g39 := ⟨Tryd.f39, Tryd.func39, by kernel_rfl⟩
theorem tie40 : ∃ fn, Tryd.prog.funcs[40]? = some fn ∧ cFun Tryd.prog fn = some g40 := ⟨Tryd.f40, Tryd.func40, by kernel_rfl⟩
theorem tie42 : ∃ fn, Tryd.prog.funcs[42]? = some fn ∧ cFun Tryd.prog fn = some g42 := ⟨Tryd.f42, Tryd.func42, by kernel_rfl⟩
theorem tie43 : ∃ fn, Tryd.prog.funcs[43]? = some fn ∧ cFun Tryd.prog fn = some g43 := ⟨Tryd.f43, Tryd.func43, by kernel_rfl⟩
theorem tie44 : ∃ fn, Tryd.prog.funcs[44]? = some fn ∧ cFun Tryd.prog fn = some g44 := ⟨Tryd.f44, Tryd.func44, by kernel_rfl⟩
theorem tie45 : ∃ fn, Tryd.prog.funcs[45]? = some fn ∧ cFun Tryd.prog fn = some g45 := ⟨Tryd.f45, Tryd.func45, by kernel_rfl⟩
theorem tie46 : ∃ fn, Tryd.prog.funcs[46]? = some fn ∧ cFun Tryd.prog fn = some g46 := ⟨Tryd.f46, Tryd.func46, by kernel_rfl⟩
theorem tie47 : ∃ fn, Tryd.prog.funcs[47]? = some fn ∧ cFun Tryd.prog fn = some g47 := ⟨Tryd.f47, Tryd.func47, by kernel_rfl⟩
theorem tie49 : ∃ fn, Tryd.prog.funcs[49]? = some fn ∧ cFun Tryd.prog fn = some g49 := ⟨Tryd.f49, Tryd.func49, by kernel_rfl⟩
theorem tie50 : ∃ fn, Tryd.prog.funcs[50]? = some fn ∧ cFun Tryd.prog fn = some g50 := ⟨Tryd.f50, Tryd.func50, by kernel_rfl⟩
theorem tie51 : ∃ fn, Tryd.prog.funcs[51]? = some fn ∧ cFun Tryd.prog fn = some g51 := ⟨Tryd.f51, Tryd.func51, by kernel_rfl⟩
theorem tie52 : ∃ fn, Tryd.prog.funcs[52]? = some fn ∧ cFun Tryd.prog fn = some g52 := ⟨Tryd.f52, Tryd.func52, by kernel_rfl⟩
theorem tie53 : ∃ fn, Tryd.prog.funcs[53]? = some fn ∧ cFun Tryd.prog fn = some g53 := ⟨Tryd.f53, Tryd.func53, by kernel_rfl⟩
theorem tie54 : ∃ fn, Tryd.prog.funcs[54]? = some fn ∧ cFun Tryd.prog fn = some g54 := ⟨Tryd.f54, Tryd.func54, by kernel_rfl⟩
theorem tie55 : ∃ fn, Tryd.prog.funcs[55]? = some fn ∧ cFun Tryd.prog fn = some g55 := ⟨Tryd.f55, Tryd.func55, by kernel_rfl⟩
theorem tie56 : ∃ fn, Tryd.prog.funcs[56]? = some fn ∧ cFun Tryd.prog fn = some g56 := ⟨Tryd.f56, Tryd.func56, by kernel_rfl⟩
theorem tie57 : ∃ fn, Tryd.prog.funcs[57]? = some fn ∧ cFun Tryd.prog fn = some g57 := ⟨Tryd.f57, Tryd.func57, by kernel_rfl⟩
theorem tie59 : ∃ fn, Tryd.prog.funcs[59]? = some fn ∧ cFun Tryd.prog fn = some g59 := ⟨Tryd.f59, Tryd.func59, by kernel_rfl⟩
theorem tie60 : ∃ fn, Tryd.prog.funcs[60]? = some fn ∧ cFun Tryd.prog fn = some g60 := ⟨Tryd.f60, Tryd.func60, by kernel_rfl⟩
theorem tie61 : ∃ fn, Tryd.prog.funcs[61]? = some fn ∧ cFun Tryd.prog fn = some g61 := ⟨Tryd.f61, Tryd.func61, by kernel_rfl⟩
theorem tie62 : ∃ fn, Tryd.prog.funcs[62]? = some fn ∧ cFun Tryd.prog fn = some g62 := ⟨Tryd.f62, Tryd.func62, by kernel_rfl⟩
theorem tie65 : ∃ fn, Tryd.prog.funcs[65]? = some fn ∧ cFun Tryd.prog fn = some g65 := ⟨Tryd.f65, Tryd.func65, by kernel_rfl⟩
theorem tie68 : ∃ fn, Tryd.prog.funcs[68]? = some fn ∧ cFun Tryd.prog fn = some g68 := ⟨Tryd.f68, Tryd.func68, by kernel_rfl⟩
theorem lib41 : (∀ (asl : Array Value) (w : World), (callFunc 41 asl).run Tryd.prog w = .ok (.enter 41 asl) w) ∧
    ∀ args v, args.all litOk = true → runValid args = some v → litVal v = true → ∀ w : World, gT Tryd.prog w → Calls Tryd.prog 41 args.toArray w fun e w' => e = .returned v ∧ Below w.heap.size w w' := by
  refine ⟨fun asl w => callFunc_enter Tryd.func41 (by kernel_rfl) rfl asl w, fun args v _ hr _ w hT => ?_⟩
  unfold runValid at hr
  split at hr
  · split at hr
    · rename_i hs
      cases hr
      exact Any.utf8_ValidString LV _ w hs hT.1
    · cases hr
  · cases hr
theorem lib48 : (∀ (asl : Array Value) (w : World), (callFunc 48 asl).run Tryd.prog w = .ok (.enter 48 asl) w) ∧
    ∀ args v, args.all litOk = true → runContains args = some v → litVal v = true → ∀ w : World, gT Tryd.prog w → Calls Tryd.prog 48 args.toArray w fun e w' => e = .returned v ∧ Below w.heap.size w w' := by
  refine ⟨fun asl w => callFunc_enter Tryd.func48 (by kernel_rfl) rfl asl w, fun args v _ hr _ w hT => ?_⟩
  unfold runContains at hr
  split at hr
  · split at hr
    · rename_i hs
      cases hr
      obtain ⟨m, hm⟩ := hT.2
      refine (Any.strings_Contains LCt _ _ m w hs hm).mono fun e w' hh => ?_
      obtain ⟨rfl, rfl⟩ := hh
      exact ⟨rfl, Below.refl _ _⟩
    · cases hr
  · cases hr
theorem xcc : Builder.X72 Tryd.prog LCC_ren := ⟨by kernel_rfl, by kernel_rfl⟩
theorem ext66 : ExtOk Tryd.prog 66 runCC := cc_ok (fun asl w => callFunc_enter Tryd.func66 (by kernel_rfl) rfl asl w) (fun b w h0 h1 h2 => Any.Builder_copyCheck_fresh LCC xcc b w h0 h1 h2) (fun b w h0 => Any.Builder_copyCheck_used LCC xcc b w h0)
theorem xst : Builder.Extra Tryd.prog LST_ren := ⟨⟨by kernel_rfl, by kernel_rfl⟩, Tryd.underlying5, Tryd.isAgg5, Tryd.sizeOf5, Tryd.zeroValue5, by kernel_rfl, by kernel_rfl, by kernel_rfl, by decide⟩
theorem ext63 : ExtOk Tryd.prog 63 runStr := str_ok (fun asl w => callFunc_enter Tryd.func63 (by kernel_rfl) rfl asl w) (fun b g o cap l cur fz w h0 h1 h2 h3 h4 h5 h6 => string_exact LST xst b g o cap l cur fz w h0 h1 h2 h3 h4 h5 h6) (fun b w h => string_nil_exact LST xst b w h)
theorem gok : GOk Tryd.prog G := by
  intro f
  refine ⟨fun g h => ?_, fun g h => ?_, fun run h => ?_, fun run h => ?_⟩
  · unfold G at h
    split at h <;> rcases h with h | h <;> cases h
    · exact tie3
    · exact tie4
    · exact tie5
    · exact tie6
    · exact tie7
    · exact tie8
    · exact tie9
    · exact tie10
    · exact tie11
    · exact tie12
    · exact tie13
    · exact tie14
    · exact tie15
    · exact tie16
    · exact tie17
    · exact tie18
    · exact tie19
    · exact tie20
    · exact tie21
    · exact tie22
    · exact tie23
    · exact tie24
    · exact tie25
    · exact tie26
    · exact tie27
    · exact tie28
    · exact tie29
    · exact tie30
    · exact tie31
    · exact tie32
    · exact tie33
    · exact tie34
    · exact tie35
    · exact tie36
    · exact tie37
    · exact tie38
    · exact tie39
    · exact tie40
    · exact tie42
    · exact tie43
    · exact tie44
    · exact tie45
    · exact tie46
    · exact tie47
    · exact tie49
    · exact tie50
    · exact tie51
    · exact tie52
    · exact tie53
    · exact tie54
    · exact tie55
    · exact tie56
    · exact tie57
    · exact tie59
    · exact tie60
    · exact tie61
    · exact tie62
    · exact tie65
    · exact tie68
  · unfold G at h
    split at h <;> cases h
  · unfold G at h
    split at h <;> cases h
    · exact lib41
    · exact lib48
  · unfold G at h
    split at h <;> cases h
    · exact ext66
    · exact ext63
theorem gbyte : szK Tryd.prog Tryd.prog.rt.byte = some 1 := by kernel_rfl
theorem gmix : Tryd.prog.follows .mixedOrders = true := by kernel_rfl
end Go.Proofs.YtjjcgaompnjbdaaDoor
