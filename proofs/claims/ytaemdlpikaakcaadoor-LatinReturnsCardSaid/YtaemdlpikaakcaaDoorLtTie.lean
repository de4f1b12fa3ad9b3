/-
  The ghost functions of this seat are the program's functions; the library's functions by their contracts.
-/
import Derived.Test.YtaemdlpikaakcaaDoorRows
import Derived.Test.YtaemdlpikaakcaaDoorLtG
import Derived.Test.YtaemdlpikaakcaaDoorK5
import Derived.Shelf.Unicode.ValidAny
import Derived.Shelf.Strings.Search1
import Derived.Lib.LaidU8T
import Derived.Test.YtaemdlpikaakcaaDoorBd
import Derived.Test.YtaemdlpikaakcaaDoorBs
namespace Go.Proofs.YtaemdlpikaakcaaDoor
open Go.Gh Go.RowKit
set_option maxRecDepth 100000
set_option linter.unusedVariables false
def LV_ren : Go.Shelf.Ren := ⟨fun | 196 => 41 | 259 => 48 | n => n, fun | 9 => 9 | 4 => 4 | 3 => 3 | 5 => 5 | 12 => 12 | 119 => 63 | 0 => 0 | 46 => 67 | 139 => 66 | 138 => 65 | 53 => 74 | n => n, fun | 3 => 0 | 4 => 1 | n => n⟩
theorem LV : Go.Proofs.Lays.n196 Tryd.prog LV_ren where
  mixed := by kernel_rfl
  f196 := Tryd.func41.trans (congrArg some (by kernel_rfl))
  f259 := Tryd.func48.trans (congrArg some (by kernel_rfl))
  t0 := Tryd.underlying0
  a0 := Tryd.isAgg0
  z0 := Tryd.sizeOf0
  v0 := Tryd.zeroValue0
  t3 := Tryd.underlying3
  a3 := Tryd.isAgg3
  z3 := Tryd.sizeOf3
  v3 := Tryd.zeroValue3
  t4 := Tryd.underlying4
  a4 := Tryd.isAgg4
  z4 := Tryd.sizeOf4
  v4 := Tryd.zeroValue4
  t5 := Tryd.underlying5
  a5 := Tryd.isAgg5
  z5 := Tryd.sizeOf5
  v5 := Tryd.zeroValue5
  t9 := Tryd.underlying9
  a9 := Tryd.isAgg9
  z9 := Tryd.sizeOf9
  v9 := Tryd.zeroValue9
  t12 := Tryd.underlying12
  a12 := Tryd.isAgg12
  z12 := Tryd.sizeOf12
  v12 := Tryd.zeroValue12
  t46 := Tryd.underlying67
  a46 := Tryd.isAgg67
  z46 := Tryd.sizeOf67
  v46 := Tryd.zeroValue67
  t53 := Tryd.underlying74
  a53 := Tryd.isAgg74
  z53 := Tryd.sizeOf74
  v53 := Tryd.zeroValue74
  t119 := Tryd.underlying63
  a119 := Tryd.isAgg63
  z119 := Tryd.sizeOf63
  t138 := Tryd.underlying65
  a138 := Tryd.isAgg65
  z138 := Tryd.sizeOf65
  v138 := Tryd.zeroValue65
  t139 := Tryd.underlying66
  a139 := Tryd.isAgg66
  z139 := Tryd.sizeOf66
  v139 := Tryd.zeroValue66
  g3 := by kernel_rfl
  g4 := by kernel_rfl
def LI_ren : Go.Shelf.Ren := ⟨fun | 217 => 55 | 266 => 56 | n => n, fun | 9 => 9 | 5 => 5 | 3 => 3 | n => n, fun n => n⟩
theorem LI : Go.Proofs.Lays.n217 Tryd.prog LI_ren where
  mixed := by kernel_rfl
  f217 := Tryd.func55.trans (congrArg some (by kernel_rfl))
  f266 := Tryd.func56.trans (congrArg some (by kernel_rfl))
  t3 := Tryd.underlying3
  a3 := Tryd.isAgg3
  z3 := Tryd.sizeOf3
  v3 := Tryd.zeroValue3
  t5 := Tryd.underlying5
  a5 := Tryd.isAgg5
  z5 := Tryd.sizeOf5
  v5 := Tryd.zeroValue5
  t9 := Tryd.underlying9
  a9 := Tryd.isAgg9
  z9 := Tryd.sizeOf9
  v9 := Tryd.zeroValue9
def LST_ren : Go.Shelf.Ren := ⟨fun | 169 => 39 | n => n, fun | 70 => 50 | 9 => 9 | 0 => 0 | 72 => 52 | 37 => 25 | 127 => 61 | 3 => 3 | 5 => 5 | n => n, fun | 240 => 46 | 276 => 53 | n => n⟩
theorem LST : Go.Proofs.Lays.n169 Tryd.prog LST_ren where
  mixed := by kernel_rfl
  f169 := Tryd.func39.trans (congrArg some (by kernel_rfl))
  t0 := Tryd.underlying0
  a0 := Tryd.isAgg0
  z0 := Tryd.sizeOf0
  v0 := Tryd.zeroValue0
  t3 := Tryd.underlying3
  a3 := Tryd.isAgg3
  z3 := Tryd.sizeOf3
  v3 := Tryd.zeroValue3
  t9 := Tryd.underlying9
  a9 := Tryd.isAgg9
  z9 := Tryd.sizeOf9
  v9 := Tryd.zeroValue9
  t37 := Tryd.underlying25
  a37 := Tryd.isAgg25
  z37 := Tryd.sizeOf25
  v37 := Tryd.zeroValue25
  t70 := Tryd.underlying50
  a70 := Tryd.isAgg50
  z70 := Tryd.sizeOf50
  v70 := Tryd.zeroValue50
  t72 := Tryd.underlying52
  a72 := Tryd.isAgg52
  z72 := Tryd.sizeOf52
  v72 := Tryd.zeroValue52
  t127 := Tryd.underlying61
  a127 := Tryd.isAgg61
  z127 := Tryd.sizeOf61
  v127 := Tryd.zeroValue61
def LCC_ren : Go.Shelf.Ren := ⟨fun | 240 => 46 | 276 => 53 | n => n, fun | 70 => 50 | 9 => 9 | 72 => 52 | 4 => 4 | 37 => 25 | 164 => 71 | n => n, fun n => n⟩
theorem LCC : Go.Proofs.Lays.n240 Tryd.prog LCC_ren where
  mixed := by kernel_rfl
  f240 := Tryd.func46.trans (congrArg some (by kernel_rfl))
  f276 := Tryd.func53.trans (congrArg some (by kernel_rfl))
  t0 := Tryd.underlying0
  a0 := Tryd.isAgg0
  z0 := Tryd.sizeOf0
  v0 := Tryd.zeroValue0
  t4 := Tryd.underlying4
  a4 := Tryd.isAgg4
  z4 := Tryd.sizeOf4
  v4 := Tryd.zeroValue4
  t9 := Tryd.underlying9
  a9 := Tryd.isAgg9
  z9 := Tryd.sizeOf9
  v9 := Tryd.zeroValue9
  t20 := Tryd.underlying20
  a20 := Tryd.isAgg20
  z20 := Tryd.sizeOf20
  v20 := Tryd.zeroValue20
  t70 := Tryd.underlying50
  a70 := Tryd.isAgg50
  z70 := Tryd.sizeOf50
  v70 := Tryd.zeroValue50
  t72 := Tryd.underlying52
  a72 := Tryd.isAgg52
  z72 := Tryd.sizeOf52
  v72 := Tryd.zeroValue52
  t164 := Tryd.underlying71
  a164 := Tryd.isAgg71
  z164 := Tryd.sizeOf71
  v164 := Tryd.zeroValue71


theorem tie3 : ∃ fn, Tryd.prog.funcs[3]? = some fn ∧ cFun Tryd.prog fn = some g3 := ⟨Tryd.f3, Tryd.func3, by kernel_rfl⟩
theorem tie4 : ∃ fn, Tryd.prog.funcs[4]? = some fn ∧ cFun Tryd.prog fn = some g4 := ⟨Tryd.f4, Tryd.func4, by kernel_rfl⟩
theorem tie5 : ∃ fn, Tryd.prog.funcs[5]? = some fn ∧ cFun Tryd.prog fn = some g5 := ⟨Tryd.f5, Tryd.func5, by kernel_rfl⟩
theorem tie6 : ∃ fn, Tryd.prog.funcs[6]? = some fn ∧ cFun Tryd.prog fn = some g6 := ⟨Tryd.f6, Tryd.func6, by kernel_rfl⟩
theorem tie7 : ∃ fn, Tryd.prog.funcs[7]? = some fn ∧ cFun Tryd.prog fn = some g7 := ⟨Tryd.f7, Tryd.func7, by kernel_rfl⟩
theorem tie8 : ∃ fn, Tryd.prog.funcs[8]? = some fn ∧ cFun Tryd.prog fn = some g8 := ⟨Tryd.f8, Tryd.func8, by kernel_rfl⟩
theorem tie9 : ∃ fn, Tryd.prog.funcs[9]? = some fn ∧ cFun Tryd.prog fn = some g9 := ⟨Tryd.f9, Tryd.func9, by kernel_rfl⟩
theorem tie10 : ∃ fn, Tryd.prog.funcs[10]? = some fn ∧ cFun Tryd.prog fn = some g10 := ⟨Tryd.f10, Tryd.func10, by kernel_rfl⟩
theorem tie11 : ∃ fn, Tryd.prog.funcs[11]? = some fn ∧ cFun Tryd.prog fn = some g11 := ⟨Tryd.f11, Tryd.func11, by kernel_rfl⟩
theorem tie12 : ∃ fn, Tryd.prog.funcs[12]? = some fn ∧ cFun Tryd.prog fn = some g12 := ⟨Tryd.f12, Tryd.func12, by kernel_rfl⟩
theorem tie13 : ∃ fn, Tryd.prog.funcs[13]? = some fn ∧ cFun Tryd.prog fn = some g13 := ⟨Tryd.f13, Tryd.func13, by kernel_rfl⟩
theorem tie14 : ∃ fn, Tryd.prog.funcs[14]? = some fn ∧ cFun Tryd.prog fn = some g14 := ⟨Tryd.f14, Tryd.func14, by kernel_rfl⟩
theorem tie15 : ∃ fn, Tryd.prog.funcs[15]? = some fn ∧ cFun Tryd.prog fn = some g15 := ⟨Tryd.f15, Tryd.func15, by kernel_rfl⟩
theorem tie16 : ∃ fn, Tryd.prog.funcs[16]? = some fn ∧ cFun Tryd.prog fn = some g16 := ⟨Tryd.f16, Tryd.func16, by kernel_rfl⟩
theorem tie17 : ∃ fn, Tryd.prog.funcs[17]? = some fn ∧ cFun Tryd.prog fn = some g17 := ⟨Tryd.f17, Tryd.func17, by kernel_rfl⟩
theorem tie18 : ∃ fn, Tryd.prog.funcs[18]? = some fn ∧ cFun Tryd.prog fn = some g18 := ⟨Tryd.f18, Tryd.func18, by kernel_rfl⟩
theorem tie19 : ∃ fn, Tryd.prog.funcs[19]? = some fn ∧ cFun Tryd.prog fn = some g19 := ⟨Tryd.f19, Tryd.func19, by kernel_rfl⟩
theorem tie20 : ∃ fn, Tryd.prog.funcs[20]? = some fn ∧ cFun Tryd.prog fn = some g20 := ⟨Tryd.f20, Tryd.func20, by kernel_rfl⟩
theorem tie21 : ∃ fn, Tryd.prog.funcs[21]? = some fn ∧ cFun Tryd.prog fn = some g21 := ⟨Tryd.f21, Tryd.func21, by kernel_rfl⟩
theorem tie22 : ∃ fn, Tryd.prog.funcs[22]? = some fn ∧ cFun Tryd.prog fn = some g22 := ⟨Tryd.f22, Tryd.func22, by kernel_rfl⟩
theorem tie23 : ∃ fn, Tryd.prog.funcs[23]? = some fn ∧ cFun Tryd.prog fn = some g23 := ⟨Tryd.f23, Tryd.func23, by kernel_rfl⟩
theorem tie24 : ∃ fn, Tryd.prog.funcs[24]? = some fn ∧ cFun Tryd.prog fn = some g24 := ⟨Tryd.f24, Tryd.func24, by kernel_rfl⟩
theorem tie25 : ∃ fn, Tryd.prog.funcs[25]? = some fn ∧ cFun Tryd.prog fn = some g25 := ⟨Tryd.f25, Tryd.func25, by kernel_rfl⟩
theorem tie26 : ∃ fn, Tryd.prog.funcs[26]? = some fn ∧ cFun Tryd.prog fn = some g26 := ⟨Tryd.f26, Tryd.func26, by kernel_rfl⟩
theorem tie27 : ∃ fn, Tryd.prog.funcs[27]? = some fn ∧ cFun Tryd.prog fn = some g27 := ⟨Tryd.f27, Tryd.func27, by kernel_rfl⟩
theorem tie28 : ∃ fn, Tryd.prog.funcs[28]? = some fn ∧ cFun Tryd.prog fn = some g28 := ⟨Tryd.f28, Tryd.func28, by kernel_rfl⟩
theorem tie29 : ∃ fn, Tryd.prog.funcs[29]? = some fn ∧ cFun Tryd.prog fn = some g29 := ⟨Tryd.f29, Tryd.func29, by kernel_rfl⟩
theorem tie30 : ∃ fn, Tryd.prog.funcs[30]? = some fn ∧ cFun Tryd.prog fn = some g30 := ⟨Tryd.f30, Tryd.func30, by kernel_rfl⟩
theorem tie31 : ∃ fn, Tryd.prog.funcs[31]? = some fn ∧ cFun Tryd.prog fn = some g31 := ⟨Tryd.f31, Tryd.func31, by kernel_rfl⟩
theorem tie32 : ∃ fn, Tryd.prog.funcs[32]? = some fn ∧ cFun Tryd.prog fn = some g32 := ⟨Tryd.f32, Tryd.func32, by kernel_rfl⟩
theorem tie33 : ∃ fn, Tryd.prog.funcs[33]? = some fn ∧ cFun Tryd.prog fn = some g33 := ⟨Tryd.f33, Tryd.func33, by kernel_rfl⟩
theorem tie34 : ∃ fn, Tryd.prog.funcs[34]? = some fn ∧ cFun Tryd.prog fn = some g34 := ⟨Tryd.f34, Tryd.func34, by kernel_rfl⟩
theorem tie35 : ∃ fn, Tryd.prog.funcs[35]? = some fn ∧ cFun Tryd.prog fn = some g35 := ⟨Tryd.f35, Tryd.func35, by kernel_rfl⟩
theorem tie36 : ∃ fn, Tryd.prog.funcs[36]? = some fn ∧ cFun Tryd.prog fn = some g36 := ⟨Tryd.f36, Tryd.func36, by kernel_rfl⟩
theorem tie37 : ∃ fn, Tryd.prog.funcs[37]? = some fn ∧ cFun Tryd.prog fn = some g37 := ⟨Tryd.f37, Tryd.func37, by kernel_rfl⟩
theorem tie38 : ∃ fn, Tryd.prog.funcs[38]? = some fn ∧ cFun Tryd.prog fn = some g38 := ⟨Tryd.f38, Tryd.func38, by kernel_rfl⟩
theorem tie40 : ∃ fn, Tryd.prog.funcs[40]? = some fn ∧ cFun Tryd.prog fn = some g40 := ⟨Tryd.f40, Tryd.func40, by kernel_rfl⟩
theorem tie42 : ∃ fn, Tryd.prog.funcs[42]? = some fn ∧ cFun Tryd.prog fn = some g42 := ⟨Tryd.f42, Tryd.func42, by kernel_rfl⟩
theorem tie43 : ∃ fn, Tryd.prog.funcs[43]? = some fn ∧ cFun Tryd.prog fn = some g43 := ⟨Tryd.f43, Tryd.func43, by kernel_rfl⟩
theorem tie44 : ∃ fn, Tryd.prog.funcs[44]? = some fn ∧ cFun Tryd.prog fn = some g44 := ⟨Tryd.f44, Tryd.func44, by kernel_rfl⟩
theorem tie45 : ∃ fn, Tryd.prog.funcs[45]? = some fn ∧ cFun Tryd.prog fn = some g45 := ⟨Tryd.f45, Tryd.func45, by kernel_rfl⟩
theorem tie47 : ∃ fn, Tryd.prog.funcs[47]? = some fn ∧ cFun Tryd.prog fn = some g47 := ⟨Tryd.f47, Tryd.func47, by kernel_rfl⟩
theorem tie49 : ∃ fn, Tryd.prog.funcs[49]? = some fn ∧ cFun Tryd.prog fn = some g49 := ⟨Tryd.f49, Tryd.func49, by kernel_rfl⟩
theorem tie50 : ∃ fn, Tryd.prog.funcs[50]? = some fn ∧ cFun Tryd.prog fn = some g50 := ⟨Tryd.f50, Tryd.func50, by kernel_rfl⟩
theorem tie51 : ∃ fn, Tryd.prog.funcs[51]? = some fn ∧ cFun Tryd.prog fn = some g51 := ⟨Tryd.f51, Tryd.func51, by kernel_rfl⟩
theorem tie54 : ∃ fn, Tryd.prog.funcs[54]? = some fn ∧ cFun Tryd.prog fn = some g54 := ⟨Tryd.f54, Tryd.func54, by kernel_rfl⟩
theorem lib41 : (∀ (asl : Array Value) (w : World), (callFunc 41 asl).run Tryd.prog w = .ok (.enter 41 asl) w) ∧
    ∀ args v, args.all litOk = true → runValid args = some v → litVal v = true → ∀ w : World, gT Tryd.prog w → Calls Tryd.prog 41 args.toArray w fun e w' => e = .returned v ∧ Below w.heap.size w w' := by
  refine ⟨fun asl w => callFunc_enter Tryd.func41 (by kernel_rfl) rfl asl w, fun args v _ hr _ w hT => ?_⟩
  unfold runValid at hr
  split at hr
  · split at hr
    · rename_i hs
      cases hr
      exact Any.utf8_ValidString LV _ w hs hT
    · cases hr
  · cases hr
theorem lib55 : (∀ (asl : Array Value) (w : World), (callFunc 55 asl).run Tryd.prog w = .ok (.enter 55 asl) w) ∧
    ∀ args v, args.all litOk = true → runIndexByte args = some v → litVal v = true → ∀ w : World, gT Tryd.prog w → Calls Tryd.prog 55 args.toArray w fun e w' => e = .returned v ∧ Below w.heap.size w w' := by
  refine ⟨fun asl w => callFunc_enter Tryd.func55 (by kernel_rfl) rfl asl w, fun args v _ hr _ w hT => ?_⟩
  unfold runIndexByte at hr
  split at hr
  · cases hr
    refine (Any.stringslite_IndexByte LI _ _ w).mono fun e w' hh => ?_
    obtain ⟨rfl, rfl⟩ := hh
    exact ⟨rfl, Below.refl _ _⟩
  · cases hr
theorem xcc : Builder.X72 Tryd.prog LCC_ren := ⟨by kernel_rfl, by kernel_rfl⟩
theorem ext46 : ExtOk Tryd.prog 46 runCC := cc_ok (fun asl w => callFunc_enter Tryd.func46 (by kernel_rfl) rfl asl w) (fun b w h0 h1 h2 => Any.Builder_copyCheck_fresh LCC xcc b w h0 h1 h2) (fun b w h0 => Any.Builder_copyCheck_used LCC xcc b w h0)
theorem xst : Builder.Extra Tryd.prog LST_ren := ⟨⟨by kernel_rfl, by kernel_rfl⟩, Tryd.underlying5, Tryd.isAgg5, Tryd.sizeOf5, Tryd.zeroValue5, by kernel_rfl, by kernel_rfl, by kernel_rfl, by decide⟩
theorem ext39 : ExtOk Tryd.prog 39 runStr := str_ok (fun asl w => callFunc_enter Tryd.func39 (by kernel_rfl) rfl asl w) (fun b g o cap l cur fz w h0 h1 h2 h3 h4 h5 h6 => string_exact LST xst b g o cap l cur fz w h0 h1 h2 h3 h4 h5 h6) (fun b w h => string_nil_exact LST xst b w h)
theorem gok : GOk Tryd.prog G := by
  intro f
  refine ⟨fun g h => ?_, fun g h => ?_, fun run h => ?_, fun run h => ?_⟩
  · unfold G at h
    split at h <;> rcases h with h | h <;> cases h
    · exact tie3
    · exact tie4
    · exact tie5
    · exact tie6
    · exact tie7
    · exact tie8
    · exact tie9
    · exact tie10
    · exact tie11
    · exact tie12
    · exact tie13
    · exact tie14
    · exact tie15
    · exact tie16
    · exact tie17
    · exact tie18
    · exact tie19
    · exact tie20
    · exact tie21
    · exact tie22
    · exact tie23
    · exact tie24
    · exact tie25
    · exact tie26
    · exact tie27
    · exact tie28
    · exact tie29
    · exact tie30
    · exact tie31
    · exact tie32
    · exact tie33
    · exact tie34
    · exact tie35
    · exact tie36
    · exact tie37
    · exact tie38
    · exact tie40
    · exact tie42
    · exact tie43
    · exact tie44
    · exact tie45
    · exact tie47
    · exact tie49
    · exact tie50
    · exact tie51
    · exact tie54
  · unfold G at h
    split at h <;> cases h
  · unfold G at h
    split at h <;> cases h
    · exact lib41
    · exact lib55
  · unfold G at h
    split at h <;> cases h
    · exact ext46
    · exact ext39
theorem gbyte : szK Tryd.prog Tryd.prog.rt.byte = some 1 := by kernel_rfl
theorem gmix : Tryd.prog.follows .mixedOrders = true := by kernel_rfl
end Go.Proofs.YtaemdlpikaakcaaDoor
