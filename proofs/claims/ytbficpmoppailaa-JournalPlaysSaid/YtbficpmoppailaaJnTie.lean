/-
  The ghost functions of this seat are the program's functions.
-/
import Derived.Test.YtbficpmoppailaaRows
import Derived.Test.YtbficpmoppailaaJnG
import Derived.Test.YtbficpmoppailaaK5
namespace Go.Proofs.Ytbficpmoppailaa
open Go.Gh
set_option maxRecDepth 100000
theorem tie2 : ∃ fn, Try.prog.funcs[2]? = some fn ∧ cFun Try.prog fn = some g2 := ⟨Try.f2, Try.func2, by kernel_rfl⟩
theorem tie3 : ∃ fn, Try.prog.funcs[3]? = some fn ∧ cFun Try.prog fn = some g3 := ⟨Try.f3, Try.func3, by kernel_rfl⟩
theorem tie4 : ∃ fn, Try.prog.funcs[4]? = some fn ∧ cFun Try.prog fn = some g4 := ⟨Try.f4, Try.func4, by kernel_rfl⟩
theorem tie5 : ∃ fn, Try.prog.funcs[5]? = some fn ∧ cFun Try.prog fn = some g5 := ⟨Try.f5, Try.func5, by kernel_rfl⟩
theorem tie6 : ∃ fn, Try.prog.funcs[6]? = some fn ∧ cFun Try.prog fn = some g6 := ⟨Try.f6, Try.func6, by kernel_rfl⟩
theorem tie7 : ∃ fn, Try.prog.funcs[7]? = some fn ∧ cFun Try.prog fn = some g7 := ⟨Try.f7, Try.func7, by kernel_rfl⟩
theorem tie8 : ∃ fn, Try.prog.funcs[8]? = some fn ∧ cFun Try.prog fn = some g8 := ⟨Try.f8, Try.func8, by kernel_rfl⟩
theorem tie9 : ∃ fn, Try.prog.funcs[9]? = some fn ∧ cFun Try.prog fn = some g9 := ⟨Try.f9, Try.func9, by kernel_rfl⟩
theorem tie10 : ∃ fn, Try.prog.funcs[10]? = some fn ∧ cFun Try.prog fn = some g10 := ⟨Try.f10, Try.func10, by kernel_rfl⟩
theorem tie11 : ∃ fn, Try.prog.funcs[11]? = some fn ∧ cFun Try.prog fn = some g11 := ⟨Try.f11, Try.func11, by kernel_rfl⟩
theorem tie12 : ∃ fn, Try.prog.funcs[12]? = some fn ∧ cFun Try.prog fn = some g12 := ⟨Try.f12, Try.func12, by kernel_rfl⟩
theorem tie13 : ∃ fn, Try.prog.funcs[13]? = some fn ∧ cFun Try.prog fn = some g13 := ⟨Try.f13, Try.func13, by kernel_rfl⟩
theorem tie14 : ∃ fn, Try.prog.funcs[14]? = some fn ∧ cFun Try.prog fn = some g14 := ⟨Try.f14, Try.func14, by kernel_rfl⟩
theorem tie15 : ∃ fn, Try.prog.funcs[15]? = some fn ∧ cFun Try.prog fn = some g15 := ⟨Try.f15, Try.func15, by kernel_rfl⟩
theorem tie16 : ∃ fn, Try.prog.funcs[16]? = some fn ∧ cFun Try.prog fn = some g16 := ⟨Try.f16, Try.func16, by kernel_rfl⟩
theorem tie17 : ∃ fn, Try.prog.funcs[17]? = some fn ∧ cFun Try.prog fn = some g17 := ⟨Try.f17, Try.func17, by kernel_rfl⟩
theorem tie18 : ∃ fn, Try.prog.funcs[18]? = some fn ∧ cFun Try.prog fn = some g18 := ⟨Try.f18, Try.func18, by kernel_rfl⟩
theorem tie19 : ∃ fn, Try.prog.funcs[19]? = some fn ∧ cFun Try.prog fn = some g19 := ⟨Try.f19, Try.func19, by kernel_rfl⟩
theorem tie20 : ∃ fn, Try.prog.funcs[20]? = some fn ∧ cFun Try.prog fn = some g20 := ⟨Try.f20, Try.func20, by kernel_rfl⟩
theorem tie21 : ∃ fn, Try.prog.funcs[21]? = some fn ∧ cFun Try.prog fn = some g21 := ⟨Try.f21, Try.func21, by kernel_rfl⟩
theorem tie22 : ∃ fn, Try.prog.funcs[22]? = some fn ∧ cFun Try.prog fn = some g22 := ⟨Try.f22, Try.func22, by kernel_rfl⟩
theorem tie23 : ∃ fn, Try.prog.funcs[23]? = some fn ∧ cFun Try.prog fn = some g23 := ⟨Try.f23, Try.func23, by kernel_rfl⟩
theorem tie24 : ∃ fn, Try.prog.funcs[24]? = some fn ∧ cFun Try.prog fn = some g24 := ⟨Try.f24, Try.func24, by kernel_rfl⟩
theorem tie25 : ∃ fn, Try.prog.funcs[25]? = some fn ∧ cFun Try.prog fn = some g25 := ⟨Try.f25, Try.func25, by kernel_rfl⟩
theorem tie26 : ∃ fn, Try.prog.funcs[26]? = some fn ∧ cFun Try.prog fn = some g26 := ⟨Try.f26, Try.func26, by kernel_rfl⟩
theorem tie27 : ∃ fn, Try.prog.funcs[27]? = some fn ∧ cFun Try.prog fn = some g27 := ⟨Try.f27, Try.func27, by kernel_rfl⟩
theorem tie28 : ∃ fn, Try.prog.funcs[28]? = some fn ∧ cFun Try.prog fn = some g28 := ⟨Try.f28, Try.func28, by kernel_rfl⟩
theorem tie29 : ∃ fn, Try.prog.funcs[29]? = some fn ∧ cFun Try.prog fn = some g29 := ⟨Try.f29, Try.func29, by kernel_rfl⟩
theorem tie30 : ∃ fn, Try.prog.funcs[30]? = some fn ∧ cFun Try.prog fn = some g30 := ⟨Try.f30, Try.func30, by kernel_rfl⟩
theorem tie31 : ∃ fn, Try.prog.funcs[31]? = some fn ∧ cFun Try.prog fn = some g31 := ⟨Try.f31, Try.func31, by kernel_rfl⟩
theorem tie32 : ∃ fn, Try.prog.funcs[32]? = some fn ∧ cFun Try.prog fn = some g32 := ⟨Try.f32, Try.func32, by kernel_rfl⟩
theorem tie33 : ∃ fn, Try.prog.funcs[33]? = some fn ∧ cFun Try.prog fn = some g33 := ⟨Try.f33, Try.func33, by kernel_rfl⟩
theorem tie34 : ∃ fn, Try.prog.funcs[34]? = some fn ∧ cFun Try.prog fn = some g34 := ⟨Try.f34, Try.func34, by kernel_rfl⟩
theorem tie35 : ∃ fn, Try.prog.funcs[35]? = some fn ∧ cFun Try.prog fn = some g35 := ⟨Try.f35, Try.func35, by kernel_rfl⟩
theorem tie36 : ∃ fn, Try.prog.funcs[36]? = some fn ∧ cFun Try.prog fn = some g36 := ⟨Try.f36, Try.func36, by kernel_rfl⟩
theorem tie37 : ∃ fn, Try.prog.funcs[37]? = some fn ∧ cFun Try.prog fn = some g37 := ⟨Try.f37, Try.func37, by kernel_rfl⟩
theorem tie38 : ∃ fn, Try.prog.funcs[38]? = some fn ∧ cFun Try.prog fn = some g38 := ⟨Try.f38, Try.func38, by kernel_rfl⟩
theorem tie39 : ∃ fn, Try.prog.funcs[39]? = some fn ∧ cFun Try.prog fn = some g39 := ⟨Try.f39, Try.func39, by kernel_rfl⟩
theorem tie40 : ∃ fn, Try.prog.funcs[40]? = some fn ∧ cFun Try.prog fn = some g40 := ⟨Try.f40, Try.func40, by kernel_rfl⟩
theorem tie41 : ∃ fn, Try.prog.funcs[41]? = some fn ∧ cFun Try.prog fn = some g41 := ⟨Try.f41, Try.func41, by kernel_rfl⟩
theorem tie42 : ∃ fn, Try.prog.funcs[42]? = some fn ∧ cFun Try.prog fn = some g42 := ⟨Try.f42, Try.func42, by kernel_rfl⟩
theorem tie43 : ∃ fn, Try.prog.funcs[43]? = some fn ∧ cFun Try.prog fn = some g43 := ⟨Try.f43, Try.func43, by kernel_rfl⟩
theorem tie44 : ∃ fn, Try.prog.funcs[44]? = some fn ∧ cFun Try.prog fn = some g44 := ⟨Try.f44, Try.func44, by kernel_rfl⟩
theorem tie45 : ∃ fn, Try.prog.funcs[45]? = some fn ∧ cFun Try.prog fn = some g45 := ⟨Try.f45, Try.func45, by kernel_rfl⟩
theorem tie46 : ∃ fn, Try.prog.funcs[46]? = some fn ∧ cFun Try.prog fn = some g46 := ⟨Try.f46, Try.func46, by kernel_rfl⟩
theorem tie47 : ∃ fn, Try.prog.funcs[47]? = some fn ∧ cFun Try.prog fn = some g47 := ⟨Try.f47, Try.func47, by kernel_rfl⟩
theorem tie48 : ∃ fn, Try.prog.funcs[48]? = some fn ∧ cFun Try.prog fn = some g48 := ⟨Try.f48, Try.func48, by kernel_rfl⟩
theorem tie49 : ∃ fn, Try.prog.funcs[49]? = some fn ∧ cFun Try.prog fn = some g49 := ⟨Try.f49, Try.func49, by kernel_rfl⟩
theorem tie50 : ∃ fn, Try.prog.funcs[50]? = some fn ∧ cFun Try.prog fn = some g50 := ⟨Try.f50, Try.func50, by kernel_rfl⟩
theorem tie51 : ∃ fn, Try.prog.funcs[51]? = some fn ∧ cFun Try.prog fn = some g51 := ⟨Try.f51, Try.func51, by kernel_rfl⟩
theorem tie52 : ∃ fn, Try.prog.funcs[52]? = some fn ∧ cFun Try.prog fn = some g52 := ⟨Try.f52, Try.func52, by kernel_rfl⟩
theorem tie53 : ∃ fn, Try.prog.funcs[53]? = some fn ∧ cFun Try.prog fn = some g53 := ⟨Try.f53, Try.func53, by kernel_rfl⟩
theorem tie54 : ∃ fn, Try.prog.funcs[54]? = some fn ∧ cFun Try.prog fn = some g54 := ⟨Try.f54, Try.func54, by kernel_rfl⟩
theorem tie55 : ∃ fn, Try.prog.funcs[55]? = some fn ∧ cFun Try.prog fn = some g55 := ⟨Try.f55, Try.func55, by kernel_rfl⟩
theorem tie56 : ∃ fn, Try.prog.funcs[56]? = some fn ∧ cFun Try.prog fn = some g56 := ⟨Try.f56, Try.func56, by kernel_rfl⟩
theorem tie57 : ∃ fn, Try.prog.funcs[57]? = some fn ∧ cFun Try.prog fn = some g57 := ⟨Try.f57, Try.func57, by kernel_rfl⟩
theorem tie58 : ∃ fn, Try.prog.funcs[58]? = some fn ∧ cFun Try.prog fn = some g58 := ⟨Try.f58, Try.func58, by kernel_rfl⟩
theorem tie59 : ∃ fn, Try.prog.funcs[59]? = some fn ∧ cFun Try.prog fn = some g59 := ⟨Try.f59, Try.func59, by kernel_rfl⟩
theorem tie60 : ∃ fn, Try.prog.funcs[60]? = some fn ∧ cFun Try.prog fn = some g60 := ⟨Try.f60, Try.func60, by kernel_rfl⟩
theorem tie61 : ∃ fn, Try.prog.funcs[61]? = some fn ∧ cFun Try.prog fn = some g61 := ⟨Try.f61, Try.func61, by kernel_rfl⟩
theorem tie62 : ∃ fn, Try.prog.funcs[62]? = some fn ∧ cFun Try.prog fn = some g62 := ⟨Try.f62, Try.func62, by kernel_rfl⟩
theorem tie63 : ∃ fn, Try.prog.funcs[63]? = some fn ∧ cFun Try.prog fn = some g63 := ⟨Try.f63, Try.func63, by kernel_rfl⟩
theorem gok : GOk Try.prog G := by
  intro f
  refine ⟨fun g h => ?_, fun g h => ?_, fun run h => ?_, fun run h => ?_⟩
  · unfold G at h
    split at h <;> rcases h with h | h <;> cases h
    · exact tie2
    · exact tie3
    · exact tie4
    · exact tie5
    · exact tie6
    · exact tie7
    · exact tie8
    · exact tie9
    · exact tie10
    · exact tie11
    · exact tie12
    · exact tie13
    · exact tie14
    · exact tie15
    · exact tie16
    · exact tie17
    · exact tie18
    · exact tie19
    · exact tie20
    · exact tie21
    · exact tie22
    · exact tie23
    · exact tie24
    · exact tie25
    · exact tie26
    · exact tie27
    · exact tie28
    · exact tie29
    · exact tie30
    · exact tie31
    · exact tie32
    · exact tie33
    · exact tie34
    · exact tie35
    · exact tie36
    · exact tie37
    · exact tie38
    · exact tie39
    · exact tie40
    · exact tie41
    · exact tie42
    · exact tie43
    · exact tie44
    · exact tie45
    · exact tie46
    · exact tie47
    · exact tie48
    · exact tie49
    · exact tie50
    · exact tie51
    · exact tie52
    · exact tie53
    · exact tie54
    · exact tie55
    · exact tie56
    · exact tie57
    · exact tie58
    · exact tie59
    · exact tie60
    · exact tie61
    · exact tie62
    · exact tie63
  · unfold G at h
    split at h <;> cases h
  · unfold G at h
    split at h <;> cases h
  · unfold G at h
    split at h <;> cases h
theorem gbyte : szK Try.prog Try.prog.rt.byte = some 1 := by kernel_rfl
theorem gmix : Try.prog.follows .mixedOrders = true := by kernel_rfl
end Go.Proofs.Ytbficpmoppailaa
