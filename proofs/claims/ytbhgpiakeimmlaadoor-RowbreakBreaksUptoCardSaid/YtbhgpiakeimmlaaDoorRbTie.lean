/-
  The ghost functions of this seat are the program's functions; the library's functions by their contracts.
-/
import Derived.Test.YtbhgpiakeimmlaaDoorRows
import Derived.Test.YtbhgpiakeimmlaaDoorRbG
import Derived.Test.YtbhgpiakeimmlaaDoorK5
import Derived.Shelf.Unicode.ValidAny
import Derived.Shelf.Strings.Search1
import Derived.Lib.LaidU8T
import Derived.Test.YtbhgpiakeimmlaaDoorRbJ
namespace Go.Proofs.YtbhgpiakeimmlaaDoor
open Go.Gh Go.RowKit
set_option maxRecDepth 100000
set_option linter.unusedVariables false
def LV_ren : Go.Shelf.Ren := ⟨fun | 196 => 65 | 259 => 73 | n => n, fun | 9 => 9 | 4 => 4 | 3 => 3 | 5 => 5 | 12 => 12 | 119 => 99 | 0 => 0 | 46 => 103 | 139 => 102 | 138 => 101 | 53 => 110 | n => n, fun | 3 => 0 | 4 => 1 | n => n⟩
theorem LV : Go.Proofs.Lays.n196 Tryd.prog LV_ren where
  mixed := by kernel_rfl
  f196 := Tryd.func65.trans (congrArg some (by kernel_rfl))
  f259 := Tryd.func73.trans (congrArg some (by kernel_rfl))
  t0 := Tryd.underlying0
  a0 := Tryd.isAgg0
  z0 := Tryd.sizeOf0
  v0 := Tryd.zeroValue0
  t3 := Tryd.underlying3
  a3 := Tryd.isAgg3
  z3 := Tryd.sizeOf3
  v3 := Tryd.zeroValue3
  t4 := Tryd.underlying4
  a4 := Tryd.isAgg4
  z4 := Tryd.sizeOf4
  v4 := Tryd.zeroValue4
  t5 := Tryd.underlying5
  a5 := Tryd.isAgg5
  z5 := Tryd.sizeOf5
  v5 := Tryd.zeroValue5
  t9 := Tryd.underlying9
  a9 := Tryd.isAgg9
  z9 := Tryd.sizeOf9
  v9 := Tryd.zeroValue9
  t12 := Tryd.underlying12
  a12 := Tryd.isAgg12
  z12 := Tryd.sizeOf12
  v12 := Tryd.zeroValue12
  t46 := Tryd.underlying103
  a46 := Tryd.isAgg103
  z46 := Tryd.sizeOf103
  v46 := Tryd.zeroValue103
  t53 := Tryd.underlying110
  a53 := Tryd.isAgg110
  z53 := Tryd.sizeOf110
  v53 := Tryd.zeroValue110
  t119 := Tryd.underlying99
  a119 := Tryd.isAgg99
  z119 := Tryd.sizeOf99
  t138 := Tryd.underlying101
  a138 := Tryd.isAgg101
  z138 := Tryd.sizeOf101
  v138 := Tryd.zeroValue101
  t139 := Tryd.underlying102
  a139 := Tryd.isAgg102
  z139 := Tryd.sizeOf102
  v139 := Tryd.zeroValue102
  g3 := by kernel_rfl
  g4 := by kernel_rfl
def LI_ren : Go.Shelf.Ren := ⟨fun | 217 => 78 | 266 => 82 | n => n, fun | 9 => 9 | 5 => 5 | 3 => 3 | n => n, fun n => n⟩
theorem LI : Go.Proofs.Lays.n217 Tryd.prog LI_ren where
  mixed := by kernel_rfl
  f217 := Tryd.func78.trans (congrArg some (by kernel_rfl))
  f266 := Tryd.func82.trans (congrArg some (by kernel_rfl))
  t3 := Tryd.underlying3
  a3 := Tryd.isAgg3
  z3 := Tryd.sizeOf3
  v3 := Tryd.zeroValue3
  t5 := Tryd.underlying5
  a5 := Tryd.isAgg5
  z5 := Tryd.sizeOf5
  v5 := Tryd.zeroValue5
  t9 := Tryd.underlying9
  a9 := Tryd.isAgg9
  z9 := Tryd.sizeOf9
  v9 := Tryd.zeroValue9
def LJ_ren : Go.Shelf.Ren := ⟨fun | 156 => 41 | 165 => 57 | 166 => 58 | 169 => 59 | 240 => 69 | 241 => 70 | 276 => 76 | 277 => 77 | n => n, fun | 31 => 34 | 9 => 9 | 3 => 3 | 4 => 4 | 0 => 0 | 20 => 20 | 72 => 83 | 76 => 87 | 70 => 80 | 37 => 81 | 75 => 86 | 127 => 95 | 164 => 105 | 5 => 5 | 80 => 89 | n => n, fun n => n⟩
theorem LJ : Go.Proofs.Lays.n156 Tryd.prog LJ_ren where
  mixed := by kernel_rfl
  f156 := Tryd.func41.trans (congrArg some (by kernel_rfl))
  f165 := Tryd.func57.trans (congrArg some (by kernel_rfl))
  f166 := Tryd.func58.trans (congrArg some (by kernel_rfl))
  f169 := Tryd.func59.trans (congrArg some (by kernel_rfl))
  f240 := Tryd.func69.trans (congrArg some (by kernel_rfl))
  f241 := Tryd.func70.trans (congrArg some (by kernel_rfl))
  f276 := Tryd.func76.trans (congrArg some (by kernel_rfl))
  f277 := Tryd.func77.trans (congrArg some (by kernel_rfl))
  t0 := Tryd.underlying0
  a0 := Tryd.isAgg0
  z0 := Tryd.sizeOf0
  v0 := Tryd.zeroValue0
  t3 := Tryd.underlying3
  a3 := Tryd.isAgg3
  z3 := Tryd.sizeOf3
  v3 := Tryd.zeroValue3
  t4 := Tryd.underlying4
  a4 := Tryd.isAgg4
  z4 := Tryd.sizeOf4
  v4 := Tryd.zeroValue4
  t9 := Tryd.underlying9
  a9 := Tryd.isAgg9
  z9 := Tryd.sizeOf9
  v9 := Tryd.zeroValue9
  t20 := Tryd.underlying20
  a20 := Tryd.isAgg20
  z20 := Tryd.sizeOf20
  v20 := Tryd.zeroValue20
  t31 := Tryd.underlying34
  a31 := Tryd.isAgg34
  z31 := Tryd.sizeOf34
  v31 := Tryd.zeroValue34
  t37 := Tryd.underlying81
  a37 := Tryd.isAgg81
  z37 := Tryd.sizeOf81
  v37 := Tryd.zeroValue81
  t70 := Tryd.underlying80
  a70 := Tryd.isAgg80
  z70 := Tryd.sizeOf80
  v70 := Tryd.zeroValue80
  t72 := Tryd.underlying83
  a72 := Tryd.isAgg83
  z72 := Tryd.sizeOf83
  v72 := Tryd.zeroValue83
  t75 := Tryd.underlying86
  a75 := Tryd.isAgg86
  z75 := Tryd.sizeOf86
  v75 := Tryd.zeroValue86
  t76 := Tryd.underlying87
  a76 := Tryd.isAgg87
  z76 := Tryd.sizeOf87
  v76 := Tryd.zeroValue87
  t127 := Tryd.underlying95
  a127 := Tryd.isAgg95
  z127 := Tryd.sizeOf95
  v127 := Tryd.zeroValue95
  t164 := Tryd.underlying105
  a164 := Tryd.isAgg105
  z164 := Tryd.sizeOf105
  v164 := Tryd.zeroValue105


theorem tie4 : ∃ fn, Tryd.prog.funcs[4]? = some fn ∧ cFun Tryd.prog fn = some g4 := ⟨Tryd.f4, Tryd.func4, by kernel_rfl⟩
theorem tie10 : ∃ fn, Tryd.prog.funcs[10]? = some fn ∧ cFun Tryd.prog fn = some g10 := ⟨Tryd.f10, Tryd.func10, by kernel_rfl⟩
theorem tie11 : ∃ fn, Tryd.prog.funcs[11]? = some fn ∧ cFun Tryd.prog fn = some g11 := ⟨Tryd.f11, Tryd.func11, by kernel_rfl⟩
theorem tie12 : ∃ fn, Tryd.prog.funcs[12]? = some fn ∧ cFun Tryd.prog fn = some g12 := ⟨Tryd.f12, Tryd.func12, by kernel_rfl⟩
theorem tie14 : ∃ fn, Tryd.prog.funcs[14]? = some fn ∧ cFun Tryd.prog fn = some g14 := ⟨Tryd.f14, Tryd.func14, by kernel_rfl⟩
theorem tie16 : ∃ fn, Tryd.prog.funcs[16]? = some fn ∧ cFun Tryd.prog fn = some g16 := ⟨Tryd.f16, Tryd.func16, by kernel_rfl⟩
theorem tie17 : ∃ fn, Tryd.prog.funcs[17]? = some fn ∧ cFun Tryd.prog fn = some g17 := ⟨Tryd.f17, Tryd.func17, by kernel_rfl⟩
theorem tie18 : ∃ fn, Tryd.prog.funcs[18]? = some fn ∧ cFun Tryd.prog fn = some g18 := ⟨Tryd.f18, Tryd.func18, by kernel_rfl⟩
theorem tie19 : ∃ fn, Tryd.prog.funcs[19]? = some fn ∧ cFun Tryd.prog fn = some g19 := ⟨Tryd.f19, Tryd.func19, by kernel_rfl⟩
theorem tie20 : ∃ fn, Tryd.prog.funcs[20]? = some fn ∧ cFun Tryd.prog fn = some g20 := ⟨Tryd.f20, Tryd.func20, by kernel_rfl⟩
theorem tie21 : ∃ fn, Tryd.prog.funcs[21]? = some fn ∧ cFun Tryd.prog fn = some g21 := ⟨Tryd.f21, Tryd.func21, by kernel_rfl⟩
theorem tie22 : ∃ fn, Tryd.prog.funcs[22]? = some fn ∧ cFun Tryd.prog fn = some g22 := ⟨Tryd.f22, Tryd.func22, by kernel_rfl⟩
theorem tie24 : ∃ fn, Tryd.prog.funcs[24]? = some fn ∧ cFun Tryd.prog fn = some g24 := ⟨Tryd.f24, Tryd.func24, by kernel_rfl⟩
theorem tie27 : ∃ fn, Tryd.prog.funcs[27]? = some fn ∧ cFun Tryd.prog fn = some g27 := ⟨Tryd.f27, Tryd.func27, by kernel_rfl⟩
theorem tie28 : ∃ fn, Tryd.prog.funcs[28]? = some fn ∧ cFun Tryd.prog fn = some g28 := ⟨Tryd.f28, Tryd.func28, by kernel_rfl⟩
theorem tie29 : ∃ fn, Tryd.prog.funcs[29]? = some fn ∧ cFun Tryd.prog fn = some g29 := ⟨Tryd.f29, Tryd.func29, by kernel_rfl⟩
theorem tie30 : ∃ fn, Tryd.prog.funcs[30]? = some fn ∧ cFun Tryd.prog fn = some g30 := ⟨Tryd.f30, Tryd.func30, by kernel_rfl⟩
theorem tie32 : ∃ fn, Tryd.prog.funcs[32]? = some fn ∧ cFun Tryd.prog fn = some g32 := ⟨Tryd.f32, Tryd.func32, by kernel_rfl⟩
theorem tie33 : ∃ fn, Tryd.prog.funcs[33]? = some fn ∧ cFun Tryd.prog fn = some g33 := ⟨Tryd.f33, Tryd.func33, by kernel_rfl⟩
theorem tie34 : ∃ fn, Tryd.prog.funcs[34]? = some fn ∧ cFun Tryd.prog fn = some g34 := ⟨Tryd.f34, Tryd.func34, by kernel_rfl⟩
theorem tie35 : ∃ fn, Tryd.prog.funcs[35]? = some fn ∧ cFun Tryd.prog fn = some g35 := ⟨Tryd.f35, Tryd.func35, by kernel_rfl⟩
theorem tie36 : ∃ fn, Tryd.prog.funcs[36]? = some fn ∧ cFun Tryd.prog fn = some g36 := ⟨Tryd.f36, Tryd.func36, by kernel_rfl⟩
theorem tie37 : ∃ fn, Tryd.prog.funcs[37]? = some fn ∧ cFun Tryd.prog fn = some g37 := ⟨Tryd.f37, Tryd.func37, by kernel_rfl⟩
theorem tie38 : ∃ fn, Tryd.prog.funcs[38]? = some fn ∧ cFun Tryd.prog fn = some g38 := ⟨Tryd.f38, Tryd.func38, by kernel_rfl⟩
theorem tie39 : ∃ fn, Tryd.prog.funcs[39]? = some fn ∧ cFun Tryd.prog fn = some g39 := ⟨Tryd.f39, Tryd.func39, by kernel_rfl⟩
theorem tie40 : ∃ fn, Tryd.prog.funcs[40]? = some fn ∧ cFun Tryd.prog fn = some g40 := ⟨Tryd.f40, Tryd.func40, by kernel_rfl⟩
theorem tie43 : ∃ fn, Tryd.prog.funcs[43]? = some fn ∧ cFun Tryd.prog fn = some g43 := ⟨Tryd.f43, Tryd.func43, by kernel_rfl⟩
theorem tie45 : ∃ fn, Tryd.prog.funcs[45]? = some fn ∧ cFun Tryd.prog fn = some g45 := ⟨Tryd.f45, Tryd.func45, by kernel_rfl⟩
theorem tie46 : ∃ fn, Tryd.prog.funcs[46]? = some fn ∧ cFun Tryd.prog fn = some g46 := ⟨Tryd.f46, Tryd.func46, by kernel_rfl⟩
theorem tie47 : ∃ fn, Tryd.prog.funcs[47]? = some fn ∧ cFun Tryd.prog fn = some g47 := ⟨Tryd.f47, Tryd.func47, by kernel_rfl⟩
theorem tie48 : ∃ fn, Tryd.prog.funcs[48]? = some fn ∧ cFun Tryd.prog fn = some g48 := ⟨Tryd.f48, Tryd.func48, by kernel_rfl⟩
theorem tie49 : ∃ fn, Tryd.prog.funcs[49]? = some fn ∧ cFun Tryd.prog fn = some g49 := ⟨Tryd.f49, Tryd.func49, by kernel_rfl⟩
theorem tie50 : ∃ fn, Tryd.prog.funcs[50]? = some fn ∧ cFun Tryd.prog fn = some g50 := ⟨Tryd.f50, Tryd.func50, by kernel_rfl⟩
theorem tie51 : ∃ fn, Tryd.prog.funcs[51]? = some fn ∧ cFun Tryd.prog fn = some g51 := ⟨Tryd.f51, Tryd.func51, by kernel_rfl⟩
theorem tie52 : ∃ fn, Tryd.prog.funcs[52]? = some fn ∧ cFun Tryd.prog fn = some g52 := ⟨Tryd.f52, Tryd.func52, by kernel_rfl⟩
theorem tie53 : ∃ fn, Tryd.prog.funcs[53]? = some fn ∧ cFun Tryd.prog fn = some g53 := ⟨Tryd.f53, Tryd.func53, by kernel_rfl⟩
theorem tie54 : ∃ fn, Tryd.prog.funcs[54]? = some fn ∧ cFun Tryd.prog fn = some g54 := ⟨Tryd.f54, Tryd.func54, by kernel_rfl⟩
theorem tie55 : ∃ fn, Tryd.prog.funcs[55]? = some fn ∧ cFun Tryd.prog fn = some g55 := ⟨Tryd.f55, Tryd.func55, by kernel_rfl⟩
theorem tie56 : ∃ fn, Tryd.prog.funcs[56]? = some fn ∧ cFun Tryd.prog fn = some g56 := ⟨Tryd.f56, Tryd.func56, by kernel_rfl⟩
theorem tie61 : ∃ fn, Tryd.prog.funcs[61]? = some fn ∧ cFun Tryd.prog fn = some g61 := ⟨Tryd.f61, Tryd.func61, by kernel_rfl⟩
theorem tie62 : ∃ fn, Tryd.prog.funcs[62]? = some fn ∧ cFun Tryd.prog fn = some g62 := ⟨Tryd.f62, Tryd.func62, by kernel_rfl⟩
theorem tie63 : ∃ fn, Tryd.prog.funcs[63]? = some fn ∧ cFun Tryd.prog fn = some g63 := ⟨Tryd.f63, Tryd.func63, by kernel_rfl⟩
theorem tie64 : ∃ fn, Tryd.prog.funcs[64]? = some fn ∧ cFun Tryd.prog fn = some g64 := ⟨Tryd.f64, Tryd.func64, by kernel_rfl⟩
theorem tie66 : ∃ fn, Tryd.prog.funcs[66]? = some fn ∧ cFun Tryd.prog fn = some g66 := ⟨Tryd.f66, Tryd.func66, by kernel_rfl⟩
theorem tie67 : ∃ fn, Tryd.prog.funcs[67]? = some fn ∧ cFun Tryd.prog fn = some g67 := ⟨Tryd.f67, Tryd.func67, by kernel_rfl⟩
theorem tie68 : ∃ fn, Tryd.prog.funcs[68]? = some fn ∧ cFun Tryd.prog fn = some g68 := ⟨Tryd.f68, Tryd.func68, by kernel_rfl⟩
theorem tie71 : ∃ fn, Tryd.prog.funcs[71]? = some fn ∧ cFun Tryd.prog fn = some g71 := ⟨Tryd.f71, Tryd.func71, by kernel_rfl⟩
theorem tie72 : ∃ fn, Tryd.prog.funcs[72]? = some fn ∧ cFun Tryd.prog fn = some g72 := ⟨Tryd.f72, Tryd.func72, by kernel_rfl⟩
theorem tie74 : ∃ fn, Tryd.prog.funcs[74]? = some fn ∧ cFun Tryd.prog fn = some g74 := ⟨Tryd.f74, Tryd.func74, by kernel_rfl⟩
theorem tie75 : ∃ fn, Tryd.prog.funcs[75]? = some fn ∧ cFun Tryd.prog fn = some g75 := ⟨Tryd.f75, Tryd.func75, by kernel_rfl⟩
theorem tie105 : ∃ fn, Tryd.prog.funcs[105]? = some fn ∧ cFun Tryd.prog fn = some g105 := ⟨Tryd.f105, Tryd.func105, by kernel_rfl⟩
theorem lib65 : (∀ (asl : Array Value) (w : World), (callFunc 65 asl).run Tryd.prog w = .ok (.enter 65 asl) w) ∧
    ∀ args v, args.all litOk = true → runValid args = some v → litVal v = true → ∀ w : World, gT Tryd.prog w → Calls Tryd.prog 65 args.toArray w fun e w' => e = .returned v ∧ Below w.heap.size w w' := by
  refine ⟨fun asl w => callFunc_enter Tryd.func65 (by kernel_rfl) rfl asl w, fun args v _ hr _ w hT => ?_⟩
  unfold runValid at hr
  split at hr
  · split at hr
    · rename_i hs
      cases hr
      exact Any.utf8_ValidString LV _ w hs hT
    · cases hr
  · cases hr
theorem lib78 : (∀ (asl : Array Value) (w : World), (callFunc 78 asl).run Tryd.prog w = .ok (.enter 78 asl) w) ∧
    ∀ args v, args.all litOk = true → runIndexByte args = some v → litVal v = true → ∀ w : World, gT Tryd.prog w → Calls Tryd.prog 78 args.toArray w fun e w' => e = .returned v ∧ Below w.heap.size w w' := by
  refine ⟨fun asl w => callFunc_enter Tryd.func78 (by kernel_rfl) rfl asl w, fun args v _ hr _ w hT => ?_⟩
  unfold runIndexByte at hr
  split at hr
  · cases hr
    refine (Any.stringslite_IndexByte LI _ _ w).mono fun e w' hh => ?_
    obtain ⟨rfl, rfl⟩ := hh
    exact ⟨rfl, Below.refl _ _⟩
  · cases hr
theorem xjn : Builder.Extra Tryd.prog LJ_ren := ⟨⟨by kernel_rfl, by kernel_rfl⟩, Tryd.underlying5, Tryd.isAgg5, Tryd.sizeOf5, Tryd.zeroValue5, by kernel_rfl, by kernel_rfl, by kernel_rfl, by decide⟩
theorem ext41 : ExtOk Tryd.prog 41 runJoin := join_ok (fun asl w => callFunc_enter Tryd.func41 (by kernel_rfl) rfl asl w) (fun bk o c xs sep w h0 h1 h2 h3 h4 => Any.strings_Join LJ xjn bk o c xs sep w h0 h1 h2 h3 h4)
theorem gok : GOk Tryd.prog G := by
  intro f
  refine ⟨fun g h => ?_, fun g h => ?_, fun run h => ?_, fun run h => ?_⟩
  · unfold G at h
    split at h <;> rcases h with h | h <;> cases h
    · exact tie4
    · exact tie10
    · exact tie11
    · exact tie12
    · exact tie14
    · exact tie16
    · exact tie17
    · exact tie18
    · exact tie19
    · exact tie20
    · exact tie21
    · exact tie22
    · exact tie24
    · exact tie27
    · exact tie28
    · exact tie29
    · exact tie30
    · exact tie32
    · exact tie33
    · exact tie34
    · exact tie35
    · exact tie36
    · exact tie37
    · exact tie38
    · exact tie39
    · exact tie40
    · exact tie43
    · exact tie45
    · exact tie46
    · exact tie47
    · exact tie48
    · exact tie49
    · exact tie50
    · exact tie51
    · exact tie52
    · exact tie53
    · exact tie54
    · exact tie55
    · exact tie56
    · exact tie61
    · exact tie62
    · exact tie63
    · exact tie64
    · exact tie66
    · exact tie67
    · exact tie68
    · exact tie71
    · exact tie72
    · exact tie74
    · exact tie75
    · exact tie105
  · unfold G at h
    split at h <;> cases h
  · unfold G at h
    split at h <;> cases h
    · exact lib65
    · exact lib78
  · unfold G at h
    split at h <;> cases h
    · exact ext41
theorem gbyte : szK Tryd.prog Tryd.prog.rt.byte = some 1 := by kernel_rfl
theorem gmix : Tryd.prog.follows .mixedOrders = true := by kernel_rfl
end Go.Proofs.YtbhgpiakeimmlaaDoor
