/-
  Parts of the proof: walks of the ghost functions and the laws of what they compute. No condition.
-/
import Derived.Test.YtjjcgaompnjbdaaGreatDoorRows
import Derived.Test.YtjjcgaompnjbdaaGreatDoorSyG
import Derived.Test.YtjjcgaompnjbdaaGreatDoorK5
import Derived.Shelf.Unicode.ValidAny
import Derived.Shelf.Strings.Search1
import Derived.Lib.LaidU8T
import Derived.Shelf.Strings.Replace
import Derived.Shelf.Strings.Search3
import Derived.Test.YtjjcgaompnjbdaaGreatDoorQ2
import Derived.Test.YtjjcgaompnjbdaaGreatDoorQ15
namespace Go.Proofs.YtjjcgaompnjbdaaGreatDoor
open Go.Gh Go.RowKit
set_option maxRecDepth 100000
set_option linter.unusedVariables false
def LV_ren:Go.Shelf.Ren:=⟨fun|196=>122|259=>169|n=>n,fun|9=>9|4=>4|3=>3|5=>5|12=>12|119=>273|0=>0|46=>145|139=>276|138=>275|53=>303|n=>n,fun|3=>0|4=>1|n=>n⟩
theorem LV:Go.Proofs.Lays.n196 Tryz.prog LV_ren where
 mixed:=by kernel_rfl
 f196:=Tryz.func122.trans (congrArg some (by kernel_rfl))
 f259:=Tryz.func169.trans (congrArg some (by kernel_rfl))
 t0:=Tryz.underlying0
 a0:=Tryz.isAgg0
 z0:=Tryz.sizeOf0
 v0:=Tryz.zeroValue0
 t3:=Tryz.underlying3
 a3:=Tryz.isAgg3
 z3:=Tryz.sizeOf3
 v3:=Tryz.zeroValue3
 t4:=Tryz.underlying4
 a4:=Tryz.isAgg4
 z4:=Tryz.sizeOf4
 v4:=Tryz.zeroValue4
 t5:=Tryz.underlying5
 a5:=Tryz.isAgg5
 z5:=Tryz.sizeOf5
 v5:=Tryz.zeroValue5
 t9:=Tryz.underlying9
 a9:=Tryz.isAgg9
 z9:=Tryz.sizeOf9
 v9:=Tryz.zeroValue9
 t12:=Tryz.underlying12
 a12:=Tryz.isAgg12
 z12:=Tryz.sizeOf12
 v12:=Tryz.zeroValue12
 t46:=Tryz.underlying145
 a46:=Tryz.isAgg145
 z46:=Tryz.sizeOf145
 v46:=Tryz.zeroValue145
 t53:=Tryz.underlying303
 a53:=Tryz.isAgg303
 z53:=Tryz.sizeOf303
 v53:=Tryz.zeroValue303
 t119:=Tryz.underlying273
 a119:=Tryz.isAgg273
 z119:=Tryz.sizeOf273
 t138:=Tryz.underlying275
 a138:=Tryz.isAgg275
 z138:=Tryz.sizeOf275
 v138:=Tryz.zeroValue275
 t139:=Tryz.underlying276
 a139:=Tryz.isAgg276
 z139:=Tryz.sizeOf276
 v139:=Tryz.zeroValue276
 g3:=by kernel_rfl
 g4:=by kernel_rfl
def LST_ren:Go.Shelf.Ren:=⟨fun|169=>162|n=>n,fun|70=>258|9=>9|0=>0|72=>260|37=>51|127=>301|3=>3|5=>5|n=>n,fun n=>n⟩
theorem LST:Go.Proofs.Lays.n169 Tryz.prog LST_ren where
 mixed:=by kernel_rfl
 f169:=Tryz.func162.trans (congrArg some (by kernel_rfl))
 t0:=Tryz.underlying0
 a0:=Tryz.isAgg0
 z0:=Tryz.sizeOf0
 v0:=Tryz.zeroValue0
 t3:=Tryz.underlying3
 a3:=Tryz.isAgg3
 z3:=Tryz.sizeOf3
 v3:=Tryz.zeroValue3
 t9:=Tryz.underlying9
 a9:=Tryz.isAgg9
 z9:=Tryz.sizeOf9
 v9:=Tryz.zeroValue9
 t37:=Tryz.underlying51
 a37:=Tryz.isAgg51
 z37:=Tryz.sizeOf51
 v37:=Tryz.zeroValue51
 t70:=Tryz.underlying258
 a70:=Tryz.isAgg258
 z70:=Tryz.sizeOf258
 v70:=Tryz.zeroValue258
 t72:=Tryz.underlying260
 a72:=Tryz.isAgg260
 z72:=Tryz.sizeOf260
 v72:=Tryz.zeroValue260
 t127:=Tryz.underlying301
 a127:=Tryz.isAgg301
 z127:=Tryz.sizeOf301
 v127:=Tryz.zeroValue301
def LCt_ren:Go.Shelf.Ren:=⟨fun|144=>167|143=>194|219=>214|217=>215|225=>199|224=>198|267=>226|266=>227|314=>231|n=>n,fun|9=>9|4=>4|3=>3|5=>5|46=>145|146=>307|51=>306|n=>n,fun|1=>2|n=>n⟩
theorem LCt:Go.Proofs.Lays.n144 Tryz.prog LCt_ren where
 mixed:=by kernel_rfl
 f143:=Tryz.func194.trans (congrArg some (by kernel_rfl))
 f144:=Tryz.func167.trans (congrArg some (by kernel_rfl))
 f217:=Tryz.func215.trans (congrArg some (by kernel_rfl))
 f219:=Tryz.func214.trans (congrArg some (by kernel_rfl))
 f224:=Tryz.func198.trans (congrArg some (by kernel_rfl))
 f225:=Tryz.func199.trans (congrArg some (by kernel_rfl))
 f266:=Tryz.func227.trans (congrArg some (by kernel_rfl))
 f267:=Tryz.func226.trans (congrArg some (by kernel_rfl))
 f314:=Tryz.func231.trans (congrArg some (by kernel_rfl))
 t3:=Tryz.underlying3
 a3:=Tryz.isAgg3
 z3:=Tryz.sizeOf3
 v3:=Tryz.zeroValue3
 t4:=Tryz.underlying4
 a4:=Tryz.isAgg4
 z4:=Tryz.sizeOf4
 v4:=Tryz.zeroValue4
 t5:=Tryz.underlying5
 a5:=Tryz.isAgg5
 z5:=Tryz.sizeOf5
 v5:=Tryz.zeroValue5
 t9:=Tryz.underlying9
 a9:=Tryz.isAgg9
 z9:=Tryz.sizeOf9
 v9:=Tryz.zeroValue9
 t46:=Tryz.underlying145
 a46:=Tryz.isAgg145
 z46:=Tryz.sizeOf145
 v46:=Tryz.zeroValue145
 t51:=Tryz.underlying306
 a51:=Tryz.isAgg306
 z51:=Tryz.sizeOf306
 v51:=Tryz.zeroValue306
 t146:=Tryz.underlying307
 a146:=Tryz.isAgg307
 z146:=Tryz.sizeOf307
 v146:=Tryz.zeroValue307
 g1:=by kernel_rfl
def LJ_ren:Go.Shelf.Ren:=⟨fun|156=>103|165=>163|166=>161|169=>162|240=>192|241=>193|276=>213|277=>179|n=>n,fun|31=>204|9=>9|3=>3|4=>4|0=>0|20=>20|72=>260|76=>263|70=>258|37=>51|75=>262|127=>301|164=>319|5=>5|80=>265|n=>n,fun n=>n⟩
theorem LJ:Go.Proofs.Lays.n156 Tryz.prog LJ_ren where
 mixed:=by kernel_rfl
 f156:=Tryz.func103.trans (congrArg some (by kernel_rfl))
 f165:=Tryz.func163.trans (congrArg some (by kernel_rfl))
 f166:=Tryz.func161.trans (congrArg some (by kernel_rfl))
 f169:=Tryz.func162.trans (congrArg some (by kernel_rfl))
 f240:=Tryz.func192.trans (congrArg some (by kernel_rfl))
 f241:=Tryz.func193.trans (congrArg some (by kernel_rfl))
 f276:=Tryz.func213.trans (congrArg some (by kernel_rfl))
 f277:=Tryz.func179.trans (congrArg some (by kernel_rfl))
 t0:=Tryz.underlying0
 a0:=Tryz.isAgg0
 z0:=Tryz.sizeOf0
 v0:=Tryz.zeroValue0
 t3:=Tryz.underlying3
 a3:=Tryz.isAgg3
 z3:=Tryz.sizeOf3
 v3:=Tryz.zeroValue3
 t4:=Tryz.underlying4
 a4:=Tryz.isAgg4
 z4:=Tryz.sizeOf4
 v4:=Tryz.zeroValue4
 t9:=Tryz.underlying9
 a9:=Tryz.isAgg9
 z9:=Tryz.sizeOf9
 v9:=Tryz.zeroValue9
 t20:=Tryz.underlying20
 a20:=Tryz.isAgg20
 z20:=Tryz.sizeOf20
 v20:=Tryz.zeroValue20
 t31:=Tryz.underlying204
 a31:=Tryz.isAgg204
 z31:=Tryz.sizeOf204
 v31:=Tryz.zeroValue204
 t37:=Tryz.underlying51
 a37:=Tryz.isAgg51
 z37:=Tryz.sizeOf51
 v37:=Tryz.zeroValue51
 t70:=Tryz.underlying258
 a70:=Tryz.isAgg258
 z70:=Tryz.sizeOf258
 v70:=Tryz.zeroValue258
 t72:=Tryz.underlying260
 a72:=Tryz.isAgg260
 z72:=Tryz.sizeOf260
 v72:=Tryz.zeroValue260
 t75:=Tryz.underlying262
 a75:=Tryz.isAgg262
 z75:=Tryz.sizeOf262
 v75:=Tryz.zeroValue262
 t76:=Tryz.underlying263
 a76:=Tryz.isAgg263
 z76:=Tryz.sizeOf263
 v76:=Tryz.zeroValue263
 t127:=Tryz.underlying301
 a127:=Tryz.isAgg301
 z127:=Tryz.sizeOf301
 v127:=Tryz.zeroValue301
 t164:=Tryz.underlying319
 a164:=Tryz.isAgg319
 z164:=Tryz.sizeOf319
 v164:=Tryz.zeroValue319
def LI_ren:Go.Shelf.Ren:=⟨fun|217=>215|266=>227|n=>n,fun|9=>9|5=>5|3=>3|n=>n,fun n=>n⟩
theorem LI:Go.Proofs.Lays.n217 Tryz.prog LI_ren where
 mixed:=by kernel_rfl
 f217:=Tryz.func215.trans (congrArg some (by kernel_rfl))
 f266:=Tryz.func227.trans (congrArg some (by kernel_rfl))
 t3:=Tryz.underlying3
 a3:=Tryz.isAgg3
 z3:=Tryz.sizeOf3
 v3:=Tryz.zeroValue3
 t5:=Tryz.underlying5
 a5:=Tryz.isAgg5
 z5:=Tryz.sizeOf5
 v5:=Tryz.zeroValue5
 t9:=Tryz.underlying9
 a9:=Tryz.isAgg9
 z9:=Tryz.sizeOf9
 v9:=Tryz.zeroValue9
def LIB_ren:Go.Shelf.Ren:=⟨fun|187=>86|255=>139|n=>n,fun|37=>51|5=>5|3=>3|n=>n,fun n=>n⟩
theorem LIB:Go.Proofs.Lays.n187 Tryz.prog LIB_ren where
 mixed:=by kernel_rfl
 f187:=Tryz.func86.trans (congrArg some (by kernel_rfl))
 f255:=Tryz.func139.trans (congrArg some (by kernel_rfl))
 t3:=Tryz.underlying3
 a3:=Tryz.isAgg3
 z3:=Tryz.sizeOf3
 v3:=Tryz.zeroValue3
 t5:=Tryz.underlying5
 a5:=Tryz.isAgg5
 z5:=Tryz.sizeOf5
 v5:=Tryz.zeroValue5
 t37:=Tryz.underlying51
 a37:=Tryz.isAgg51
 z37:=Tryz.sizeOf51
 v37:=Tryz.zeroValue51
def LIX_ren:Go.Shelf.Ren:=⟨fun|185=>185|187=>86|115=>149|253=>206|224=>198|254=>207|255=>139|291=>219|n=>n,fun|37=>51|3=>3|4=>4|0=>0|5=>5|46=>145|9=>9|146=>307|51=>306|n=>n,fun|1=>2|n=>n⟩
theorem LIX:Go.Proofs.Lays.n185 Tryz.prog LIX_ren where
 mixed:=by kernel_rfl
 f115:=Tryz.func149.trans (congrArg some (by kernel_rfl))
 f185:=Tryz.func185.trans (congrArg some (by kernel_rfl))
 f187:=Tryz.func86.trans (congrArg some (by kernel_rfl))
 f224:=Tryz.func198.trans (congrArg some (by kernel_rfl))
 f253:=Tryz.func206.trans (congrArg some (by kernel_rfl))
 f254:=Tryz.func207.trans (congrArg some (by kernel_rfl))
 f255:=Tryz.func139.trans (congrArg some (by kernel_rfl))
 f291:=Tryz.func219.trans (congrArg some (by kernel_rfl))
 t0:=Tryz.underlying0
 a0:=Tryz.isAgg0
 z0:=Tryz.sizeOf0
 v0:=Tryz.zeroValue0
 t3:=Tryz.underlying3
 a3:=Tryz.isAgg3
 z3:=Tryz.sizeOf3
 v3:=Tryz.zeroValue3
 t4:=Tryz.underlying4
 a4:=Tryz.isAgg4
 z4:=Tryz.sizeOf4
 v4:=Tryz.zeroValue4
 t5:=Tryz.underlying5
 a5:=Tryz.isAgg5
 z5:=Tryz.sizeOf5
 v5:=Tryz.zeroValue5
 t9:=Tryz.underlying9
 a9:=Tryz.isAgg9
 z9:=Tryz.sizeOf9
 v9:=Tryz.zeroValue9
 t37:=Tryz.underlying51
 a37:=Tryz.isAgg51
 z37:=Tryz.sizeOf51
 v37:=Tryz.zeroValue51
 t46:=Tryz.underlying145
 a46:=Tryz.isAgg145
 z46:=Tryz.sizeOf145
 v46:=Tryz.zeroValue145
 t51:=Tryz.underlying306
 a51:=Tryz.isAgg306
 z51:=Tryz.sizeOf306
 v51:=Tryz.zeroValue306
 t146:=Tryz.underlying307
 a146:=Tryz.isAgg307
 z146:=Tryz.sizeOf307
 v146:=Tryz.zeroValue307
 g1:=by kernel_rfl
def LCC_ren:Go.Shelf.Ren:=⟨fun|240=>192|276=>213|n=>n,fun|70=>258|9=>9|72=>260|4=>4|37=>51|164=>319|n=>n,fun n=>n⟩
theorem LCC:Go.Proofs.Lays.n240 Tryz.prog LCC_ren where
 mixed:=by kernel_rfl
 f240:=Tryz.func192.trans (congrArg some (by kernel_rfl))
 f276:=Tryz.func213.trans (congrArg some (by kernel_rfl))
 t0:=Tryz.underlying0
 a0:=Tryz.isAgg0
 z0:=Tryz.sizeOf0
 v0:=Tryz.zeroValue0
 t4:=Tryz.underlying4
 a4:=Tryz.isAgg4
 z4:=Tryz.sizeOf4
 v4:=Tryz.zeroValue4
 t9:=Tryz.underlying9
 a9:=Tryz.isAgg9
 z9:=Tryz.sizeOf9
 v9:=Tryz.zeroValue9
 t20:=Tryz.underlying20
 a20:=Tryz.isAgg20
 z20:=Tryz.sizeOf20
 v20:=Tryz.zeroValue20
 t70:=Tryz.underlying258
 a70:=Tryz.isAgg258
 z70:=Tryz.sizeOf258
 v70:=Tryz.zeroValue258
 t72:=Tryz.underlying260
 a72:=Tryz.isAgg260
 z72:=Tryz.sizeOf260
 v72:=Tryz.zeroValue260
 t164:=Tryz.underlying319
 a164:=Tryz.isAgg319
 z164:=Tryz.sizeOf319
 v164:=Tryz.zeroValue319
theorem tie4:∃ fn,Tryz.prog.funcs[4]? =some fn∧cFun Tryz.prog fn=some g4:=⟨Tryz.f4,Tryz.func4,by kernel_rfl⟩
theorem tie9:∃ fn,Tryz.prog.funcs[9]? =some fn∧cFun Tryz.prog fn=some g9:=⟨Tryz.f9,Tryz.func9,by kernel_rfl⟩
theorem tie10:∃ fn,Tryz.prog.funcs[10]? =some fn∧cFun Tryz.prog fn=some g10:=⟨Tryz.f10,Tryz.func10,by kernel_rfl⟩
theorem tie11:∃ fn,Tryz.prog.funcs[11]? =some fn∧cFun Tryz.prog fn=some g11:=⟨Tryz.f11,Tryz.func11,by kernel_rfl⟩
theorem tie12:∃ fn,Tryz.prog.funcs[12]? =some fn∧cFun Tryz.prog fn=some g12:=⟨Tryz.f12,Tryz.func12,by kernel_rfl⟩
theorem tie13:∃ fn,Tryz.prog.funcs[13]? =some fn∧cFun Tryz.prog fn=some g13:=⟨Tryz.f13,Tryz.func13,by kernel_rfl⟩
theorem tie14:∃ fn,Tryz.prog.funcs[14]? =some fn∧cFun Tryz.prog fn=some g14:=⟨Tryz.f14,Tryz.func14,by kernel_rfl⟩
theorem tie15:∃ fn,Tryz.prog.funcs[15]? =some fn∧cFun Tryz.prog fn=some g15:=⟨Tryz.f15,Tryz.func15,by kernel_rfl⟩
theorem tie16:∃ fn,Tryz.prog.funcs[16]? =some fn∧cFun Tryz.prog fn=some g16:=⟨Tryz.f16,Tryz.func16,by kernel_rfl⟩
theorem tie23:∃ fn,Tryz.prog.funcs[23]? =some fn∧cFun Tryz.prog fn=some g23:=⟨Tryz.f23,Tryz.func23,by kernel_rfl⟩
theorem tie30:∃ fn,Tryz.prog.funcs[30]? =some fn∧cFun Tryz.prog fn=some g30:=⟨Tryz.f30,Tryz.func30,by kernel_rfl⟩
theorem tie31:∃ fn,Tryz.prog.funcs[31]? =some fn∧cFun Tryz.prog fn=some g31:=⟨Tryz.f31,Tryz.func31,by kernel_rfl⟩
theorem tie32:∃ fn,Tryz.prog.funcs[32]? =some fn∧cFun Tryz.prog fn=some g32:=⟨Tryz.f32,Tryz.func32,by kernel_rfl⟩
theorem tie33:∃ fn,Tryz.prog.funcs[33]? =some fn∧cFun Tryz.prog fn=some g33:=⟨Tryz.f33,Tryz.func33,by kernel_rfl⟩
theorem tie34:∃ fn,Tryz.prog.funcs[34]? =some fn∧cFun Tryz.prog fn=some g34:=⟨Tryz.f34,Tryz.func34,by kernel_rfl⟩
theorem tie35:∃ fn,Tryz.prog.funcs[35]? =some fn∧cFun Tryz.prog fn=some g35:=⟨Tryz.f35,Tryz.func35,by kernel_rfl⟩
theorem tie36:∃ fn,Tryz.prog.funcs[36]? =some fn∧cFun Tryz.prog fn=some g36:=⟨Tryz.f36,Tryz.func36,by kernel_rfl⟩
theorem tie37:∃ fn,Tryz.prog.funcs[37]? =some fn∧cFun Tryz.prog fn=some g37:=⟨Tryz.f37,Tryz.func37,by kernel_rfl⟩
theorem tie38:∃ fn,Tryz.prog.funcs[38]? =some fn∧cFun Tryz.prog fn=some g38:=⟨Tryz.f38,Tryz.func38,by kernel_rfl⟩
theorem tie39:∃ fn,Tryz.prog.funcs[39]? =some fn∧cFun Tryz.prog fn=some g39:=⟨Tryz.f39,Tryz.func39,by kernel_rfl⟩
theorem tie40:∃ fn,Tryz.prog.funcs[40]? =some fn∧cFun Tryz.prog fn=some g40:=⟨Tryz.f40,Tryz.func40,by kernel_rfl⟩
theorem tie41:∃ fn,Tryz.prog.funcs[41]? =some fn∧cFun Tryz.prog fn=some g41:=⟨Tryz.f41,Tryz.func41,by kernel_rfl⟩
theorem tie42:∃ fn,Tryz.prog.funcs[42]? =some fn∧cFun Tryz.prog fn=some g42:=⟨Tryz.f42,Tryz.func42,by kernel_rfl⟩
theorem tie43:∃ fn,Tryz.prog.funcs[43]? =some fn∧cFun Tryz.prog fn=some g43:=⟨Tryz.f43,Tryz.func43,by kernel_rfl⟩
theorem tie44:∃ fn,Tryz.prog.funcs[44]? =some fn∧cFun Tryz.prog fn=some g44:=⟨Tryz.f44,Tryz.func44,by kernel_rfl⟩
theorem tie45:∃ fn,Tryz.prog.funcs[45]? =some fn∧cFun Tryz.prog fn=some g45:=⟨Tryz.f45,Tryz.func45,by kernel_rfl⟩
theorem tie46:∃ fn,Tryz.prog.funcs[46]? =some fn∧cFun Tryz.prog fn=some g46:=⟨Tryz.f46,Tryz.func46,by kernel_rfl⟩
theorem tie47:∃ fn,Tryz.prog.funcs[47]? =some fn∧cFun Tryz.prog fn=some g47:=⟨Tryz.f47,Tryz.func47,by kernel_rfl⟩
theorem tie48:∃ fn,Tryz.prog.funcs[48]? =some fn∧cFun Tryz.prog fn=some g48:=⟨Tryz.f48,Tryz.func48,by kernel_rfl⟩
theorem tie59:∃ fn,Tryz.prog.funcs[59]? =some fn∧cFun Tryz.prog fn=some g59:=⟨Tryz.f59,Tryz.func59,by kernel_rfl⟩
theorem tie60:∃ fn,Tryz.prog.funcs[60]? =some fn∧cFun Tryz.prog fn=some g60:=⟨Tryz.f60,Tryz.func60,by kernel_rfl⟩
theorem tie61:∃ fn,Tryz.prog.funcs[61]? =some fn∧cFun Tryz.prog fn=some g61:=⟨Tryz.f61,Tryz.func61,by kernel_rfl⟩
theorem tie62:∃ fn,Tryz.prog.funcs[62]? =some fn∧cFun Tryz.prog fn=some g62:=⟨Tryz.f62,Tryz.func62,by kernel_rfl⟩
theorem tie63:∃ fn,Tryz.prog.funcs[63]? =some fn∧cFun Tryz.prog fn=some g63:=⟨Tryz.f63,Tryz.func63,by kernel_rfl⟩
theorem tie64:∃ fn,Tryz.prog.funcs[64]? =some fn∧cFun Tryz.prog fn=some g64:=⟨Tryz.f64,Tryz.func64,by kernel_rfl⟩
theorem tie66:∃ fn,Tryz.prog.funcs[66]? =some fn∧cFun Tryz.prog fn=some g66:=⟨Tryz.f66,Tryz.func66,by kernel_rfl⟩
theorem tie75:∃ fn,Tryz.prog.funcs[75]? =some fn∧cFun Tryz.prog fn=some g75:=⟨Tryz.f75,Tryz.func75,by kernel_rfl⟩
theorem tie76:∃ fn,Tryz.prog.funcs[76]? =some fn∧cFun Tryz.prog fn=some g76:=⟨Tryz.f76,Tryz.func76,by kernel_rfl⟩
theorem tie77:∃ fn,Tryz.prog.funcs[77]? =some fn∧cFun Tryz.prog fn=some g77:=⟨Tryz.f77,Tryz.func77,by kernel_rfl⟩
theorem tie78:∃ fn,Tryz.prog.funcs[78]? =some fn∧cFun Tryz.prog fn=some g78:=⟨Tryz.f78,Tryz.func78,by kernel_rfl⟩
theorem tie79:∃ fn,Tryz.prog.funcs[79]? =some fn∧cFun Tryz.prog fn=some g79:=⟨Tryz.f79,Tryz.func79,by kernel_rfl⟩
theorem tie80:∃ fn,Tryz.prog.funcs[80]? =some fn∧cFun Tryz.prog fn=some g80:=⟨Tryz.f80,Tryz.func80,by kernel_rfl⟩
theorem tie81:∃ fn,Tryz.prog.funcs[81]? =some fn∧cFun Tryz.prog fn=some g81:=⟨Tryz.f81,Tryz.func81,by kernel_rfl⟩
theorem tie82:∃ fn,Tryz.prog.funcs[82]? =some fn∧cFun Tryz.prog fn=some g82:=⟨Tryz.f82,Tryz.func82,by kernel_rfl⟩
theorem tie83:∃ fn,Tryz.prog.funcs[83]? =some fn∧cFun Tryz.prog fn=some g83:=⟨Tryz.f83,Tryz.func83,by kernel_rfl⟩
theorem tie84:∃ fn,Tryz.prog.funcs[84]? =some fn∧cFun Tryz.prog fn=some g84:=⟨Tryz.f84,Tryz.func84,by kernel_rfl⟩
theorem tie85:∃ fn,Tryz.prog.funcs[85]? =some fn∧cFun Tryz.prog fn=some g85:=⟨Tryz.f85,Tryz.func85,by kernel_rfl⟩
theorem tie87:∃ fn,Tryz.prog.funcs[87]? =some fn∧cFun Tryz.prog fn=some g87:=⟨Tryz.f87,Tryz.func87,by kernel_rfl⟩
theorem tie88:∃ fn,Tryz.prog.funcs[88]? =some fn∧cFun Tryz.prog fn=some g88:=⟨Tryz.f88,Tryz.func88,by kernel_rfl⟩
theorem tie89:∃ fn,Tryz.prog.funcs[89]? =some fn∧cFun Tryz.prog fn=some g89:=⟨Tryz.f89,Tryz.func89,by kernel_rfl⟩
theorem tie90:∃ fn,Tryz.prog.funcs[90]? =some fn∧cFun Tryz.prog fn=some g90:=⟨Tryz.f90,Tryz.func90,by kernel_rfl⟩
theorem tie91:∃ fn,Tryz.prog.funcs[91]? =some fn∧cFun Tryz.prog fn=some g91:=⟨Tryz.f91,Tryz.func91,by kernel_rfl⟩
theorem tie92:∃ fn,Tryz.prog.funcs[92]? =some fn∧cFun Tryz.prog fn=some g92:=⟨Tryz.f92,Tryz.func92,by kernel_rfl⟩
theorem tie93:∃ fn,Tryz.prog.funcs[93]? =some fn∧cFun Tryz.prog fn=some g93:=⟨Tryz.f93,Tryz.func93,by kernel_rfl⟩
theorem tie94:∃ fn,Tryz.prog.funcs[94]? =some fn∧cFun Tryz.prog fn=some g94:=⟨Tryz.f94,Tryz.func94,by kernel_rfl⟩
theorem tie95:∃ fn,Tryz.prog.funcs[95]? =some fn∧cFun Tryz.prog fn=some g95:=⟨Tryz.f95,Tryz.func95,by kernel_rfl⟩
theorem tie96:∃ fn,Tryz.prog.funcs[96]? =some fn∧cFun Tryz.prog fn=some g96:=⟨Tryz.f96,Tryz.func96,by kernel_rfl⟩
theorem tie97:∃ fn,Tryz.prog.funcs[97]? =some fn∧cFun Tryz.prog fn=some g97:=⟨Tryz.f97,Tryz.func97,by kernel_rfl⟩
theorem tie98:∃ fn,Tryz.prog.funcs[98]? =some fn∧cFun Tryz.prog fn=some g98:=⟨Tryz.f98,Tryz.func98,by kernel_rfl⟩
theorem tie99:∃ fn,Tryz.prog.funcs[99]? =some fn∧cFun Tryz.prog fn=some g99:=⟨Tryz.f99,Tryz.func99,by kernel_rfl⟩
theorem tie100:∃ fn,Tryz.prog.funcs[100]? =some fn∧cFun Tryz.prog fn=some g100:=⟨Tryz.f100,Tryz.func100,by kernel_rfl⟩
theorem tie101:∃ fn,Tryz.prog.funcs[101]? =some fn∧cFun Tryz.prog fn=some g101:=⟨Tryz.f101,Tryz.func101,by kernel_rfl⟩
theorem tie102:∃ fn,Tryz.prog.funcs[102]? =some fn∧cFun Tryz.prog fn=some g102:=⟨Tryz.f102,Tryz.func102,by kernel_rfl⟩
theorem tie104:∃ fn,Tryz.prog.funcs[104]? =some fn∧cFun Tryz.prog fn=some g104:=⟨Tryz.f104,Tryz.func104,by kernel_rfl⟩
theorem tie105:∃ fn,Tryz.prog.funcs[105]? =some fn∧cFun Tryz.prog fn=some g105:=⟨Tryz.f105,Tryz.func105,by kernel_rfl⟩
theorem tie106:∃ fn,Tryz.prog.funcs[106]? =some fn∧cFun Tryz.prog fn=some g106:=⟨Tryz.f106,Tryz.func106,by kernel_rfl⟩
theorem tie116:∃ fn,Tryz.prog.funcs[116]? =some fn∧cFun Tryz.prog fn=some g116:=⟨Tryz.f116,Tryz.func116,by kernel_rfl⟩
theorem tie117:∃ fn,Tryz.prog.funcs[117]? =some fn∧cFun Tryz.prog fn=some g117:=⟨Tryz.f117,Tryz.func117,by kernel_rfl⟩
theorem tie118:∃ fn,Tryz.prog.funcs[118]? =some fn∧cFun Tryz.prog fn=some g118:=⟨Tryz.f118,Tryz.func118,by kernel_rfl⟩
theorem tie119:∃ fn,Tryz.prog.funcs[119]? =some fn∧cFun Tryz.prog fn=some g119:=⟨Tryz.f119,Tryz.func119,by kernel_rfl⟩
theorem tie120:∃ fn,Tryz.prog.funcs[120]? =some fn∧cFun Tryz.prog fn=some g120:=⟨Tryz.f120,Tryz.func120,by kernel_rfl⟩
theorem tie121:∃ fn,Tryz.prog.funcs[121]? =some fn∧cFun Tryz.prog fn=some g121:=⟨Tryz.f121,Tryz.func121,by kernel_rfl⟩
theorem tie123:∃ fn,Tryz.prog.funcs[123]? =some fn∧cFun Tryz.prog fn=some g123:=⟨Tryz.f123,Tryz.func123,by kernel_rfl⟩
theorem tie124:∃ fn,Tryz.prog.funcs[124]? =some fn∧cFun Tryz.prog fn=some g124:=⟨Tryz.f124,Tryz.func124,by kernel_rfl⟩
theorem tie125:∃ fn,Tryz.prog.funcs[125]? =some fn∧cFun Tryz.prog fn=some g125:=⟨Tryz.f125,Tryz.func125,by kernel_rfl⟩
theorem tie130:∃ fn,Tryz.prog.funcs[130]? =some fn∧cFun Tryz.prog fn=some g130:=⟨Tryz.f130,Tryz.func130,by kernel_rfl⟩
theorem tie131:∃ fn,Tryz.prog.funcs[131]? =some fn∧cFun Tryz.prog fn=some g131:=⟨Tryz.f131,Tryz.func131,by kernel_rfl⟩
theorem tie132:∃ fn,Tryz.prog.funcs[132]? =some fn∧cFun Tryz.prog fn=some g132:=⟨Tryz.f132,Tryz.func132,by kernel_rfl⟩
theorem tie133:∃ fn,Tryz.prog.funcs[133]? =some fn∧cFun Tryz.prog fn=some g133:=⟨Tryz.f133,Tryz.func133,by kernel_rfl⟩
theorem tie134:∃ fn,Tryz.prog.funcs[134]? =some fn∧cFun Tryz.prog fn=some g134:=⟨Tryz.f134,Tryz.func134,by kernel_rfl⟩
theorem tie135:∃ fn,Tryz.prog.funcs[135]? =some fn∧cFun Tryz.prog fn=some g135:=⟨Tryz.f135,Tryz.func135,by kernel_rfl⟩
theorem tie136:∃ fn,Tryz.prog.funcs[136]? =some fn∧cFun Tryz.prog fn=some g136:=⟨Tryz.f136,Tryz.func136,by kernel_rfl⟩
theorem tie137:∃ fn,Tryz.prog.funcs[137]? =some fn∧cFun Tryz.prog fn=some g137:=⟨Tryz.f137,Tryz.func137,by kernel_rfl⟩
theorem tie138:∃ fn,Tryz.prog.funcs[138]? =some fn∧cFun Tryz.prog fn=some g138:=⟨Tryz.f138,Tryz.func138,by kernel_rfl⟩
theorem tie140:∃ fn,Tryz.prog.funcs[140]? =some fn∧cFun Tryz.prog fn=some g140:=⟨Tryz.f140,Tryz.func140,by kernel_rfl⟩
theorem tie142:∃ fn,Tryz.prog.funcs[142]? =some fn∧cFun Tryz.prog fn=some g142:=⟨Tryz.f142,Tryz.func142,by kernel_rfl⟩
theorem tie143:∃ fn,Tryz.prog.funcs[143]? =some fn∧cFun Tryz.prog fn=some g143:=⟨Tryz.f143,Tryz.func143,by kernel_rfl⟩
theorem tie144:∃ fn,Tryz.prog.funcs[144]? =some fn∧cFun Tryz.prog fn=some g144:=⟨Tryz.f144,Tryz.func144,by kernel_rfl⟩
theorem tie145:∃ fn,Tryz.prog.funcs[145]? =some fn∧cFun Tryz.prog fn=some g145:=⟨Tryz.f145,Tryz.func145,by kernel_rfl⟩
theorem tie146:∃ fn,Tryz.prog.funcs[146]? =some fn∧cFun Tryz.prog fn=some g146:=⟨Tryz.f146,Tryz.func146,by kernel_rfl⟩
theorem tie147:∃ fn,Tryz.prog.funcs[147]? =some fn∧cFun Tryz.prog fn=some g147:=⟨Tryz.f147,Tryz.func147,by kernel_rfl⟩
theorem tie148:∃ fn,Tryz.prog.funcs[148]? =some fn∧cFun Tryz.prog fn=some g148:=⟨Tryz.f148,Tryz.func148,by kernel_rfl⟩
theorem tie149:∃ fn,Tryz.prog.funcs[149]? =some fn∧cFun Tryz.prog fn=some g149:=⟨Tryz.f149,Tryz.func149,by kernel_rfl⟩
theorem tie150:∃ fn,Tryz.prog.funcs[150]? =some fn∧cFun Tryz.prog fn=some g150:=⟨Tryz.f150,Tryz.func150,by kernel_rfl⟩
theorem tie151:∃ fn,Tryz.prog.funcs[151]? =some fn∧cFun Tryz.prog fn=some g151:=⟨Tryz.f151,Tryz.func151,by kernel_rfl⟩
theorem tie152:∃ fn,Tryz.prog.funcs[152]? =some fn∧cFun Tryz.prog fn=some g152:=⟨Tryz.f152,Tryz.func152,by kernel_rfl⟩
theorem tie153:∃ fn,Tryz.prog.funcs[153]? =some fn∧cFun Tryz.prog fn=some g153:=⟨Tryz.f153,Tryz.func153,by kernel_rfl⟩
theorem tie154:∃ fn,Tryz.prog.funcs[154]? =some fn∧cFun Tryz.prog fn=some g154:=⟨Tryz.f154,Tryz.func154,by kernel_rfl⟩
theorem tie155:∃ fn,Tryz.prog.funcs[155]? =some fn∧cFun Tryz.prog fn=some g155:=⟨Tryz.f155,Tryz.func155,by kernel_rfl⟩
theorem tie156:∃ fn,Tryz.prog.funcs[156]? =some fn∧cFun Tryz.prog fn=some g156:=⟨Tryz.f156,Tryz.func156,by kernel_rfl⟩
theorem tie157:∃ fn,Tryz.prog.funcs[157]? =some fn∧cFun Tryz.prog fn=some g157:=⟨Tryz.f157,Tryz.func157,by kernel_rfl⟩
theorem tie158:∃ fn,Tryz.prog.funcs[158]? =some fn∧cFun Tryz.prog fn=some g158:=⟨Tryz.f158,Tryz.func158,by kernel_rfl⟩
theorem tie159:∃ fn,Tryz.prog.funcs[159]? =some fn∧cFun Tryz.prog fn=some g159:=⟨Tryz.f159,Tryz.func159,by kernel_rfl⟩
theorem tie160:∃ fn,Tryz.prog.funcs[160]? =some fn∧cFun Tryz.prog fn=some g160:=⟨Tryz.f160,Tryz.func160,by kernel_rfl⟩
theorem tie161:∃ fn,Tryz.prog.funcs[161]? =some fn∧cFun Tryz.prog fn=some g161:=⟨Tryz.f161,Tryz.func161,by kernel_rfl⟩
theorem tie164:∃ fn,Tryz.prog.funcs[164]? =some fn∧cFun Tryz.prog fn=some g164:=⟨Tryz.f164,Tryz.func164,by kernel_rfl⟩
theorem tie165:∃ fn,Tryz.prog.funcs[165]? =some fn∧cFun Tryz.prog fn=some g165:=⟨Tryz.f165,Tryz.func165,by kernel_rfl⟩
theorem tie166:∃ fn,Tryz.prog.funcs[166]? =some fn∧cFun Tryz.prog fn=some g166:=⟨Tryz.f166,Tryz.func166,by kernel_rfl⟩
theorem tie168:∃ fn,Tryz.prog.funcs[168]? =some fn∧cFun Tryz.prog fn=some g168:=⟨Tryz.f168,Tryz.func168,by kernel_rfl⟩
theorem tie170:∃ fn,Tryz.prog.funcs[170]? =some fn∧cFun Tryz.prog fn=some g170:=⟨Tryz.f170,Tryz.func170,by kernel_rfl⟩
theorem tie171:∃ fn,Tryz.prog.funcs[171]? =some fn∧cFun Tryz.prog fn=some g171:=⟨Tryz.f171,Tryz.func171,by kernel_rfl⟩
theorem tie172:∃ fn,Tryz.prog.funcs[172]? =some fn∧cFun Tryz.prog fn=some g172:=⟨Tryz.f172,Tryz.func172,by kernel_rfl⟩
theorem tie173:∃ fn,Tryz.prog.funcs[173]? =some fn∧cFun Tryz.prog fn=some g173:=⟨Tryz.f173,Tryz.func173,by kernel_rfl⟩
theorem tie174:∃ fn,Tryz.prog.funcs[174]? =some fn∧cFun Tryz.prog fn=some g174:=⟨Tryz.f174,Tryz.func174,by kernel_rfl⟩
theorem tie175:∃ fn,Tryz.prog.funcs[175]? =some fn∧cFun Tryz.prog fn=some g175:=⟨Tryz.f175,Tryz.func175,by kernel_rfl⟩
theorem tie176:∃ fn,Tryz.prog.funcs[176]? =some fn∧cFun Tryz.prog fn=some g176:=⟨Tryz.f176,Tryz.func176,by kernel_rfl⟩
theorem tie177:∃ fn,Tryz.prog.funcs[177]? =some fn∧cFun Tryz.prog fn=some g177:=⟨Tryz.f177,Tryz.func177,by kernel_rfl⟩
theorem tie180:∃ fn,Tryz.prog.funcs[180]? =some fn∧cFun Tryz.prog fn=some g180:=⟨Tryz.f180,Tryz.func180,by kernel_rfl⟩
theorem tie184:∃ fn,Tryz.prog.funcs[184]? =some fn∧cFun Tryz.prog fn=some g184:=⟨Tryz.f184,Tryz.func184,by kernel_rfl⟩
theorem tie186:∃ fn,Tryz.prog.funcs[186]? =some fn∧cFun Tryz.prog fn=some g186:=⟨Tryz.f186,Tryz.func186,by kernel_rfl⟩
theorem tie187:∃ fn,Tryz.prog.funcs[187]? =some fn∧cFun Tryz.prog fn=some g187:=⟨Tryz.f187,Tryz.func187,by kernel_rfl⟩
theorem tie188:∃ fn,Tryz.prog.funcs[188]? =some fn∧cFun Tryz.prog fn=some g188:=⟨Tryz.f188,Tryz.func188,by kernel_rfl⟩
theorem tie189:∃ fn,Tryz.prog.funcs[189]? =some fn∧cFun Tryz.prog fn=some g189:=⟨Tryz.f189,Tryz.func189,by kernel_rfl⟩
theorem tie191:∃ fn,Tryz.prog.funcs[191]? =some fn∧cFun Tryz.prog fn=some g191:=⟨Tryz.f191,Tryz.func191,by kernel_rfl⟩
theorem tie195:∃ fn,Tryz.prog.funcs[195]? =some fn∧cFun Tryz.prog fn=some g195:=⟨Tryz.f195,Tryz.func195,by kernel_rfl⟩
theorem tie196:∃ fn,Tryz.prog.funcs[196]? =some fn∧cFun Tryz.prog fn=some g196:=⟨Tryz.f196,Tryz.func196,by kernel_rfl⟩
theorem tie197:∃ fn,Tryz.prog.funcs[197]? =some fn∧cFun Tryz.prog fn=some g197:=⟨Tryz.f197,Tryz.func197,by kernel_rfl⟩
theorem tie198:∃ fn,Tryz.prog.funcs[198]? =some fn∧cFun Tryz.prog fn=some g198:=⟨Tryz.f198,Tryz.func198,by kernel_rfl⟩
theorem tie205:∃ fn,Tryz.prog.funcs[205]? =some fn∧cFun Tryz.prog fn=some g205:=⟨Tryz.f205,Tryz.func205,by kernel_rfl⟩
theorem tie209:∃ fn,Tryz.prog.funcs[209]? =some fn∧cFun Tryz.prog fn=some g209:=⟨Tryz.f209,Tryz.func209,by kernel_rfl⟩
theorem tie218:∃ fn,Tryz.prog.funcs[218]? =some fn∧cFun Tryz.prog fn=some g218:=⟨Tryz.f218,Tryz.func218,by kernel_rfl⟩
theorem lib122:(∀ (asl:Array Value) (w:World),(callFunc 122 asl).run Tryz.prog w=.ok (.enter 122 asl) w)∧
 ∀ args v,args.all litOk=true→runValid args=some v→litVal v=true→∀ w:World,gT Tryz.prog w→Calls Tryz.prog 122 args.toArray w fun e w'=>e=.returned v∧Below w.heap.size w w':=by
 refine ⟨fun asl w=>callFunc_enter Tryz.func122 (by kernel_rfl) rfl asl w,fun args v _ hr _ w hT=>?_⟩
 unfold runValid at hr
 split at hr
 ·split at hr
  ·rename_i hs
   cases hr
   exact Any.utf8_ValidString LV _ w hs hT.1
  ·cases hr
 ·cases hr
theorem lib167:(∀ (asl:Array Value) (w:World),(callFunc 167 asl).run Tryz.prog w=.ok (.enter 167 asl) w)∧
 ∀ args v,args.all litOk=true→runContains args=some v→litVal v=true→∀ w:World,gT Tryz.prog w→Calls Tryz.prog 167 args.toArray w fun e w'=>e=.returned v∧Below w.heap.size w w':=by
 refine ⟨fun asl w=>callFunc_enter Tryz.func167 (by kernel_rfl) rfl asl w,fun args v _ hr _ w hT=>?_⟩
 unfold runContains at hr
 split at hr
 ·split at hr
  ·rename_i hs
   cases hr
   obtain ⟨m,hm⟩:=hT.2
   refine (Any.strings_Contains LCt _ _ m w hs hm).mono fun e w' hh=>?_
   obtain ⟨rfl,rfl⟩:=hh
   exact ⟨rfl,Below.refl _ _⟩
  ·cases hr
 ·cases hr
theorem lib215:(∀ (asl:Array Value) (w:World),(callFunc 215 asl).run Tryz.prog w=.ok (.enter 215 asl) w)∧
 ∀ args v,args.all litOk=true→runIndexByte args=some v→litVal v=true→∀ w:World,gT Tryz.prog w→Calls Tryz.prog 215 args.toArray w fun e w'=>e=.returned v∧Below w.heap.size w w':=by
 refine ⟨fun asl w=>callFunc_enter Tryz.func215 (by kernel_rfl) rfl asl w,fun args v _ hr _ w hT=>?_⟩
 unfold runIndexByte at hr
 split at hr
 ·cases hr
  refine (Any.stringslite_IndexByte LI _ _ w).mono fun e w' hh=>?_
  obtain ⟨rfl,rfl⟩:=hh
  exact ⟨rfl,Below.refl _ _⟩
 ·cases hr
theorem xcc:Builder.X72 Tryz.prog LCC_ren:=⟨by kernel_rfl,by kernel_rfl⟩
theorem ext192:ExtOk Tryz.prog 192 runCC:=cc_ok (fun asl w=>callFunc_enter Tryz.func192 (by kernel_rfl) rfl asl w) (fun b w h0 h1 h2=>Any.Builder_copyCheck_fresh LCC xcc b w h0 h1 h2) (fun b w h0=>Any.Builder_copyCheck_used LCC xcc b w h0)
theorem xst:Builder.Extra Tryz.prog LST_ren:=⟨⟨by kernel_rfl,by kernel_rfl⟩,Tryz.underlying5,Tryz.isAgg5,Tryz.sizeOf5,Tryz.zeroValue5,by kernel_rfl,by kernel_rfl,by kernel_rfl,by decide⟩
theorem ext162:ExtOk Tryz.prog 162 runStr:=str_ok (fun asl w=>callFunc_enter Tryz.func162 (by kernel_rfl) rfl asl w) (fun b g o cap l cur fz w h0 h1 h2 h3 h4 h5 h6=>string_exact LST xst b g o cap l cur fz w h0 h1 h2 h3 h4 h5 h6) (fun b w h=>string_nil_exact LST xst b w h)
theorem xjn:Builder.Extra Tryz.prog LJ_ren:=⟨⟨by kernel_rfl,by kernel_rfl⟩,Tryz.underlying5,Tryz.isAgg5,Tryz.sizeOf5,Tryz.zeroValue5,by kernel_rfl,by kernel_rfl,by kernel_rfl,by decide⟩
theorem ext103:ExtOk Tryz.prog 103 runJoin:=join_ok (fun asl w=>callFunc_enter Tryz.func103 (by kernel_rfl) rfl asl w) (fun bk o c xs sep w h0 h1 h2 h3 h4=>Any.strings_Join LJ xjn bk o c xs sep w h0 h1 h2 h3 h4)
theorem ext86:ExtOk Tryz.prog 86 runIB:=ibx_ok (fun asl w=>callFunc_enter Tryz.func86 (by kernel_rfl) rfl asl w) (fun bk o n c xs cv w h1 h2=>Any.bytes_IndexByte LIB bk o n c xs cv w h1 h2) (fun cv w=>Any.bytes_IndexByte_nil LIB cv w)
theorem ext185:ExtOk Tryz.prog 185 runIx:=ixx_ok (fun asl w=>callFunc_enter Tryz.func185 (by kernel_rfl) rfl asl w) (fun a n c b2 o2 d xs cv w h1 h2 h3=>Any.bytes_Index_one_at LIX a n c b2 o2 d xs cv w h1 h2 h3)
theorem ext141:ExtOk Tryz.prog 141 runRep:=repx_ok (fun asl w=>callFunc_enter Tryz.func141 (by kernel_rfl) rfl asl w) (fun b o c n x w h0 h1=>rep_walk b o c n x w h0 h1)
theorem gok:GOk Tryz.prog G:=by
 intro f
 refine ⟨fun g h=>?_,fun g h=>?_,fun run h=>?_,fun run h=>?_⟩
 ·unfold G at h
  split at h<;>rcases h with h|h<;>cases h
  ·exact tie4
  ·exact tie9
  ·exact tie10
  ·exact tie11
  ·exact tie12
  ·exact tie13
  ·exact tie14
  ·exact tie15
  ·exact tie16
  ·exact tie23
  ·exact tie30
  ·exact tie31
  ·exact tie32
  ·exact tie33
  ·exact tie34
  ·exact tie35
  ·exact tie36
  ·exact tie37
  ·exact tie38
  ·exact tie39
  ·exact tie40
  ·exact tie41
  ·exact tie42
  ·exact tie43
  ·exact tie44
  ·exact tie45
  ·exact tie46
  ·exact tie47
  ·exact tie48
  ·exact tie59
  ·exact tie60
  ·exact tie61
  ·exact tie62
  ·exact tie63
  ·exact tie64
  ·exact tie66
  ·exact tie75
  ·exact tie76
  ·exact tie77
  ·exact tie78
  ·exact tie79
  ·exact tie80
  ·exact tie81
  ·exact tie82
  ·exact tie83
  ·exact tie84
  ·exact tie85
  ·exact tie87
  ·exact tie88
  ·exact tie89
  ·exact tie90
  ·exact tie91
  ·exact tie92
  ·exact tie93
  ·exact tie94
  ·exact tie95
  ·exact tie96
  ·exact tie97
  ·exact tie98
  ·exact tie99
  ·exact tie100
  ·exact tie101
  ·exact tie102
  ·exact tie104
  ·exact tie105
  ·exact tie106
  ·exact tie116
  ·exact tie117
  ·exact tie118
  ·exact tie119
  ·exact tie120
  ·exact tie121
  ·exact tie123
  ·exact tie124
  ·exact tie125
  ·exact tie130
  ·exact tie131
  ·exact tie132
  ·exact tie133
  ·exact tie134
  ·exact tie135
  ·exact tie136
  ·exact tie137
  ·exact tie138
  ·exact tie140
  ·exact tie142
  ·exact tie143
  ·exact tie144
  ·exact tie145
  ·exact tie146
  ·exact tie147
  ·exact tie148
  ·exact tie149
  ·exact tie150
  ·exact tie151
  ·exact tie152
  ·exact tie153
  ·exact tie154
  ·exact tie155
  ·exact tie156
  ·exact tie157
  ·exact tie158
  ·exact tie159
  ·exact tie160
  ·exact tie161
  ·exact tie164
  ·exact tie165
  ·exact tie166
  ·exact tie168
  ·exact tie170
  ·exact tie171
  ·exact tie172
  ·exact tie173
  ·exact tie174
  ·exact tie175
  ·exact tie176
  ·exact tie177
  ·exact tie180
  ·exact tie184
  ·exact tie186
  ·exact tie187
  ·exact tie188
  ·exact tie189
  ·exact tie191
  ·exact tie195
  ·exact tie196
  ·exact tie197
  ·exact tie198
  ·exact tie205
  ·exact tie209
  ·exact tie218
 ·unfold G at h
  split at h<;>cases h
 ·unfold G at h
  split at h<;>cases h
  ·exact lib122
  ·exact lib167
  ·exact lib215
 ·unfold G at h
  split at h<;>cases h
  ·exact ext192
  ·exact ext162
  ·exact ext103
  ·exact ext86
  ·exact ext185
  ·exact ext141
theorem gbyte:szK Tryz.prog Tryz.prog.rt.byte=some 1:=by kernel_rfl
theorem gmix:Tryz.prog.follows .mixedOrders=true:=by kernel_rfl
end Go.Proofs.YtjjcgaompnjbdaaGreatDoor
