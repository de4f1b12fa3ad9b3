/-
  The ghost functions of this seat.
-/
import Derived.Test.YtaemdlpikaakcaaDoorLb
import Derived.Test.YtaemdlpikaakcaaDoorBd
import Derived.KernelRfl
namespace Go.Gh
open Go.RowKit
set_option maxRecDepth 100000

/-- captioner/captionerlaw22.LatinPuts -/
def g3 : GFun := ⟨18, [.tmp 2],
 (.seq (.line [⟨(some 2), none, .move (.c (.bool false))⟩])
 (.seq (.line [⟨(some 3), none, .call (.c (.func (.func 10) #[] #[])) []⟩, ⟨(some 4), none, .move (.t 3)⟩, ⟨(some 5), (some (4, true)), .move (.t 0)⟩, ⟨(some 6), (some (4, true)), .call (.c (.func (.func 11) #[] #[])) [(.t 5)]⟩, ⟨(some 7), (some (4, true)), .move (.t 0)⟩, ⟨(some 8), (some (4, true)), .call (.c (.func (.func 12) #[] #[])) [(.t 7)]⟩, ⟨(some 9), (some (4, true)), .bin .eql (some .bool) (.t 6) (.t 8)⟩, ⟨(some 10), none, .pick (.t 4) (.t 9) (.c (.bool false))⟩, ⟨(some 11), none, .move (.t 10)⟩, ⟨(some 12), (some (11, true)), .move (.t 0)⟩, ⟨(some 13), (some (11, true)), .call (.c (.func (.func 14) #[] #[])) [(.t 12)]⟩, ⟨(some 14), (some (11, true)), .move (.t 0)⟩, ⟨(some 15), (some (11, true)), .call (.c (.func (.func 15) #[] #[])) [(.t 14)]⟩, ⟨(some 16), (some (11, true)), .call (.c (.func (.func 13) #[] #[])) [(.t 13), (.t 15)]⟩, ⟨(some 17), none, .pick (.t 11) (.t 16) (.c (.bool false))⟩, ⟨(some 2), none, .move (.t 17)⟩])
 .ret))⟩
/-- captioner/captionerlaw22.LatinGets -/
def g4 : GFun := ⟨32, [.tmp 2],
 (.seq (.line [⟨(some 2), none, .move (.c (.bool false))⟩])
 (.seq (.seq (.line [⟨(some 7), none, .call (.c (.func (.func 10) #[] #[])) []⟩, ⟨(some 8), none, .un .not (.t 7)⟩])
 (.cond (.t 8) (.seq (.line [⟨(some 2), none, .move (.c (.bool false))⟩])
  .ret) .skip))
 (.seq (.line [⟨(some 9), none, .move (.t 0)⟩, ⟨(some 10), none, .move (.t 0)⟩, ⟨(some 11), none, .len false (.t 10)⟩, ⟨(some 12), none, .min (.t 11) [(.c (.int .i64 20))]⟩, ⟨(some 13), none, .slice (.sl 1) (.t 9) none (some (.t 12)) none⟩, ⟨(some 0), none, .move (.t 13)⟩])
 (.seq (.line [⟨(some 15), none, .move (.t 0)⟩, ⟨(some 16), none, .call (.c (.func (.func 16) #[] #[])) [(.t 15)]⟩, ⟨(some 14), none, .move (.t 16)⟩, ⟨(some 17), none, .ext (.t 14) 0⟩, ⟨(some 18), none, .ext (.t 14) 1⟩, ⟨(some 3), none, .move (.t 17)⟩, ⟨(some 4), none, .move (.t 18)⟩])
 (.seq (.line [⟨(some 20), none, .move (.t 0)⟩, ⟨(some 21), none, .call (.c (.func (.func 17) #[] #[])) [(.t 20)]⟩, ⟨(some 19), none, .move (.t 21)⟩, ⟨(some 22), none, .ext (.t 19) 0⟩, ⟨(some 23), none, .ext (.t 19) 1⟩, ⟨(some 5), none, .move (.t 22)⟩, ⟨(some 6), none, .move (.t 23)⟩])
 (.seq (.line [⟨(some 24), none, .move (.t 3)⟩, ⟨(some 25), none, .move (.t 5)⟩, ⟨(some 26), none, .bin .eql (some .int) (.t 24) (.t 25)⟩, ⟨(some 27), none, .move (.t 26)⟩, ⟨(some 28), (some (27, true)), .move (.t 4)⟩, ⟨(some 29), (some (27, true)), .move (.t 6)⟩, ⟨(some 30), (some (27, true)), .bin .eql (some .int) (.t 28) (.t 29)⟩, ⟨(some 31), none, .pick (.t 27) (.t 30) (.c (.bool false))⟩, ⟨(some 2), none, .move (.t 31)⟩])
 .ret))))))⟩
/-- captioner/captionerlaw22.LatinEncodes -/
def g5 : GFun := ⟨32, [.tmp 2],
 (.seq (.line [⟨(some 2), none, .move (.c (.bool false))⟩])
 (.seq (.seq (.line [⟨(some 7), none, .call (.c (.func (.func 10) #[] #[])) []⟩, ⟨(some 8), none, .un .not (.t 7)⟩])
 (.cond (.t 8) (.seq (.line [⟨(some 2), none, .move (.c (.bool false))⟩])
  .ret) .skip))
 (.seq (.line [⟨(some 9), none, .move (.t 0)⟩, ⟨(some 10), none, .move (.t 0)⟩, ⟨(some 11), none, .len true (.t 10)⟩, ⟨(some 12), none, .min (.t 11) [(.c (.int .i64 60))]⟩, ⟨(some 13), none, .slice .str (.t 9) none (some (.t 12)) none⟩, ⟨(some 0), none, .move (.t 13)⟩])
 (.seq (.line [⟨(some 15), none, .move (.t 0)⟩, ⟨(some 16), none, .call (.c (.func (.func 18) #[] #[])) [(.t 15)]⟩, ⟨(some 14), none, .move (.t 16)⟩, ⟨(some 17), none, .ext (.t 14) 0⟩, ⟨(some 18), none, .ext (.t 14) 1⟩, ⟨(some 3), none, .move (.t 17)⟩, ⟨(some 4), none, .move (.t 18)⟩])
 (.seq (.line [⟨(some 20), none, .move (.t 0)⟩, ⟨(some 21), none, .call (.c (.func (.func 19) #[] #[])) [(.t 20)]⟩, ⟨(some 19), none, .move (.t 21)⟩, ⟨(some 22), none, .ext (.t 19) 0⟩, ⟨(some 23), none, .ext (.t 19) 1⟩, ⟨(some 5), none, .move (.t 22)⟩, ⟨(some 6), none, .move (.t 23)⟩])
 (.seq (.line [⟨(some 24), none, .move (.t 3)⟩, ⟨(some 25), none, .move (.t 5)⟩, ⟨(some 26), none, .call (.c (.func (.func 13) #[] #[])) [(.t 24), (.t 25)]⟩, ⟨(some 27), none, .move (.t 26)⟩, ⟨(some 28), (some (27, true)), .move (.t 4)⟩, ⟨(some 29), (some (27, true)), .move (.t 6)⟩, ⟨(some 30), (some (27, true)), .bin .eql (some .int) (.t 28) (.t 29)⟩, ⟨(some 31), none, .pick (.t 27) (.t 30) (.c (.bool false))⟩, ⟨(some 2), none, .move (.t 31)⟩])
 .ret))))))⟩
/-- captioner/captionerlaw22.LatinWhole -/
def g6 : GFun := ⟨62, [.tmp 4],
 (.seq (.line [⟨(some 4), none, .move (.c (.bool false))⟩])
 (.seq (.seq (.line [⟨(some 9), none, .call (.c (.func (.func 10) #[] #[])) []⟩, ⟨(some 10), none, .un .not (.t 9)⟩])
 (.cond (.t 10) (.seq (.line [⟨(some 4), none, .move (.c (.bool false))⟩])
  .ret) .skip))
 (.seq (.seq (.line [⟨(some 11), none, .move (.t 0)⟩, ⟨(some 12), none, .bin .lss none (.t 11) (.c (.int .i64 0))⟩, ⟨(some 13), none, .move (.t 12)⟩, ⟨(some 14), (some (13, false)), .move (.t 0)⟩, ⟨(some 15), (some (13, false)), .call (.c (.func (.func 20) #[] #[])) []⟩, ⟨(some 16), (some (13, false)), .bin .geq none (.t 14) (.t 15)⟩, ⟨(some 17), none, .pick (.t 13) (.c (.bool true)) (.t 16)⟩])
 (.cond (.t 17) (.seq (.line [⟨(some 18), none, .move (.t 0)⟩, ⟨(some 19), none, .call (.c (.func (.func 21) #[] #[])) [(.t 18)]⟩, ⟨(some 20), none, .call (.c (.func (.func 14) #[] #[])) [(.t 19)]⟩, ⟨(some 21), none, .len false (.t 20)⟩, ⟨(some 22), none, .bin .eql (some .int) (.t 21) (.c (.int .i64 0))⟩, ⟨(some 4), none, .move (.t 22)⟩])
  .ret) .skip))
 (.seq (.line [⟨(some 23), none, .move (.t 0)⟩, ⟨(some 24), none, .call (.c (.func (.func 21) #[] #[])) [(.t 23)]⟩, ⟨(some 5), none, .move (.t 24)⟩])
 (.seq (.line [⟨(some 25), none, .move (.t 5)⟩, ⟨(some 26), none, .call (.c (.func (.func 14) #[] #[])) [(.t 25)]⟩, ⟨(some 6), none, .move (.t 26)⟩])
 (.seq (.any [] [⟨(some 28), none, .move (.t 6)⟩, ⟨(some 30), none, .move (.t 1)⟩, ⟨(some 31), none, .move (.t 1)⟩, ⟨(some 32), none, .len false (.t 31)⟩, ⟨(some 33), none, .min (.t 32) [(.c (.int .i64 8))]⟩, ⟨(some 34), none, .slice (.sl 1) (.t 30) none (some (.t 33)) none⟩] [(false, ⟨(some 29), none, .call (.c (.func (.func 22) #[] #[])) [(.t 28)]⟩), (false, ⟨(some 35), none, .app 1 1 257 (.t 29) (.t 34)⟩), (false, ⟨(some 36), none, .call (.c (.func (.func 16) #[] #[])) [(.t 35)]⟩), (false, ⟨(some 27), none, .move (.t 36)⟩), (false, ⟨(some 37), none, .ext (.t 27) 0⟩), (false, ⟨(some 38), none, .ext (.t 27) 1⟩), (false, ⟨(some 7), none, .move (.t 37)⟩), (false, ⟨(some 8), none, .move (.t 38)⟩)])
 (.seq (.line [⟨(some 39), none, .move (.t 6)⟩, ⟨(some 40), none, .len false (.t 39)⟩, ⟨(some 41), none, .bin .geq none (.t 40) (.c (.int .i64 1))⟩, ⟨(some 42), none, .move (.t 41)⟩, ⟨(some 43), (some (42, true)), .move (.t 6)⟩, ⟨(some 44), (some (42, true)), .len false (.t 43)⟩, ⟨(some 45), (some (42, true)), .bin .leq none (.t 44) (.c (.int .i64 2))⟩, ⟨(some 46), none, .pick (.t 42) (.t 45) (.c (.bool false))⟩, ⟨(some 47), none, .move (.t 46)⟩, ⟨(some 48), (some (47, true)), .move (.t 7)⟩, ⟨(some 49), (some (47, true)), .move (.t 5)⟩, ⟨(some 50), (some (47, true)), .bin .eql (some .int) (.t 48) (.t 49)⟩, ⟨(some 51), none, .pick (.t 47) (.t 50) (.c (.bool false))⟩, ⟨(some 52), none, .move (.t 51)⟩, ⟨(some 53), (some (52, true)), .move (.t 8)⟩, ⟨(some 54), (some (52, true)), .move (.t 6)⟩, ⟨(some 55), (some (52, true)), .len false (.t 54)⟩, ⟨(some 56), (some (52, true)), .bin .eql (some .int) (.t 53) (.t 55)⟩, ⟨(some 57), none, .pick (.t 52) (.t 56) (.c (.bool false))⟩, ⟨(some 58), none, .move (.t 57)⟩, ⟨(some 59), (some (58, true)), .move (.t 5)⟩, ⟨(some 60), (some (58, true)), .call (.c (.func (.func 11) #[] #[])) [(.t 59)]⟩, ⟨(some 61), none, .pick (.t 58) (.t 60) (.c (.bool false))⟩, ⟨(some 4), none, .move (.t 61)⟩])
 .ret)))))))⟩
/-- captioner/captionerlaw22.LatinDecodes -/
def g7 : GFun := ⟨32, [.tmp 2],
 (.seq (.line [⟨(some 2), none, .move (.c (.bool false))⟩])
 (.seq (.seq (.line [⟨(some 7), none, .call (.c (.func (.func 10) #[] #[])) []⟩, ⟨(some 8), none, .un .not (.t 7)⟩])
 (.cond (.t 8) (.seq (.line [⟨(some 2), none, .move (.c (.bool false))⟩])
  .ret) .skip))
 (.seq (.line [⟨(some 9), none, .move (.t 0)⟩, ⟨(some 10), none, .move (.t 0)⟩, ⟨(some 11), none, .len false (.t 10)⟩, ⟨(some 12), none, .min (.t 11) [(.c (.int .i64 60))]⟩, ⟨(some 13), none, .slice (.sl 1) (.t 9) none (some (.t 12)) none⟩, ⟨(some 0), none, .move (.t 13)⟩])
 (.seq (.line [⟨(some 15), none, .move (.t 0)⟩, ⟨(some 16), none, .call (.c (.func (.func 23) #[] #[])) [(.t 15)]⟩, ⟨(some 14), none, .move (.t 16)⟩, ⟨(some 17), none, .ext (.t 14) 0⟩, ⟨(some 18), none, .ext (.t 14) 1⟩, ⟨(some 3), none, .move (.t 17)⟩, ⟨(some 4), none, .move (.t 18)⟩])
 (.seq (.line [⟨(some 20), none, .move (.t 0)⟩, ⟨(some 21), none, .call (.c (.func (.func 24) #[] #[])) [(.t 20)]⟩, ⟨(some 19), none, .move (.t 21)⟩, ⟨(some 22), none, .ext (.t 19) 0⟩, ⟨(some 23), none, .ext (.t 19) 1⟩, ⟨(some 5), none, .move (.t 22)⟩, ⟨(some 6), none, .move (.t 23)⟩])
 (.seq (.line [⟨(some 24), none, .move (.t 3)⟩, ⟨(some 25), none, .move (.t 5)⟩, ⟨(some 26), none, .bin .eql (some .str) (.t 24) (.t 25)⟩, ⟨(some 27), none, .move (.t 26)⟩, ⟨(some 28), (some (27, true)), .move (.t 4)⟩, ⟨(some 29), (some (27, true)), .move (.t 6)⟩, ⟨(some 30), (some (27, true)), .bin .eql (some .int) (.t 28) (.t 29)⟩, ⟨(some 31), none, .pick (.t 27) (.t 30) (.c (.bool false))⟩, ⟨(some 2), none, .move (.t 31)⟩])
 .ret))))))⟩
/-- captioner/captionerlaw22.LatinReturns -/
def g8 : GFun := ⟨60, [.tmp 2],
 (.seq (.line [⟨(some 2), none, .move (.c (.bool false))⟩])
 (.seq (.seq (.line [⟨(some 9), none, .call (.c (.func (.func 10) #[] #[])) []⟩, ⟨(some 10), none, .un .not (.t 9)⟩])
 (.cond (.t 10) (.seq (.line [⟨(some 2), none, .move (.c (.bool false))⟩])
  .ret) .skip))
 (.seq (.line [⟨(some 11), none, .move (.t 0)⟩, ⟨(some 12), none, .move (.t 0)⟩, ⟨(some 13), none, .len true (.t 12)⟩, ⟨(some 14), none, .min (.t 13) [(.c (.int .i64 120))]⟩, ⟨(some 15), none, .slice .str (.t 11) none (some (.t 14)) none⟩, ⟨(some 0), none, .move (.t 15)⟩])
 (.seq (.line [⟨(some 17), none, .move (.t 0)⟩, ⟨(some 18), none, .call (.c (.func (.func 18) #[] #[])) [(.t 17)]⟩, ⟨(some 16), none, .move (.t 18)⟩, ⟨(some 19), none, .ext (.t 16) 0⟩, ⟨(some 20), none, .ext (.t 16) 1⟩, ⟨(some 3), none, .move (.t 19)⟩, ⟨(some 4), none, .move (.t 20)⟩])
 (.seq (.seq (.line [⟨(some 21), none, .move (.t 4)⟩, ⟨(some 22), none, .bin .neq (some .int) (.t 21) (.c (.int .i64 0))⟩])
 (.cond (.t 22) (.seq (.line [⟨(some 23), none, .move (.t 0)⟩, ⟨(some 24), none, .call (.c (.func (.func 25) #[] #[])) [(.t 23)]⟩, ⟨(some 25), none, .un .not (.t 24)⟩, ⟨(some 26), none, .move (.t 25)⟩, ⟨(some 27), (some (26, true)), .move (.t 3)⟩, ⟨(some 28), (some (26, true)), .len false (.t 27)⟩, ⟨(some 29), (some (26, true)), .bin .eql (some .int) (.t 28) (.c (.int .i64 0))⟩, ⟨(some 30), none, .pick (.t 26) (.t 29) (.c (.bool false))⟩, ⟨(some 2), none, .move (.t 30)⟩])
  .ret) .skip))
 (.seq (.seq (.line [⟨(some 31), none, .move (.t 3)⟩, ⟨(some 32), none, .len false (.t 31)⟩, ⟨(some 33), none, .move (.c (.int .i64 0))⟩])
 (.block 0 (.loop (.seq (.line [⟨(some 34), none, .bin .lss none (.t 33) (.t 32)⟩])
   (.seq (.cond (.t 34) .skip (.exit 0))
   (.seq (.block 1 (.seq (.line [⟨(some 35), none, .ia none 1 (.t 31) (.t 33)⟩, ⟨(some 36), none, .load none (.t 35)⟩, ⟨(some 6), none, .move (.t 36)⟩])
    (.seq (.line [⟨(some 37), none, .move (.t 6)⟩, ⟨(some 38), none, .bin .lss none (.t 37) (.c (.int .u8 32))⟩, ⟨(some 39), none, .move (.t 38)⟩, ⟨(some 40), (some (39, false)), .move (.t 6)⟩, ⟨(some 41), (some (39, false)), .bin .gtr none (.t 40) (.c (.int .u8 126))⟩, ⟨(some 42), (some (39, false)), .move (.t 41)⟩, ⟨(some 43), (some (42, true)), .move (.t 6)⟩, ⟨(some 44), (some (42, true)), .bin .lss none (.t 43) (.c (.int .u8 161))⟩, ⟨(some 45), (some (39, false)), .pick (.t 42) (.t 44) (.c (.bool false))⟩, ⟨(some 46), none, .pick (.t 39) (.c (.bool true)) (.t 45)⟩])
    (.cond (.t 46) (.seq (.line [⟨(some 2), none, .move (.c (.bool false))⟩])
     .ret) .skip))))
   (.line [⟨(some 47), none, .bin .add none (.t 33) (.c (.int .i64 1))⟩, ⟨(some 33), none, .move (.t 47)⟩])))))))
 (.seq (.line [⟨(some 49), none, .move (.t 3)⟩, ⟨(some 50), none, .call (.c (.func (.func 23) #[] #[])) [(.t 49)]⟩, ⟨(some 48), none, .move (.t 50)⟩, ⟨(some 51), none, .ext (.t 48) 0⟩, ⟨(some 52), none, .ext (.t 48) 1⟩, ⟨(some 7), none, .move (.t 51)⟩, ⟨(some 8), none, .move (.t 52)⟩])
 (.seq (.line [⟨(some 53), none, .move (.t 8)⟩, ⟨(some 54), none, .bin .eql (some .int) (.t 53) (.c (.int .i64 0))⟩, ⟨(some 55), none, .move (.t 54)⟩, ⟨(some 56), (some (55, true)), .move (.t 7)⟩, ⟨(some 57), (some (55, true)), .move (.t 0)⟩, ⟨(some 58), (some (55, true)), .bin .eql (some .str) (.t 56) (.t 57)⟩, ⟨(some 59), none, .pick (.t 55) (.t 58) (.c (.bool false))⟩, ⟨(some 2), none, .move (.t 59)⟩])
 .ret))))))))⟩
/-- captioner/captionerlaw22.LatinAgain -/
def g9 : GFun := ⟨35, [.tmp 2],
 (.seq (.line [⟨(some 2), none, .move (.c (.bool false))⟩])
 (.seq (.seq (.line [⟨(some 7), none, .call (.c (.func (.func 10) #[] #[])) []⟩, ⟨(some 8), none, .un .not (.t 7)⟩])
 (.cond (.t 8) (.seq (.line [⟨(some 2), none, .move (.c (.bool false))⟩])
  .ret) .skip))
 (.seq (.line [⟨(some 9), none, .move (.t 0)⟩, ⟨(some 10), none, .move (.t 0)⟩, ⟨(some 11), none, .len false (.t 10)⟩, ⟨(some 12), none, .min (.t 11) [(.c (.int .i64 120))]⟩, ⟨(some 13), none, .slice (.sl 1) (.t 9) none (some (.t 12)) none⟩, ⟨(some 0), none, .move (.t 13)⟩])
 (.seq (.line [⟨(some 15), none, .move (.t 0)⟩, ⟨(some 16), none, .call (.c (.func (.func 23) #[] #[])) [(.t 15)]⟩, ⟨(some 14), none, .move (.t 16)⟩, ⟨(some 17), none, .ext (.t 14) 0⟩, ⟨(some 18), none, .ext (.t 14) 1⟩, ⟨(some 3), none, .move (.t 17)⟩, ⟨(some 4), none, .move (.t 18)⟩])
 (.seq (.seq (.line [⟨(some 19), none, .move (.t 4)⟩, ⟨(some 20), none, .bin .neq (some .int) (.t 19) (.c (.int .i64 0))⟩])
 (.cond (.t 20) (.seq (.line [⟨(some 21), none, .move (.t 3)⟩, ⟨(some 22), none, .bin .eql (some .str) (.t 21) (.c (.string ⟨#[]⟩))⟩, ⟨(some 2), none, .move (.t 22)⟩])
  .ret) .skip))
 (.seq (.line [⟨(some 24), none, .move (.t 3)⟩, ⟨(some 25), none, .call (.c (.func (.func 18) #[] #[])) [(.t 24)]⟩, ⟨(some 23), none, .move (.t 25)⟩, ⟨(some 26), none, .ext (.t 23) 0⟩, ⟨(some 27), none, .ext (.t 23) 1⟩, ⟨(some 5), none, .move (.t 26)⟩, ⟨(some 6), none, .move (.t 27)⟩])
 (.seq (.line [⟨(some 28), none, .move (.t 6)⟩, ⟨(some 29), none, .bin .eql (some .int) (.t 28) (.c (.int .i64 0))⟩, ⟨(some 30), none, .move (.t 29)⟩, ⟨(some 31), (some (30, true)), .move (.t 0)⟩, ⟨(some 32), (some (30, true)), .move (.t 5)⟩, ⟨(some 33), (some (30, true)), .call (.c (.func (.func 13) #[] #[])) [(.t 31), (.t 32)]⟩, ⟨(some 34), none, .pick (.t 30) (.t 33) (.c (.bool false))⟩, ⟨(some 2), none, .move (.t 34)⟩])
 .ret)))))))⟩
/-- captioner/captionerlaw22.awake -/
def g10 : GFun := ⟨54, [.tmp 0],
 (.seq (.line [⟨(some 0), none, .move (.c (.bool false))⟩])
 (.seq (.line [⟨(some 8), none, .buildSl 257 3 [(.int .u8 0)] [(0, 1, (.c (.int .u8 200))), (1, 1, (.c (.int .u8 85))), (2, 1, (.c (.int .u8 65)))]⟩, ⟨(some 9), none, .call (.c (.func (.func 16) #[] #[])) [(.t 8)]⟩, ⟨(some 7), none, .move (.t 9)⟩, ⟨(some 10), none, .ext (.t 7) 0⟩, ⟨(some 11), none, .ext (.t 7) 1⟩, ⟨(some 1), none, .move (.t 10)⟩, ⟨(some 2), none, .move (.t 11)⟩])
 (.seq (.line [⟨(some 13), none, .buildSl 257 2 [(.int .u8 0)] [(0, 1, (.c (.int .u8 196))), (1, 1, (.c (.int .u8 69)))]⟩, ⟨(some 14), none, .call (.c (.func (.func 16) #[] #[])) [(.t 13)]⟩, ⟨(some 12), none, .move (.t 14)⟩, ⟨(some 15), none, .ext (.t 12) 0⟩, ⟨(some 16), none, .ext (.t 12) 1⟩, ⟨(some 3), none, .move (.t 15)⟩, ⟨(some 4), none, .move (.t 16)⟩])
 (.seq (.line [⟨(some 18), none, .call (.c (.func (.func 18) #[] #[])) [(.c (.string ⟨#[79, 195, 185, 63]⟩))]⟩, ⟨(some 17), none, .move (.t 18)⟩, ⟨(some 19), none, .ext (.t 17) 0⟩, ⟨(some 20), none, .ext (.t 17) 1⟩, ⟨(some 5), none, .move (.t 19)⟩, ⟨(some 6), none, .move (.t 20)⟩])
 (.seq (.line [⟨(some 21), none, .call (.c (.func (.func 14) #[] #[])) [(.c (.int .i32 233))]⟩, ⟨(some 22), none, .buildSl 257 2 [(.int .u8 0)] [(0, 1, (.c (.int .u8 194))), (1, 1, (.c (.int .u8 101)))]⟩, ⟨(some 23), none, .call (.c (.func (.func 13) #[] #[])) [(.t 21), (.t 22)]⟩, ⟨(some 24), none, .move (.t 23)⟩, ⟨(some 25), (some (24, true)), .call (.c (.func (.func 14) #[] #[])) [(.c (.int .i32 9834))]⟩, ⟨(some 26), (some (24, true)), .buildSl 257 1 [(.int .u8 0)] [(0, 1, (.c (.int .u8 213)))]⟩, ⟨(some 27), (some (24, true)), .call (.c (.func (.func 13) #[] #[])) [(.t 25), (.t 26)]⟩, ⟨(some 28), none, .pick (.t 24) (.t 27) (.c (.bool false))⟩, ⟨(some 29), none, .move (.t 28)⟩, ⟨(some 30), (some (29, true)), .move (.t 1)⟩, ⟨(some 31), (some (29, true)), .bin .eql (some .int) (.t 30) (.c (.int .i32 220))⟩, ⟨(some 32), none, .pick (.t 29) (.t 31) (.c (.bool false))⟩, ⟨(some 33), none, .move (.t 32)⟩, ⟨(some 34), (some (33, true)), .move (.t 2)⟩, ⟨(some 35), (some (33, true)), .bin .eql (some .int) (.t 34) (.c (.int .i64 2))⟩, ⟨(some 36), none, .pick (.t 33) (.t 35) (.c (.bool false))⟩, ⟨(some 37), none, .move (.t 36)⟩, ⟨(some 38), (some (37, true)), .move (.t 3)⟩, ⟨(some 39), (some (37, true)), .bin .eql (some .int) (.t 38) (.c (.int .i32 0))⟩, ⟨(some 40), none, .pick (.t 37) (.t 39) (.c (.bool false))⟩, ⟨(some 41), none, .move (.t 40)⟩, ⟨(some 42), (some (41, true)), .move (.t 4)⟩, ⟨(some 43), (some (41, true)), .bin .eql (some .int) (.t 42) (.c (.int .i64 0))⟩, ⟨(some 44), none, .pick (.t 41) (.t 43) (.c (.bool false))⟩, ⟨(some 45), none, .move (.t 44)⟩, ⟨(some 46), (some (45, true)), .move (.t 6)⟩, ⟨(some 47), (some (45, true)), .bin .eql (some .int) (.t 46) (.c (.int .i64 0))⟩, ⟨(some 48), none, .pick (.t 45) (.t 47) (.c (.bool false))⟩, ⟨(some 49), none, .move (.t 48)⟩, ⟨(some 50), (some (49, true)), .move (.t 5)⟩, ⟨(some 51), (some (49, true)), .buildSl 257 4 [(.int .u8 0)] [(0, 1, (.c (.int .u8 79))), (1, 1, (.c (.int .u8 193))), (2, 1, (.c (.int .u8 117))), (3, 1, (.c (.int .u8 63)))]⟩, ⟨(some 52), (some (49, true)), .call (.c (.func (.func 13) #[] #[])) [(.t 50), (.t 51)]⟩, ⟨(some 53), none, .pick (.t 49) (.t 52) (.c (.bool false))⟩, ⟨(some 0), none, .move (.t 53)⟩])
 .ret)))))⟩
/-- captioner/latin.Carries -/
def g11 : GFun := ⟨6, [.tmp 2],
 (.seq (.line [⟨(some 2), none, .move (.c (.bool false))⟩])
 (.seq (.line [⟨(some 3), none, .move (.t 0)⟩, ⟨(some 4), none, .call (.c (.func (.func 26) #[] #[])) [(.t 3)]⟩, ⟨(some 5), none, .bin .geq none (.t 4) (.c (.int .i64 0))⟩, ⟨(some 2), none, .move (.t 5)⟩])
 .ret))⟩
/-- captioner/captionerref22.Carries -/
def g12 : GFun := ⟨6, [.tmp 2],
 (.seq (.line [⟨(some 2), none, .move (.c (.bool false))⟩])
 (.seq (.line [⟨(some 3), none, .move (.t 0)⟩, ⟨(some 4), none, .call (.c (.func (.func 27) #[] #[])) [(.t 3)]⟩, ⟨(some 5), none, .bin .geq none (.t 4) (.c (.int .i64 0))⟩, ⟨(some 2), none, .move (.t 5)⟩])
 .ret))⟩
/-- slices.Equal[[]byte,byte] -/
def g13 : GFun := ⟨26, [.tmp 4],
 (.seq (.line [⟨(some 4), none, .move (.c (.bool false))⟩])
 (.seq (.seq (.line [⟨(some 6), none, .move (.t 0)⟩, ⟨(some 7), none, .len false (.t 6)⟩, ⟨(some 8), none, .move (.t 1)⟩, ⟨(some 9), none, .len false (.t 8)⟩, ⟨(some 10), none, .bin .neq (some .int) (.t 7) (.t 9)⟩])
 (.cond (.t 10) (.seq (.line [⟨(some 4), none, .move (.c (.bool false))⟩])
  .ret) .skip))
 (.seq (.seq (.line [⟨(some 11), none, .move (.t 0)⟩, ⟨(some 12), none, .len false (.t 11)⟩, ⟨(some 13), none, .move (.c (.int .i64 0))⟩])
 (.block 0 (.loop (.seq (.line [⟨(some 14), none, .bin .lss none (.t 13) (.t 12)⟩])
   (.seq (.cond (.t 14) .skip (.exit 0))
   (.seq (.block 1 (.seq (.line [⟨(some 15), none, .move (.t 13)⟩, ⟨(some 5), none, .move (.t 15)⟩])
    (.seq (.any [] [⟨(some 16), none, .move (.t 0)⟩, ⟨(some 17), none, .move (.t 5)⟩, ⟨(some 18), none, .ia none 1 (.t 16) (.t 17)⟩, ⟨(some 19), none, .load none (.t 18)⟩, ⟨(some 20), none, .move (.t 1)⟩, ⟨(some 21), none, .move (.t 5)⟩, ⟨(some 22), none, .ia none 1 (.t 20) (.t 21)⟩, ⟨(some 23), none, .load none (.t 22)⟩, ⟨(some 24), none, .bin .neq (some .int) (.t 19) (.t 23)⟩] [])
    (.cond (.t 24) (.seq (.line [⟨(some 4), none, .move (.c (.bool false))⟩])
     .ret) .skip))))
   (.line [⟨(some 25), none, .bin .add none (.t 13) (.c (.int .i64 1))⟩, ⟨(some 13), none, .move (.t 25)⟩])))))))
 (.seq (.line [⟨(some 4), none, .move (.c (.bool true))⟩])
 .ret))))⟩
/-- captioner/latin.Put -/
def g14 : GFun := ⟨41, [.tmp 2],
 (.seq (.line [⟨(some 2), none, .move (.c (.slice none 0 0))⟩])
 (.seq (.seq (.line [⟨(some 7), none, .move (.t 0)⟩, ⟨(some 8), none, .call (.c (.func (.func 11) #[] #[])) [(.t 7)]⟩, ⟨(some 9), none, .un .not (.t 8)⟩])
 (.cond (.t 9) (.seq (.line [⟨(some 2), none, .move (.c (.slice none 0 0))⟩])
  .ret) .skip))
 (.seq (.seq (.line [⟨(some 10), none, .move (.t 0)⟩, ⟨(some 11), none, .bin .lss none (.t 10) (.c (.int .i32 127))⟩])
 (.cond (.t 11) (.seq (.line [⟨(some 12), none, .move (.t 0)⟩, ⟨(some 13), none, .conv (.int .u8) (.t 12)⟩, ⟨(some 14), none, .buildSl 257 1 [(.int .u8 0)] [(0, 1, (.t 13))]⟩, ⟨(some 2), none, .move (.t 14)⟩])
  .ret) .skip))
 (.seq (.line [⟨(some 3), none, .move (.c (.int .i64 0))⟩])
 (.seq (.seq (.line [⟨(some 15), none, .rng (.c (.string ⟨#[194, 161, 194, 162, 194, 163, 194, 164, 194, 165, 194, 166, 194, 167, 194, 169, 226, 128, 152, 226, 128, 156, 194, 171, 194, 174, 226, 128, 148, 226, 128, 162, 226, 128, 166, 194, 176, 226, 132, 162, 194, 183, 226, 128, 153, 226, 128, 157, 194, 187, 194, 189, 194, 191, 226, 153, 170, 195, 134, 195, 152, 197, 146, 195, 166, 195, 184, 197, 147, 195, 159]⟩))⟩])
 (.block 0 (.loop (.seq (.line [⟨(some 16), none, .next (.t 15)⟩, ⟨(some 17), none, .ext (.t 16) 0⟩])
   (.seq (.cond (.t 17) .skip (.exit 0))
   (.block 1 (.seq (.line [⟨(some 18), none, .ext (.t 16) 2⟩, ⟨(some 5), none, .move (.t 18)⟩])
    (.seq (.seq (.line [⟨(some 19), none, .move (.t 5)⟩, ⟨(some 20), none, .move (.t 0)⟩, ⟨(some 21), none, .bin .eql (some .int) (.t 19) (.t 20)⟩])
    (.cond (.t 21) (.seq (.line [⟨(some 22), none, .move (.t 3)⟩, ⟨(some 23), none, .ix none (.c (.string ⟨#[161, 162, 163, 164, 165, 166, 167, 168, 169, 170, 171, 172, 173, 174, 175, 176, 180, 183, 185, 186, 187, 189, 191, 213, 225, 233, 234, 241, 249, 250, 251]⟩)) (.t 22)⟩, ⟨(some 24), none, .buildSl 257 1 [(.int .u8 0)] [(0, 1, (.t 23))]⟩, ⟨(some 2), none, .move (.t 24)⟩])
     .ret) .skip))
    (.line [⟨(some 25), none, .move (.t 3)⟩, ⟨(some 26), none, .bin .add none (.t 25) (.c (.int .i64 1))⟩, ⟨(some 3), none, .move (.t 26)⟩])))))))))
 (.seq (.seq (.line [⟨(some 6), none, .move (.c (.int .u8 193))⟩])
 (.block 2 (.loop (.seq (.seq (.line [⟨(some 27), none, .move (.t 6)⟩, ⟨(some 28), none, .bin .leq none (.t 27) (.c (.int .u8 203))⟩])
   (.cond (.t 28) .skip (.exit 2)))
   (.seq (.block 3 (.seq (.line [⟨(some 31), none, .move (.t 6)⟩, ⟨(some 32), none, .call (.c (.func (.func 29) #[] #[])) [(.t 31)]⟩, ⟨(some 33), none, .move (.t 0)⟩, ⟨(some 34), none, .call (.c (.func (.func 30) #[] #[])) [(.t 33)]⟩, ⟨(some 35), none, .call (.c (.func (.func 28) #[] #[])) [(.t 32), (.t 34)]⟩])
    (.cond (.t 35) (.seq (.line [⟨(some 36), none, .move (.t 6)⟩, ⟨(some 37), none, .move (.t 0)⟩, ⟨(some 38), none, .call (.c (.func (.func 31) #[] #[])) [(.t 37)]⟩, ⟨(some 39), none, .conv (.int .u8) (.t 38)⟩, ⟨(some 40), none, .buildSl 257 2 [(.int .u8 0)] [(0, 1, (.t 36)), (1, 1, (.t 39))]⟩, ⟨(some 2), none, .move (.t 40)⟩])
     .ret) .skip)))
   (.line [⟨(some 29), none, .move (.t 6)⟩, ⟨(some 30), none, .bin .add none (.t 29) (.c (.int .u8 1))⟩, ⟨(some 6), none, .move (.t 30)⟩]))))))
 (.seq (.line [⟨(some 2), none, .move (.c (.slice none 0 0))⟩])
 .ret)))))))⟩
/-- captioner/captionerref22.Put -/
def g15 : GFun := ⟨41, [.tmp 2],
 (.seq (.line [⟨(some 2), none, .move (.c (.slice none 0 0))⟩])
 (.seq (.seq (.line [⟨(some 6), none, .move (.t 0)⟩, ⟨(some 7), none, .call (.c (.func (.func 12) #[] #[])) [(.t 6)]⟩, ⟨(some 8), none, .un .not (.t 7)⟩])
 (.cond (.t 8) (.seq (.line [⟨(some 2), none, .move (.c (.slice none 0 0))⟩])
  .ret) .skip))
 (.seq (.seq (.line [⟨(some 3), none, .move (.c (.int .i64 0))⟩])
 (.block 0 (.loop (.seq (.seq (.line [⟨(some 9), none, .move (.t 3)⟩, ⟨(some 10), none, .bin .lss none (.t 9) (.c (.int .i64 256))⟩])
   (.cond (.t 10) .skip (.exit 0)))
   (.seq (.block 1 (.seq (.line [⟨(some 13), none, .move (.t 3)⟩, ⟨(some 14), none, .conv (.int .u8) (.t 13)⟩, ⟨(some 15), none, .call (.c (.func (.func 32) #[] #[])) [(.t 14)]⟩, ⟨(some 16), none, .move (.t 0)⟩, ⟨(some 17), none, .bin .eql (some .int) (.t 15) (.t 16)⟩])
    (.cond (.t 17) (.seq (.line [⟨(some 18), none, .move (.t 3)⟩, ⟨(some 19), none, .conv (.int .u8) (.t 18)⟩, ⟨(some 20), none, .buildSl 257 1 [(.int .u8 0)] [(0, 1, (.t 19))]⟩, ⟨(some 2), none, .move (.t 20)⟩])
     .ret) .skip)))
   (.line [⟨(some 11), none, .move (.t 3)⟩, ⟨(some 12), none, .bin .add none (.t 11) (.c (.int .i64 1))⟩, ⟨(some 3), none, .move (.t 12)⟩]))))))
 (.seq (.seq (.line [⟨(some 4), none, .move (.c (.int .i64 193))⟩])
 (.block 2 (.loop (.seq (.seq (.line [⟨(some 21), none, .move (.t 4)⟩, ⟨(some 22), none, .bin .leq none (.t 21) (.c (.int .i64 203))⟩])
   (.cond (.t 22) .skip (.exit 2)))
   (.seq (.block 3 (.seq (.line [⟨(some 5), none, .move (.c (.int .i32 65))⟩])
    (.block 4 (.loop (.seq (.seq (.line [⟨(some 25), none, .move (.t 5)⟩, ⟨(some 26), none, .bin .leq none (.t 25) (.c (.int .i32 122))⟩])
      (.cond (.t 26) .skip (.exit 4)))
      (.seq (.block 5 (.seq (.line [⟨(some 29), none, .move (.t 4)⟩, ⟨(some 30), none, .conv (.int .u8) (.t 29)⟩, ⟨(some 31), none, .move (.t 5)⟩, ⟨(some 32), none, .conv (.int .u8) (.t 31)⟩, ⟨(some 33), none, .call (.c (.func (.func 33) #[] #[])) [(.t 30), (.t 32)]⟩, ⟨(some 34), none, .move (.t 0)⟩, ⟨(some 35), none, .bin .eql (some .int) (.t 33) (.t 34)⟩])
       (.cond (.t 35) (.seq (.line [⟨(some 36), none, .move (.t 4)⟩, ⟨(some 37), none, .conv (.int .u8) (.t 36)⟩, ⟨(some 38), none, .move (.t 5)⟩, ⟨(some 39), none, .conv (.int .u8) (.t 38)⟩, ⟨(some 40), none, .buildSl 257 2 [(.int .u8 0)] [(0, 1, (.t 37)), (1, 1, (.t 39))]⟩, ⟨(some 2), none, .move (.t 40)⟩])
        .ret) .skip)))
      (.line [⟨(some 27), none, .move (.t 5)⟩, ⟨(some 28), none, .bin .add none (.t 27) (.c (.int .i32 1))⟩, ⟨(some 5), none, .move (.t 28)⟩])))))))
   (.line [⟨(some 23), none, .move (.t 4)⟩, ⟨(some 24), none, .bin .add none (.t 23) (.c (.int .i64 1))⟩, ⟨(some 4), none, .move (.t 24)⟩]))))))
 (.seq (.line [⟨(some 2), none, .move (.c (.slice none 0 0))⟩])
 .ret)))))⟩
/-- captioner/latin.Get -/
def g16 : GFun := ⟨68, [.tmp 2, .tmp 3],
 (.seq (.line [⟨(some 2), none, .move (.c (.int .i32 0))⟩, ⟨(some 3), none, .move (.c (.int .i64 0))⟩])
 (.seq (.seq (.line [⟨(some 11), none, .move (.t 0)⟩, ⟨(some 12), none, .len false (.t 11)⟩, ⟨(some 13), none, .bin .eql (some .int) (.t 12) (.c (.int .i64 0))⟩])
 (.cond (.t 13) (.seq (.line [⟨(some 2), none, .move (.c (.int .i32 0))⟩, ⟨(some 3), none, .move (.c (.int .i64 0))⟩])
  .ret) .skip))
 (.seq (.seq (.line [⟨(some 14), none, .move (.t 0)⟩, ⟨(some 15), none, .ia none 1 (.t 14) (.c (.int .i64 0))⟩, ⟨(some 16), none, .load none (.t 15)⟩, ⟨(some 17), none, .bin .geq none (.t 16) (.c (.int .u8 32))⟩, ⟨(some 18), none, .move (.t 17)⟩, ⟨(some 19), (some (18, true)), .move (.t 0)⟩, ⟨(some 20), (some (18, true)), .ia none 1 (.t 19) (.c (.int .i64 0))⟩, ⟨(some 21), (some (18, true)), .load none (.t 20)⟩, ⟨(some 22), (some (18, true)), .bin .lss none (.t 21) (.c (.int .u8 127))⟩, ⟨(some 23), none, .pick (.t 18) (.t 22) (.c (.bool false))⟩])
 (.cond (.t 23) (.seq (.line [⟨(some 24), none, .move (.t 0)⟩, ⟨(some 25), none, .ia none 1 (.t 24) (.c (.int .i64 0))⟩, ⟨(some 26), none, .load none (.t 25)⟩, ⟨(some 27), none, .conv (.int .i32) (.t 26)⟩, ⟨(some 2), none, .move (.t 27)⟩, ⟨(some 3), none, .move (.c (.int .i64 1))⟩])
  .ret) .skip))
 (.seq (.line [⟨(some 4), none, .move (.c (.int .i64 0))⟩])
 (.seq (.seq (.line [⟨(some 28), none, .rng (.c (.string ⟨#[194, 161, 194, 162, 194, 163, 194, 164, 194, 165, 194, 166, 194, 167, 194, 169, 226, 128, 152, 226, 128, 156, 194, 171, 194, 174, 226, 128, 148, 226, 128, 162, 226, 128, 166, 194, 176, 226, 132, 162, 194, 183, 226, 128, 153, 226, 128, 157, 194, 187, 194, 189, 194, 191, 226, 153, 170, 195, 134, 195, 152, 197, 146, 195, 166, 195, 184, 197, 147, 195, 159]⟩))⟩])
 (.block 0 (.loop (.seq (.line [⟨(some 29), none, .next (.t 28)⟩, ⟨(some 30), none, .ext (.t 29) 0⟩])
   (.seq (.cond (.t 30) .skip (.exit 0))
   (.block 1 (.seq (.line [⟨(some 31), none, .ext (.t 29) 2⟩, ⟨(some 6), none, .move (.t 31)⟩])
    (.seq (.seq (.any [] [⟨(some 32), none, .move (.t 4)⟩, ⟨(some 33), none, .ix none (.c (.string ⟨#[161, 162, 163, 164, 165, 166, 167, 168, 169, 170, 171, 172, 173, 174, 175, 176, 180, 183, 185, 186, 187, 189, 191, 213, 225, 233, 234, 241, 249, 250, 251]⟩)) (.t 32)⟩, ⟨(some 34), none, .move (.t 0)⟩, ⟨(some 35), none, .ia none 1 (.t 34) (.c (.int .i64 0))⟩, ⟨(some 36), none, .load none (.t 35)⟩, ⟨(some 37), none, .bin .eql (some .int) (.t 33) (.t 36)⟩] [])
    (.cond (.t 37) (.seq (.line [⟨(some 38), none, .move (.t 6)⟩, ⟨(some 2), none, .move (.t 38)⟩, ⟨(some 3), none, .move (.c (.int .i64 1))⟩])
     .ret) .skip))
    (.line [⟨(some 39), none, .move (.t 4)⟩, ⟨(some 40), none, .bin .add none (.t 39) (.c (.int .i64 1))⟩, ⟨(some 4), none, .move (.t 40)⟩])))))))))
 (.seq (.seq (.line [⟨(some 41), none, .move (.t 0)⟩, ⟨(some 42), none, .len false (.t 41)⟩, ⟨(some 43), none, .bin .lss none (.t 42) (.c (.int .i64 2))⟩])
 (.cond (.t 43) (.seq (.line [⟨(some 2), none, .move (.c (.int .i32 0))⟩, ⟨(some 3), none, .move (.c (.int .i64 0))⟩])
  .ret) .skip))
 (.seq (.seq (.line [⟨(some 44), none, .move (.t 0)⟩, ⟨(some 45), none, .ia none 1 (.t 44) (.c (.int .i64 0))⟩, ⟨(some 46), none, .load none (.t 45)⟩, ⟨(some 47), none, .call (.c (.func (.func 29) #[] #[])) [(.t 46)]⟩, ⟨(some 48), none, .rng (.t 47)⟩])
 (.block 2 (.loop (.seq (.line [⟨(some 49), none, .next (.t 48)⟩, ⟨(some 50), none, .ext (.t 49) 0⟩])
   (.seq (.cond (.t 50) .skip (.exit 2))
   (.block 3 (.seq (.line [⟨(some 51), none, .ext (.t 49) 2⟩, ⟨(some 8), none, .move (.t 51)⟩])
    (.seq (.line [⟨(some 52), none, .move (.t 8)⟩, ⟨(some 53), none, .move (.t 8)⟩, ⟨(some 54), none, .call (.c (.func (.func 34) #[] #[])) [(.t 53)]⟩, ⟨(some 55), none, .build [(.int .i32 0), (.int .i32 0)] [(0, 1, (.t 52)), (1, 1, (.t 54))]⟩, ⟨(some 56), none, .move (.c (.int .i64 0))⟩])
    (.block 4 (.loop (.seq (.line [⟨(some 57), none, .bin .lss none (.t 56) (.c (.int .i64 2))⟩])
      (.seq (.cond (.t 57) .skip (.exit 4))
      (.seq (.block 5 (.seq (.line [⟨(some 58), none, .ix (some (2, 1, none)) (.t 55) (.t 56)⟩, ⟨(some 10), none, .move (.t 58)⟩])
       (.seq (.any [] [⟨(some 59), none, .move (.t 10)⟩, ⟨(some 60), none, .call (.c (.func (.func 31) #[] #[])) [(.t 59)]⟩, ⟨(some 61), none, .move (.t 0)⟩, ⟨(some 62), none, .ia none 1 (.t 61) (.c (.int .i64 1))⟩, ⟨(some 63), none, .load none (.t 62)⟩, ⟨(some 64), none, .conv (.int .i32) (.t 63)⟩, ⟨(some 65), none, .bin .eql (some .int) (.t 60) (.t 64)⟩] [])
       (.cond (.t 65) (.seq (.line [⟨(some 66), none, .move (.t 10)⟩, ⟨(some 2), none, .move (.t 66)⟩, ⟨(some 3), none, .move (.c (.int .i64 2))⟩])
        .ret) .skip))))
      (.line [⟨(some 67), none, .bin .add none (.t 56) (.c (.int .i64 1))⟩, ⟨(some 56), none, .move (.t 67)⟩]))))))))))))))
 (.seq (.line [⟨(some 2), none, .move (.c (.int .i32 0))⟩, ⟨(some 3), none, .move (.c (.int .i64 0))⟩])
 .ret))))))))⟩
/-- captioner/captionerref22.Get -/
def g17 : GFun := ⟨29, [.tmp 2, .tmp 3],
 (.seq (.line [⟨(some 2), none, .move (.c (.int .i32 0))⟩, ⟨(some 3), none, .move (.c (.int .i64 0))⟩])
 (.seq (.seq (.line [⟨(some 6), none, .move (.t 0)⟩, ⟨(some 7), none, .len false (.t 6)⟩, ⟨(some 8), none, .bin .eql (some .int) (.t 7) (.c (.int .i64 0))⟩])
 (.cond (.t 8) (.seq (.line [⟨(some 2), none, .move (.c (.int .i32 0))⟩, ⟨(some 3), none, .move (.c (.int .i64 0))⟩])
  .ret) .skip))
 (.seq (.seq (.line [⟨(some 9), none, .move (.t 0)⟩, ⟨(some 10), none, .ia none 1 (.t 9) (.c (.int .i64 0))⟩, ⟨(some 11), none, .load none (.t 10)⟩, ⟨(some 12), none, .call (.c (.func (.func 32) #[] #[])) [(.t 11)]⟩, ⟨(some 4), none, .move (.t 12)⟩])
 (.seq (.line [⟨(some 13), none, .move (.t 4)⟩, ⟨(some 14), none, .bin .neq (some .int) (.t 13) (.c (.int .i32 0))⟩])
 (.cond (.t 14) (.seq (.line [⟨(some 15), none, .move (.t 4)⟩, ⟨(some 2), none, .move (.t 15)⟩, ⟨(some 3), none, .move (.c (.int .i64 1))⟩])
  .ret) .skip)))
 (.seq (.seq (.line [⟨(some 16), none, .move (.t 0)⟩, ⟨(some 17), none, .len false (.t 16)⟩, ⟨(some 18), none, .bin .gtr none (.t 17) (.c (.int .i64 1))⟩])
 (.cond (.t 18) (.seq (.any [] [⟨(some 19), none, .move (.t 0)⟩, ⟨(some 20), none, .ia none 1 (.t 19) (.c (.int .i64 0))⟩, ⟨(some 21), none, .load none (.t 20)⟩, ⟨(some 22), none, .move (.t 0)⟩, ⟨(some 23), none, .ia none 1 (.t 22) (.c (.int .i64 1))⟩, ⟨(some 24), none, .load none (.t 23)⟩] [(false, ⟨(some 25), none, .call (.c (.func (.func 33) #[] #[])) [(.t 21), (.t 24)]⟩), (false, ⟨(some 5), none, .move (.t 25)⟩)])
  (.seq (.line [⟨(some 26), none, .move (.t 5)⟩, ⟨(some 27), none, .bin .neq (some .int) (.t 26) (.c (.int .i32 0))⟩])
  (.cond (.t 27) (.seq (.line [⟨(some 28), none, .move (.t 5)⟩, ⟨(some 2), none, .move (.t 28)⟩, ⟨(some 3), none, .move (.c (.int .i64 2))⟩])
   .ret) .skip))) .skip))
 (.seq (.line [⟨(some 2), none, .move (.c (.int .i32 0))⟩, ⟨(some 3), none, .move (.c (.int .i64 0))⟩])
 .ret)))))⟩
/-- captioner/latin.Encode -/
def g18 : GFun := ⟨20, [.tmp 2, .tmp 3],
 (.seq (.line [⟨(some 2), none, .move (.c (.slice none 0 0))⟩, ⟨(some 3), none, .move (.c (.int .i64 0))⟩])
 (.seq (.seq (.line [⟨(some 7), none, .move (.t 0)⟩, ⟨(some 8), none, .call (.c (.func (.func 25) #[] #[])) [(.t 7)]⟩, ⟨(some 9), none, .un .not (.t 8)⟩])
 (.cond (.t 9) (.seq (.line [⟨(some 2), none, .move (.c (.slice none 0 0))⟩, ⟨(some 3), none, .move (.c (.int .i64 10))⟩])
  .ret) .skip))
 (.seq (.line [⟨(some 4), none, .move (.c (.slice none 0 0))⟩])
 (.seq (.seq (.line [⟨(some 10), none, .move (.t 0)⟩, ⟨(some 11), none, .rng (.t 10)⟩])
 (.block 0 (.loop (.seq (.line [⟨(some 12), none, .next (.t 11)⟩, ⟨(some 13), none, .ext (.t 12) 0⟩])
   (.seq (.cond (.t 13) .skip (.exit 0))
   (.block 1 (.seq (.line [⟨(some 14), none, .ext (.t 12) 2⟩, ⟨(some 6), none, .move (.t 14)⟩])
    (.line [⟨(some 15), none, .move (.t 4)⟩, ⟨(some 16), none, .move (.t 6)⟩, ⟨(some 17), none, .call (.c (.func (.func 14) #[] #[])) [(.t 16)]⟩, ⟨(some 18), none, .app 1 1 257 (.t 15) (.t 17)⟩, ⟨(some 4), none, .move (.t 18)⟩]))))))))
 (.seq (.line [⟨(some 19), none, .move (.t 4)⟩, ⟨(some 2), none, .move (.t 19)⟩, ⟨(some 3), none, .move (.c (.int .i64 0))⟩])
 .ret)))))⟩
/-- captioner/captionerref22.Encode -/
def g19 : GFun := ⟨24, [.tmp 2, .tmp 3],
 (.seq (.line [⟨(some 2), none, .move (.c (.slice none 0 0))⟩, ⟨(some 3), none, .move (.c (.int .i64 0))⟩])
 (.seq (.seq (.line [⟨(some 7), none, .move (.t 0)⟩, ⟨(some 8), none, .call (.c (.func (.func 35) #[] #[])) [(.t 7)]⟩, ⟨(some 9), none, .un .not (.t 8)⟩])
 (.cond (.t 9) (.seq (.line [⟨(some 2), none, .move (.c (.slice none 0 0))⟩, ⟨(some 3), none, .move (.c (.int .i64 10))⟩])
  .ret) .skip))
 (.seq (.line [⟨(some 10), none, .buildSl 257 0 [(.int .u8 0)] []⟩, ⟨(some 4), none, .move (.t 10)⟩])
 (.seq (.seq (.line [⟨(some 11), none, .move (.t 0)⟩, ⟨(some 12), none, .call (.c (.func (.func 36) #[] #[])) [(.t 11)]⟩, ⟨(some 13), none, .len false (.t 12)⟩, ⟨(some 14), none, .move (.c (.int .i64 0))⟩])
 (.block 0 (.loop (.seq (.line [⟨(some 15), none, .bin .lss none (.t 14) (.t 13)⟩])
   (.seq (.cond (.t 15) .skip (.exit 0))
   (.seq (.block 1 (.seq (.line [⟨(some 16), none, .ia none 1 (.t 12) (.t 14)⟩, ⟨(some 17), none, .load none (.t 16)⟩, ⟨(some 6), none, .move (.t 17)⟩])
    (.line [⟨(some 18), none, .move (.t 4)⟩, ⟨(some 19), none, .move (.t 6)⟩, ⟨(some 20), none, .call (.c (.func (.func 15) #[] #[])) [(.t 19)]⟩, ⟨(some 21), none, .app 1 1 257 (.t 18) (.t 20)⟩, ⟨(some 4), none, .move (.t 21)⟩])))
   (.line [⟨(some 22), none, .bin .add none (.t 14) (.c (.int .i64 1))⟩, ⟨(some 14), none, .move (.t 22)⟩])))))))
 (.seq (.line [⟨(some 23), none, .move (.t 4)⟩, ⟨(some 2), none, .move (.t 23)⟩, ⟨(some 3), none, .move (.c (.int .i64 0))⟩])
 .ret)))))⟩
/-- captioner/charset.Size -/
def g20 : GFun := ⟨2, [.tmp 0],
 (.seq (.line [⟨(some 0), none, .move (.c (.int .i64 0))⟩])
 (.seq (.line [⟨(some 1), none, .call (.c (.func (.func 37) #[] #[])) [(.c (.string ⟨#[32, 33, 34, 35, 36, 37, 38, 39, 40, 41, 42, 43, 44, 45, 46, 47, 48, 49, 50, 51, 52, 53, 54, 55, 56, 57, 58, 59, 60, 61, 62, 63, 64, 65, 66, 67, 68, 69, 70, 71, 72, 73, 74, 75, 76, 77, 78, 79, 80, 81, 82, 83, 84, 85, 86, 87, 88, 89, 90, 91, 92, 93, 94, 95, 96, 97, 98, 99, 100, 101, 102, 103, 104, 105, 106, 107, 108, 109, 110, 111, 112, 113, 114, 115, 116, 117, 118, 119, 120, 121, 122, 123, 124, 125, 126, 194, 161, 194, 162, 194, 163, 194, 164, 194, 165, 194, 166, 194, 167, 194, 169, 194, 171, 194, 174, 194, 176, 194, 183, 194, 187, 194, 189, 194, 191, 195, 128, 195, 129, 195, 130, 195, 131, 195, 132, 195, 133, 195, 134, 195, 135, 195, 136, 195, 137, 195, 138, 195, 139, 195, 140, 195, 141, 195, 142, 195, 143, 195, 145, 195, 146, 195, 147, 195, 148, 195, 149, 195, 150, 195, 152, 195, 153, 195, 154, 195, 155, 195, 156, 195, 159, 195, 160, 195, 161, 195, 162, 195, 163, 195, 164, 195, 165, 195, 166, 195, 167, 195, 168, 195, 169, 195, 170, 195, 171, 195, 172, 195, 173, 195, 174, 195, 175, 195, 177, 195, 178, 195, 179, 195, 180, 195, 181, 195, 182, 195, 184, 195, 185, 195, 186, 195, 187, 195, 188, 197, 146, 197, 147, 226, 128, 148, 226, 128, 152, 226, 128, 153, 226, 128, 156, 226, 128, 157, 226, 128, 162, 226, 128, 166, 226, 132, 162, 226, 153, 170]⟩))]⟩, ⟨(some 0), none, .move (.t 1)⟩])
 .ret))⟩
/-- captioner/charset.Char -/
def g21 : GFun := ⟨16, [.tmp 2],
 (.seq (.line [⟨(some 2), none, .move (.c (.int .i32 0))⟩])
 (.seq (.line [⟨(some 3), none, .move (.c (.int .i64 0))⟩])
 (.seq (.seq (.line [⟨(some 6), none, .rng (.c (.string ⟨#[32, 33, 34, 35, 36, 37, 38, 39, 40, 41, 42, 43, 44, 45, 46, 47, 48, 49, 50, 51, 52, 53, 54, 55, 56, 57, 58, 59, 60, 61, 62, 63, 64, 65, 66, 67, 68, 69, 70, 71, 72, 73, 74, 75, 76, 77, 78, 79, 80, 81, 82, 83, 84, 85, 86, 87, 88, 89, 90, 91, 92, 93, 94, 95, 96, 97, 98, 99, 100, 101, 102, 103, 104, 105, 106, 107, 108, 109, 110, 111, 112, 113, 114, 115, 116, 117, 118, 119, 120, 121, 122, 123, 124, 125, 126, 194, 161, 194, 162, 194, 163, 194, 164, 194, 165, 194, 166, 194, 167, 194, 169, 194, 171, 194, 174, 194, 176, 194, 183, 194, 187, 194, 189, 194, 191, 195, 128, 195, 129, 195, 130, 195, 131, 195, 132, 195, 133, 195, 134, 195, 135, 195, 136, 195, 137, 195, 138, 195, 139, 195, 140, 195, 141, 195, 142, 195, 143, 195, 145, 195, 146, 195, 147, 195, 148, 195, 149, 195, 150, 195, 152, 195, 153, 195, 154, 195, 155, 195, 156, 195, 159, 195, 160, 195, 161, 195, 162, 195, 163, 195, 164, 195, 165, 195, 166, 195, 167, 195, 168, 195, 169, 195, 170, 195, 171, 195, 172, 195, 173, 195, 174, 195, 175, 195, 177, 195, 178, 195, 179, 195, 180, 195, 181, 195, 182, 195, 184, 195, 185, 195, 186, 195, 187, 195, 188, 197, 146, 197, 147, 226, 128, 148, 226, 128, 152, 226, 128, 153, 226, 128, 156, 226, 128, 157, 226, 128, 162, 226, 128, 166, 226, 132, 162, 226, 153, 170]⟩))⟩])
 (.block 0 (.loop (.seq (.line [⟨(some 7), none, .next (.t 6)⟩, ⟨(some 8), none, .ext (.t 7) 0⟩])
   (.seq (.cond (.t 8) .skip (.exit 0))
   (.block 1 (.seq (.line [⟨(some 9), none, .ext (.t 7) 2⟩, ⟨(some 5), none, .move (.t 9)⟩])
    (.seq (.seq (.line [⟨(some 10), none, .move (.t 3)⟩, ⟨(some 11), none, .move (.t 0)⟩, ⟨(some 12), none, .bin .eql (some .int) (.t 10) (.t 11)⟩])
    (.cond (.t 12) (.seq (.line [⟨(some 13), none, .move (.t 5)⟩, ⟨(some 2), none, .move (.t 13)⟩])
     .ret) .skip))
    (.line [⟨(some 14), none, .move (.t 3)⟩, ⟨(some 15), none, .bin .add none (.t 14) (.c (.int .i64 1))⟩, ⟨(some 3), none, .move (.t 15)⟩])))))))))
 (.seq (.line [⟨(some 2), none, .move (.c (.int .i32 0))⟩])
 .ret))))⟩
/-- slices.Clone[[]byte,byte] -/
def g22 : GFun := ⟨8, [.tmp 2],
 (.seq (.line [⟨(some 2), none, .move (.c (.slice none 0 0))⟩])
 (.seq (.seq (.line [⟨(some 3), none, .move (.t 0)⟩, ⟨(some 4), none, .bin .eql (some .sl) (.t 3) (.c (.slice none 0 0))⟩])
 (.cond (.t 4) (.seq (.line [⟨(some 2), none, .move (.c (.slice none 0 0))⟩])
  .ret) .skip))
 (.seq (.line [⟨(some 5), none, .buildSl 257 0 [(.int .u8 0)] []⟩, ⟨(some 6), none, .move (.t 0)⟩, ⟨(some 7), none, .app 1 1 257 (.t 5) (.t 6)⟩, ⟨(some 2), none, .move (.t 7)⟩])
 .ret)))⟩
/-- captioner/latin.Decode -/
def g23 : GFun := ⟨23, [.tmp 2, .tmp 3],
 (.seq (.line [⟨(some 2), none, .move (.c (.string ⟨#[]⟩))⟩, ⟨(some 3), none, .move (.c (.int .i64 0))⟩])
 (.seq (.line [⟨(some 4), none, .alloc 258 [(.pointer none), (.slice none 0 0)]⟩])
 (.seq (.block 0 (.loop (.seq (.seq (.line [⟨(some 7), none, .move (.t 0)⟩, ⟨(some 8), none, .len false (.t 7)⟩, ⟨(some 9), none, .bin .gtr none (.t 8) (.c (.int .i64 0))⟩])
   (.cond (.t 9) .skip (.exit 0)))
   (.block 1 (.seq (.line [⟨(some 11), none, .move (.t 0)⟩, ⟨(some 12), none, .call (.c (.func (.func 16) #[] #[])) [(.t 11)]⟩, ⟨(some 10), none, .move (.t 12)⟩, ⟨(some 13), none, .ext (.t 10) 0⟩, ⟨(some 14), none, .ext (.t 10) 1⟩, ⟨(some 5), none, .move (.t 13)⟩, ⟨(some 6), none, .move (.t 14)⟩])
    (.seq (.seq (.line [⟨(some 15), none, .move (.t 6)⟩, ⟨(some 16), none, .bin .eql (some .int) (.t 15) (.c (.int .i64 0))⟩])
    (.cond (.t 16) (.seq (.line [⟨(some 2), none, .move (.c (.string ⟨#[]⟩))⟩, ⟨(some 3), none, .move (.c (.int .i64 4))⟩])
     .ret) .skip))
    (.seq (.line [⟨(some 17), none, .move (.t 5)⟩, ⟨(some 18), none, .call (.c (.func (.func 38) #[] #[])) [(.t 4), (.t 17)]⟩])
    (.line [⟨(some 19), none, .move (.t 0)⟩, ⟨(some 20), none, .move (.t 6)⟩, ⟨(some 21), none, .slice (.sl 1) (.t 19) (some (.t 20)) none none⟩, ⟨(some 0), none, .move (.t 21)⟩]))))))))
 (.seq (.line [⟨(some 22), none, .call (.c (.func (.func 39) #[] #[])) [(.t 4)]⟩, ⟨(some 2), none, .move (.t 22)⟩, ⟨(some 3), none, .move (.c (.int .i64 0))⟩])
 .ret))))⟩
/-- captioner/captionerref22.Decode -/
def g24 : GFun := ⟨27, [.tmp 2, .tmp 3],
 (.seq (.line [⟨(some 2), none, .move (.c (.string ⟨#[]⟩))⟩, ⟨(some 3), none, .move (.c (.int .i64 0))⟩])
 (.seq (.line [⟨(some 7), none, .buildSl 1 0 [(.int .i32 0)] []⟩, ⟨(some 4), none, .move (.t 7)⟩])
 (.seq (.block 0 (.loop (.seq (.seq (.line [⟨(some 8), none, .move (.t 0)⟩, ⟨(some 9), none, .len false (.t 8)⟩, ⟨(some 10), none, .bin .gtr none (.t 9) (.c (.int .i64 0))⟩])
   (.cond (.t 10) .skip (.exit 0)))
   (.block 1 (.seq (.line [⟨(some 12), none, .move (.t 0)⟩, ⟨(some 13), none, .call (.c (.func (.func 17) #[] #[])) [(.t 12)]⟩, ⟨(some 11), none, .move (.t 13)⟩, ⟨(some 14), none, .ext (.t 11) 0⟩, ⟨(some 15), none, .ext (.t 11) 1⟩, ⟨(some 5), none, .move (.t 14)⟩, ⟨(some 6), none, .move (.t 15)⟩])
    (.seq (.seq (.line [⟨(some 16), none, .move (.t 6)⟩, ⟨(some 17), none, .bin .eql (some .int) (.t 16) (.c (.int .i64 0))⟩])
    (.cond (.t 17) (.seq (.line [⟨(some 2), none, .move (.c (.string ⟨#[]⟩))⟩, ⟨(some 3), none, .move (.c (.int .i64 4))⟩])
     .ret) .skip))
    (.any [] [⟨(some 18), none, .move (.t 4)⟩, ⟨(some 19), none, .move (.t 5)⟩, ⟨(some 20), none, .buildSl 1 1 [(.int .i32 0)] [(0, 1, (.t 19))]⟩, ⟨(some 22), none, .move (.t 0)⟩, ⟨(some 23), none, .move (.t 6)⟩, ⟨(some 24), none, .slice (.sl 1) (.t 22) (some (.t 23)) none none⟩] [(false, ⟨(some 21), none, .app 1 4 1 (.t 18) (.t 20)⟩), (false, ⟨(some 4), none, .move (.t 21)⟩), (false, ⟨(some 0), none, .move (.t 24)⟩)])))))))
 (.seq (.line [⟨(some 25), none, .move (.t 4)⟩, ⟨(some 26), none, .call (.c (.func (.func 40) #[] #[])) [(.t 25)]⟩, ⟨(some 2), none, .move (.t 26)⟩, ⟨(some 3), none, .move (.c (.int .i64 0))⟩])
 .ret))))⟩
/-- captioner/charset.Valid -/
def g25 : GFun := ⟨16, [.tmp 2],
 (.seq (.line [⟨(some 2), none, .move (.c (.bool false))⟩])
 (.seq (.seq (.line [⟨(some 5), none, .move (.t 0)⟩, ⟨(some 6), none, .call (.c (.func (.func 41) #[] #[])) [(.t 5)]⟩, ⟨(some 7), none, .un .not (.t 6)⟩])
 (.cond (.t 7) (.seq (.line [⟨(some 2), none, .move (.c (.bool false))⟩])
  .ret) .skip))
 (.seq (.seq (.line [⟨(some 8), none, .move (.t 0)⟩, ⟨(some 9), none, .rng (.t 8)⟩])
 (.block 0 (.loop (.seq (.line [⟨(some 10), none, .next (.t 9)⟩, ⟨(some 11), none, .ext (.t 10) 0⟩])
   (.seq (.cond (.t 11) .skip (.exit 0))
   (.block 1 (.seq (.line [⟨(some 12), none, .ext (.t 10) 2⟩, ⟨(some 4), none, .move (.t 12)⟩])
    (.seq (.line [⟨(some 13), none, .move (.t 4)⟩, ⟨(some 14), none, .call (.c (.func (.func 26) #[] #[])) [(.t 13)]⟩, ⟨(some 15), none, .bin .lss none (.t 14) (.c (.int .i64 0))⟩])
    (.cond (.t 15) (.seq (.line [⟨(some 2), none, .move (.c (.bool false))⟩])
     .ret) .skip)))))))))
 (.seq (.line [⟨(some 2), none, .move (.c (.bool true))⟩])
 .ret))))⟩
/-- captioner/charset.Index -/
def g26 : GFun := ⟨14, [.tmp 2],
 (.seq (.line [⟨(some 2), none, .move (.c (.int .i64 0))⟩])
 (.seq (.seq (.line [⟨(some 3), none, .move (.t 0)⟩, ⟨(some 4), none, .bin .geq none (.t 3) (.c (.int .i32 32))⟩, ⟨(some 5), none, .move (.t 4)⟩, ⟨(some 6), (some (5, true)), .move (.t 0)⟩, ⟨(some 7), (some (5, true)), .bin .leq none (.t 6) (.c (.int .i32 126))⟩, ⟨(some 8), none, .pick (.t 5) (.t 7) (.c (.bool false))⟩])
 (.cond (.t 8) (.seq (.line [⟨(some 9), none, .move (.t 0)⟩, ⟨(some 10), none, .bin .sub none (.t 9) (.c (.int .i32 32))⟩, ⟨(some 11), none, .conv (.int .i64) (.t 10)⟩, ⟨(some 2), none, .move (.t 11)⟩])
  .ret) .skip))
 (.seq (.line [⟨(some 12), none, .move (.t 0)⟩, ⟨(some 13), none, .call (.c (.func (.func 42) #[] #[])) [(.c (.string ⟨#[32, 33, 34, 35, 36, 37, 38, 39, 40, 41, 42, 43, 44, 45, 46, 47, 48, 49, 50, 51, 52, 53, 54, 55, 56, 57, 58, 59, 60, 61, 62, 63, 64, 65, 66, 67, 68, 69, 70, 71, 72, 73, 74, 75, 76, 77, 78, 79, 80, 81, 82, 83, 84, 85, 86, 87, 88, 89, 90, 91, 92, 93, 94, 95, 96, 97, 98, 99, 100, 101, 102, 103, 104, 105, 106, 107, 108, 109, 110, 111, 112, 113, 114, 115, 116, 117, 118, 119, 120, 121, 122, 123, 124, 125, 126, 194, 161, 194, 162, 194, 163, 194, 164, 194, 165, 194, 166, 194, 167, 194, 169, 194, 171, 194, 174, 194, 176, 194, 183, 194, 187, 194, 189, 194, 191, 195, 128, 195, 129, 195, 130, 195, 131, 195, 132, 195, 133, 195, 134, 195, 135, 195, 136, 195, 137, 195, 138, 195, 139, 195, 140, 195, 141, 195, 142, 195, 143, 195, 145, 195, 146, 195, 147, 195, 148, 195, 149, 195, 150, 195, 152, 195, 153, 195, 154, 195, 155, 195, 156, 195, 159, 195, 160, 195, 161, 195, 162, 195, 163, 195, 164, 195, 165, 195, 166, 195, 167, 195, 168, 195, 169, 195, 170, 195, 171, 195, 172, 195, 173, 195, 174, 195, 175, 195, 177, 195, 178, 195, 179, 195, 180, 195, 181, 195, 182, 195, 184, 195, 185, 195, 186, 195, 187, 195, 188, 197, 146, 197, 147, 226, 128, 148, 226, 128, 152, 226, 128, 153, 226, 128, 156, 226, 128, 157, 226, 128, 162, 226, 128, 166, 226, 132, 162, 226, 153, 170]⟩)), (.t 12)]⟩, ⟨(some 2), none, .move (.t 13)⟩])
 .ret)))⟩
/-- captioner/captionerref08.Index -/
def g27 : GFun := ⟨26, [.tmp 2],
 (.seq (.line [⟨(some 2), none, .move (.c (.int .i64 0))⟩])
 (.seq (.seq (.line [⟨(some 6), none, .move (.t 0)⟩, ⟨(some 7), none, .bin .geq none (.t 6) (.c (.int .i32 32))⟩, ⟨(some 8), none, .move (.t 7)⟩, ⟨(some 9), (some (8, true)), .move (.t 0)⟩, ⟨(some 10), (some (8, true)), .bin .leq none (.t 9) (.c (.int .i32 126))⟩, ⟨(some 11), none, .pick (.t 8) (.t 10) (.c (.bool false))⟩])
 (.cond (.t 11) (.seq (.line [⟨(some 12), none, .move (.t 0)⟩, ⟨(some 13), none, .bin .sub none (.t 12) (.c (.int .i32 32))⟩, ⟨(some 14), none, .conv (.int .i64) (.t 13)⟩, ⟨(some 2), none, .move (.t 14)⟩])
  .ret) .skip))
 (.seq (.line [⟨(some 3), none, .move (.c (.int .i64 0))⟩])
 (.seq (.seq (.line [⟨(some 15), none, .call (.c (.func (.func 43) #[] #[])) []⟩, ⟨(some 16), none, .rng (.t 15)⟩])
 (.block 0 (.loop (.seq (.line [⟨(some 17), none, .next (.t 16)⟩, ⟨(some 18), none, .ext (.t 17) 0⟩])
   (.seq (.cond (.t 18) .skip (.exit 0))
   (.block 1 (.seq (.line [⟨(some 19), none, .ext (.t 17) 2⟩, ⟨(some 5), none, .move (.t 19)⟩])
    (.seq (.seq (.line [⟨(some 20), none, .move (.t 5)⟩, ⟨(some 21), none, .move (.t 0)⟩, ⟨(some 22), none, .bin .eql (some .int) (.t 20) (.t 21)⟩])
    (.cond (.t 22) (.seq (.line [⟨(some 23), none, .move (.t 3)⟩, ⟨(some 2), none, .move (.t 23)⟩])
     .ret) .skip))
    (.line [⟨(some 24), none, .move (.t 3)⟩, ⟨(some 25), none, .bin .add none (.t 24) (.c (.int .i64 1))⟩, ⟨(some 3), none, .move (.t 25)⟩])))))))))
 (.seq (.line [⟨(some 2), none, .move (.c (.int .i64 (-1)))⟩])
 .ret)))))⟩
/-- strings.ContainsRune -/
def g28 : GFun := ⟨9, [.tmp 4],
 (.seq (.line [⟨(some 4), none, .move (.c (.bool false))⟩])
 (.seq (.line [⟨(some 5), none, .move (.t 0)⟩, ⟨(some 6), none, .move (.t 1)⟩, ⟨(some 7), none, .call (.c (.func (.func 44) #[] #[])) [(.t 5), (.t 6)]⟩, ⟨(some 8), none, .bin .geq none (.t 7) (.c (.int .i64 0))⟩, ⟨(some 4), none, .move (.t 8)⟩])
 .ret))⟩
/-- captioner/latin.accented -/
def g29 : GFun := ⟨18, [.tmp 2],
 (.seq (.line [⟨(some 2), none, .move (.c (.string ⟨#[]⟩))⟩])
 (.seq (.seq (.line [⟨(some 3), none, .move (.t 0)⟩])
 (.block 0 (.seq (.line [⟨(some 5), none, .bin .eql (some .int) (.t 3) (.c (.int .u8 193))⟩, ⟨(some 4), none, .move (.t 5)⟩])
  (.cond (.t 4) (.seq (.line [⟨(some 2), none, .move (.c (.string ⟨#[195, 128, 195, 136, 195, 140, 195, 146, 195, 153]⟩))⟩])
   .ret) (.seq (.line [⟨(some 7), none, .bin .eql (some .int) (.t 3) (.c (.int .u8 194))⟩, ⟨(some 6), none, .move (.t 7)⟩])
   (.cond (.t 6) (.seq (.line [⟨(some 2), none, .move (.c (.string ⟨#[195, 129, 195, 137, 195, 141, 195, 147, 195, 154]⟩))⟩])
    .ret) (.seq (.line [⟨(some 9), none, .bin .eql (some .int) (.t 3) (.c (.int .u8 195))⟩, ⟨(some 8), none, .move (.t 9)⟩])
    (.cond (.t 8) (.seq (.line [⟨(some 2), none, .move (.c (.string ⟨#[195, 130, 195, 138, 195, 142, 195, 148, 195, 155]⟩))⟩])
     .ret) (.seq (.line [⟨(some 11), none, .bin .eql (some .int) (.t 3) (.c (.int .u8 196))⟩, ⟨(some 10), none, .move (.t 11)⟩])
     (.cond (.t 10) (.seq (.line [⟨(some 2), none, .move (.c (.string ⟨#[195, 131, 195, 145, 195, 149]⟩))⟩])
      .ret) (.seq (.line [⟨(some 13), none, .bin .eql (some .int) (.t 3) (.c (.int .u8 200))⟩, ⟨(some 12), none, .move (.t 13)⟩])
      (.cond (.t 12) (.seq (.line [⟨(some 2), none, .move (.c (.string ⟨#[195, 132, 195, 139, 195, 143, 195, 150, 195, 156]⟩))⟩])
       .ret) (.seq (.line [⟨(some 15), none, .bin .eql (some .int) (.t 3) (.c (.int .u8 202))⟩, ⟨(some 14), none, .move (.t 15)⟩])
       (.cond (.t 14) (.seq (.line [⟨(some 2), none, .move (.c (.string ⟨#[195, 133]⟩))⟩])
        .ret) (.seq (.line [⟨(some 17), none, .bin .eql (some .int) (.t 3) (.c (.int .u8 203))⟩, ⟨(some 16), none, .move (.t 17)⟩])
        (.cond (.t 16) (.seq (.line [⟨(some 2), none, .move (.c (.string ⟨#[195, 135]⟩))⟩])
         .ret) .skip))))))))))))))))
 (.seq (.line [⟨(some 2), none, .move (.c (.string ⟨#[]⟩))⟩])
 .ret)))⟩
/-- captioner/charset.Upper -/
def g30 : GFun := ⟨26, [.tmp 2],
 (.seq (.line [⟨(some 2), none, .move (.c (.int .i32 0))⟩])
 (.seq (.block 0 (.seq (.line [⟨(some 4), none, .move (.t 0)⟩, ⟨(some 5), none, .call (.c (.func (.func 26) #[] #[])) [(.t 4)]⟩, ⟨(some 6), none, .bin .lss none (.t 5) (.c (.int .i64 0))⟩, ⟨(some 3), none, .move (.t 6)⟩])
  (.cond (.t 3) (.seq (.line [⟨(some 2), none, .move (.c (.int .i32 0))⟩])
   .ret) (.seq (.seq (.line [⟨(some 8), none, .move (.t 0)⟩, ⟨(some 9), none, .bin .geq none (.t 8) (.c (.int .i32 97))⟩, ⟨(some 10), none, .move (.t 9)⟩, ⟨(some 11), (some (10, true)), .move (.t 0)⟩, ⟨(some 12), (some (10, true)), .bin .leq none (.t 11) (.c (.int .i32 122))⟩, ⟨(some 13), none, .pick (.t 10) (.t 12) (.c (.bool false))⟩, ⟨(some 7), none, .move (.t 13)⟩])
   (.cond (.t 7) .skip (.line [⟨(some 14), none, .move (.t 0)⟩, ⟨(some 15), none, .bin .geq none (.t 14) (.c (.int .i32 224))⟩, ⟨(some 16), none, .move (.t 15)⟩, ⟨(some 17), (some (16, true)), .move (.t 0)⟩, ⟨(some 18), (some (16, true)), .bin .leq none (.t 17) (.c (.int .i32 255))⟩, ⟨(some 19), none, .pick (.t 16) (.t 18) (.c (.bool false))⟩, ⟨(some 7), none, .move (.t 19)⟩])))
   (.cond (.t 7) (.seq (.line [⟨(some 20), none, .move (.t 0)⟩, ⟨(some 21), none, .bin .sub none (.t 20) (.c (.int .i32 32))⟩, ⟨(some 2), none, .move (.t 21)⟩])
    .ret) (.seq (.line [⟨(some 23), none, .move (.t 0)⟩, ⟨(some 24), none, .bin .eql (some .int) (.t 23) (.c (.int .i32 339))⟩, ⟨(some 22), none, .move (.t 24)⟩])
    (.cond (.t 22) (.seq (.line [⟨(some 2), none, .move (.c (.int .i32 338))⟩])
     .ret) .skip)))))))
 (.seq (.line [⟨(some 25), none, .move (.t 0)⟩, ⟨(some 2), none, .move (.t 25)⟩])
 .ret)))⟩
/-- captioner/charset.Base -/
def g31 : GFun := ⟨17, [.tmp 2],
 (.seq (.line [⟨(some 2), none, .move (.c (.int .i32 0))⟩])
 (.seq (.line [⟨(some 4), none, .move (.t 0)⟩, ⟨(some 5), none, .call (.c (.func (.func 26) #[] #[])) [(.t 4)]⟩, ⟨(some 3), none, .move (.t 5)⟩])
 (.seq (.block 0 (.seq (.line [⟨(some 7), none, .move (.t 3)⟩, ⟨(some 8), none, .bin .lss none (.t 7) (.c (.int .i64 0))⟩, ⟨(some 6), none, .move (.t 8)⟩])
  (.cond (.t 6) (.seq (.line [⟨(some 2), none, .move (.c (.int .i32 0))⟩])
   .ret) (.seq (.line [⟨(some 10), none, .move (.t 3)⟩, ⟨(some 11), none, .bin .lss none (.t 10) (.c (.int .i64 95))⟩, ⟨(some 9), none, .move (.t 11)⟩])
   (.cond (.t 9) (.seq (.line [⟨(some 12), none, .move (.t 0)⟩, ⟨(some 2), none, .move (.t 12)⟩])
    .ret) .skip)))))
 (.seq (.line [⟨(some 13), none, .move (.t 3)⟩, ⟨(some 14), none, .bin .sub none (.t 13) (.c (.int .i64 95))⟩, ⟨(some 15), none, .ix none (.c (.string ⟨#[33, 99, 76, 36, 89, 124, 83, 67, 34, 82, 111, 46, 34, 50, 63, 65, 65, 65, 65, 65, 65, 65, 67, 69, 69, 69, 69, 73, 73, 73, 73, 78, 79, 79, 79, 79, 79, 79, 85, 85, 85, 85, 115, 97, 97, 97, 97, 97, 97, 97, 99, 101, 101, 101, 101, 105, 105, 105, 105, 110, 111, 111, 111, 111, 111, 111, 117, 117, 117, 117, 79, 111, 45, 39, 39, 34, 34, 46, 46, 84, 35]⟩)) (.t 14)⟩, ⟨(some 16), none, .conv (.int .i32) (.t 15)⟩, ⟨(some 2), none, .move (.t 16)⟩])
 .ret))))⟩
/-- captioner/captionerref22.single -/
def g32 : GFun := ⟨32, [.tmp 2],
 (.seq (.line [⟨(some 2), none, .move (.c (.int .i32 0))⟩])
 (.seq (.seq (.line [⟨(some 7), none, .move (.t 0)⟩, ⟨(some 8), none, .bin .geq none (.t 7) (.c (.int .u8 32))⟩, ⟨(some 9), none, .move (.t 8)⟩, ⟨(some 10), (some (9, true)), .move (.t 0)⟩, ⟨(some 11), (some (9, true)), .bin .leq none (.t 10) (.c (.int .u8 126))⟩, ⟨(some 12), none, .pick (.t 9) (.t 11) (.c (.bool false))⟩])
 (.cond (.t 12) (.seq (.line [⟨(some 13), none, .move (.t 0)⟩, ⟨(some 14), none, .conv (.int .i32) (.t 13)⟩, ⟨(some 2), none, .move (.t 14)⟩])
  .ret) .skip))
 (.seq (.line [⟨(some 15), none, .buildSl 257 31 [(.int .u8 0)] [(0, 1, (.c (.int .u8 161))), (1, 1, (.c (.int .u8 162))), (2, 1, (.c (.int .u8 163))), (3, 1, (.c (.int .u8 164))), (4, 1, (.c (.int .u8 165))), (5, 1, (.c (.int .u8 166))), (6, 1, (.c (.int .u8 167))), (7, 1, (.c (.int .u8 168))), (8, 1, (.c (.int .u8 169))), (9, 1, (.c (.int .u8 170))), (10, 1, (.c (.int .u8 171))), (11, 1, (.c (.int .u8 172))), (12, 1, (.c (.int .u8 173))), (13, 1, (.c (.int .u8 174))), (14, 1, (.c (.int .u8 175))), (15, 1, (.c (.int .u8 176))), (16, 1, (.c (.int .u8 180))), (17, 1, (.c (.int .u8 183))), (18, 1, (.c (.int .u8 185))), (19, 1, (.c (.int .u8 186))), (20, 1, (.c (.int .u8 187))), (21, 1, (.c (.int .u8 189))), (22, 1, (.c (.int .u8 191))), (23, 1, (.c (.int .u8 213))), (24, 1, (.c (.int .u8 225))), (25, 1, (.c (.int .u8 233))), (26, 1, (.c (.int .u8 234))), (27, 1, (.c (.int .u8 241))), (28, 1, (.c (.int .u8 249))), (29, 1, (.c (.int .u8 250))), (30, 1, (.c (.int .u8 251)))]⟩, ⟨(some 3), none, .move (.t 15)⟩])
 (.seq (.line [⟨(some 16), none, .buildSl 1 31 [(.int .i32 0)] [(0, 1, (.c (.int .i32 161))), (1, 1, (.c (.int .i32 162))), (2, 1, (.c (.int .i32 163))), (3, 1, (.c (.int .i32 164))), (4, 1, (.c (.int .i32 165))), (5, 1, (.c (.int .i32 166))), (6, 1, (.c (.int .i32 167))), (7, 1, (.c (.int .i32 169))), (8, 1, (.c (.int .i32 8216))), (9, 1, (.c (.int .i32 8220))), (10, 1, (.c (.int .i32 171))), (11, 1, (.c (.int .i32 174))), (12, 1, (.c (.int .i32 8212))), (13, 1, (.c (.int .i32 8226))), (14, 1, (.c (.int .i32 8230))), (15, 1, (.c (.int .i32 176))), (16, 1, (.c (.int .i32 8482))), (17, 1, (.c (.int .i32 183))), (18, 1, (.c (.int .i32 8217))), (19, 1, (.c (.int .i32 8221))), (20, 1, (.c (.int .i32 187))), (21, 1, (.c (.int .i32 189))), (22, 1, (.c (.int .i32 191))), (23, 1, (.c (.int .i32 9834))), (24, 1, (.c (.int .i32 198))), (25, 1, (.c (.int .i32 216))), (26, 1, (.c (.int .i32 338))), (27, 1, (.c (.int .i32 230))), (28, 1, (.c (.int .i32 248))), (29, 1, (.c (.int .i32 339))), (30, 1, (.c (.int .i32 223)))]⟩, ⟨(some 4), none, .move (.t 16)⟩])
 (.seq (.seq (.line [⟨(some 17), none, .move (.t 3)⟩, ⟨(some 18), none, .len false (.t 17)⟩, ⟨(some 19), none, .move (.c (.int .i64 0))⟩])
 (.block 0 (.loop (.seq (.line [⟨(some 20), none, .bin .lss none (.t 19) (.t 18)⟩])
   (.seq (.cond (.t 20) .skip (.exit 0))
   (.seq (.block 1 (.seq (.line [⟨(some 21), none, .move (.t 19)⟩, ⟨(some 22), none, .ia none 1 (.t 17) (.t 19)⟩, ⟨(some 23), none, .load none (.t 22)⟩, ⟨(some 5), none, .move (.t 21)⟩, ⟨(some 6), none, .move (.t 23)⟩])
    (.seq (.line [⟨(some 24), none, .move (.t 6)⟩, ⟨(some 25), none, .move (.t 0)⟩, ⟨(some 26), none, .bin .eql (some .int) (.t 24) (.t 25)⟩])
    (.cond (.t 26) (.seq (.line [⟨(some 27), none, .move (.t 4)⟩, ⟨(some 28), none, .move (.t 5)⟩, ⟨(some 29), none, .ia none 1 (.t 27) (.t 28)⟩, ⟨(some 30), none, .load none (.t 29)⟩, ⟨(some 2), none, .move (.t 30)⟩])
     .ret) .skip))))
   (.line [⟨(some 31), none, .bin .add none (.t 19) (.c (.int .i64 1))⟩, ⟨(some 19), none, .move (.t 31)⟩])))))))
 (.seq (.line [⟨(some 2), none, .move (.c (.int .i32 0))⟩])
 .ret))))))⟩
/-- captioner/captionerref22.double -/
def g33 : GFun := ⟨52, [.tmp 4],
 (.seq (.line [⟨(some 4), none, .move (.c (.int .i32 0))⟩])
 (.seq (.line [⟨(some 12), none, .move (.t 1)⟩, ⟨(some 13), none, .bin .geq none (.t 12) (.c (.int .u8 97))⟩, ⟨(some 14), none, .move (.t 13)⟩, ⟨(some 15), (some (14, true)), .move (.t 1)⟩, ⟨(some 16), (some (14, true)), .bin .leq none (.t 15) (.c (.int .u8 122))⟩, ⟨(some 17), none, .pick (.t 14) (.t 16) (.c (.bool false))⟩, ⟨(some 5), none, .move (.t 17)⟩])
 (.seq (.line [⟨(some 18), none, .move (.t 1)⟩, ⟨(some 6), none, .move (.t 18)⟩])
 (.seq (.seq (.line [⟨(some 19), none, .move (.t 5)⟩])
 (.cond (.t 19) (.line [⟨(some 20), none, .move (.t 6)⟩, ⟨(some 21), none, .bin .sub none (.t 20) (.c (.int .u8 32))⟩, ⟨(some 6), none, .move (.t 21)⟩]) .skip))
 (.seq (.line [⟨(some 22), none, .buildSl 257 25 [(.int .u8 0)] [(0, 1, (.c (.int .u8 193))), (1, 1, (.c (.int .u8 193))), (2, 1, (.c (.int .u8 193))), (3, 1, (.c (.int .u8 193))), (4, 1, (.c (.int .u8 193))), (5, 1, (.c (.int .u8 194))), (6, 1, (.c (.int .u8 194))), (7, 1, (.c (.int .u8 194))), (8, 1, (.c (.int .u8 194))), (9, 1, (.c (.int .u8 194))), (10, 1, (.c (.int .u8 195))), (11, 1, (.c (.int .u8 195))), (12, 1, (.c (.int .u8 195))), (13, 1, (.c (.int .u8 195))), (14, 1, (.c (.int .u8 195))), (15, 1, (.c (.int .u8 196))), (16, 1, (.c (.int .u8 196))), (17, 1, (.c (.int .u8 196))), (18, 1, (.c (.int .u8 200))), (19, 1, (.c (.int .u8 200))), (20, 1, (.c (.int .u8 200))), (21, 1, (.c (.int .u8 200))), (22, 1, (.c (.int .u8 200))), (23, 1, (.c (.int .u8 202))), (24, 1, (.c (.int .u8 203)))]⟩, ⟨(some 7), none, .move (.t 22)⟩])
 (.seq (.line [⟨(some 8), none, .move (.c (.string ⟨#[65, 69, 73, 79, 85, 65, 69, 73, 79, 85, 65, 69, 73, 79, 85, 65, 78, 79, 65, 69, 73, 79, 85, 65, 67]⟩))⟩])
 (.seq (.line [⟨(some 23), none, .buildSl 1 25 [(.int .i32 0)] [(0, 1, (.c (.int .i32 192))), (1, 1, (.c (.int .i32 200))), (2, 1, (.c (.int .i32 204))), (3, 1, (.c (.int .i32 210))), (4, 1, (.c (.int .i32 217))), (5, 1, (.c (.int .i32 193))), (6, 1, (.c (.int .i32 201))), (7, 1, (.c (.int .i32 205))), (8, 1, (.c (.int .i32 211))), (9, 1, (.c (.int .i32 218))), (10, 1, (.c (.int .i32 194))), (11, 1, (.c (.int .i32 202))), (12, 1, (.c (.int .i32 206))), (13, 1, (.c (.int .i32 212))), (14, 1, (.c (.int .i32 219))), (15, 1, (.c (.int .i32 195))), (16, 1, (.c (.int .i32 209))), (17, 1, (.c (.int .i32 213))), (18, 1, (.c (.int .i32 196))), (19, 1, (.c (.int .i32 203))), (20, 1, (.c (.int .i32 207))), (21, 1, (.c (.int .i32 214))), (22, 1, (.c (.int .i32 220))), (23, 1, (.c (.int .i32 197))), (24, 1, (.c (.int .i32 199)))]⟩, ⟨(some 9), none, .move (.t 23)⟩])
 (.seq (.seq (.line [⟨(some 24), none, .move (.t 7)⟩, ⟨(some 25), none, .len false (.t 24)⟩, ⟨(some 26), none, .move (.c (.int .i64 0))⟩])
 (.block 0 (.loop (.seq (.line [⟨(some 27), none, .bin .lss none (.t 26) (.t 25)⟩])
   (.seq (.cond (.t 27) .skip (.exit 0))
   (.seq (.block 1 (.seq (.line [⟨(some 28), none, .move (.t 26)⟩, ⟨(some 29), none, .ia none 1 (.t 24) (.t 26)⟩, ⟨(some 30), none, .load none (.t 29)⟩, ⟨(some 10), none, .move (.t 28)⟩, ⟨(some 11), none, .move (.t 30)⟩])
    (.seq (.line [⟨(some 31), none, .move (.t 11)⟩, ⟨(some 32), none, .move (.t 0)⟩, ⟨(some 33), none, .bin .eql (some .int) (.t 31) (.t 32)⟩, ⟨(some 34), none, .move (.t 33)⟩, ⟨(some 35), (some (34, true)), .move (.t 8)⟩, ⟨(some 36), (some (34, true)), .move (.t 10)⟩, ⟨(some 37), (some (34, true)), .ix none (.t 35) (.t 36)⟩, ⟨(some 38), (some (34, true)), .move (.t 6)⟩, ⟨(some 39), (some (34, true)), .bin .eql (some .int) (.t 37) (.t 38)⟩, ⟨(some 40), none, .pick (.t 34) (.t 39) (.c (.bool false))⟩])
    (.cond (.t 40) (.seq (.seq (.line [⟨(some 41), none, .move (.t 5)⟩])
     (.cond (.t 41) (.seq (.line [⟨(some 42), none, .move (.t 9)⟩, ⟨(some 43), none, .move (.t 10)⟩, ⟨(some 44), none, .ia none 1 (.t 42) (.t 43)⟩, ⟨(some 45), none, .load none (.t 44)⟩, ⟨(some 46), none, .bin .add none (.t 45) (.c (.int .i32 32))⟩, ⟨(some 4), none, .move (.t 46)⟩])
      .ret) .skip))
     (.seq (.line [⟨(some 47), none, .move (.t 9)⟩, ⟨(some 48), none, .move (.t 10)⟩, ⟨(some 49), none, .ia none 1 (.t 47) (.t 48)⟩, ⟨(some 50), none, .load none (.t 49)⟩, ⟨(some 4), none, .move (.t 50)⟩])
     .ret)) .skip))))
   (.line [⟨(some 51), none, .bin .add none (.t 26) (.c (.int .i64 1))⟩, ⟨(some 26), none, .move (.t 51)⟩])))))))
 (.seq (.line [⟨(some 4), none, .move (.c (.int .i32 0))⟩])
 .ret)))))))))⟩
/-- captioner/charset.Lower -/
def g34 : GFun := ⟨26, [.tmp 2],
 (.seq (.line [⟨(some 2), none, .move (.c (.int .i32 0))⟩])
 (.seq (.block 0 (.seq (.line [⟨(some 4), none, .move (.t 0)⟩, ⟨(some 5), none, .call (.c (.func (.func 26) #[] #[])) [(.t 4)]⟩, ⟨(some 6), none, .bin .lss none (.t 5) (.c (.int .i64 0))⟩, ⟨(some 3), none, .move (.t 6)⟩])
  (.cond (.t 3) (.seq (.line [⟨(some 2), none, .move (.c (.int .i32 0))⟩])
   .ret) (.seq (.seq (.line [⟨(some 8), none, .move (.t 0)⟩, ⟨(some 9), none, .bin .geq none (.t 8) (.c (.int .i32 65))⟩, ⟨(some 10), none, .move (.t 9)⟩, ⟨(some 11), (some (10, true)), .move (.t 0)⟩, ⟨(some 12), (some (10, true)), .bin .leq none (.t 11) (.c (.int .i32 90))⟩, ⟨(some 13), none, .pick (.t 10) (.t 12) (.c (.bool false))⟩, ⟨(some 7), none, .move (.t 13)⟩])
   (.cond (.t 7) .skip (.line [⟨(some 14), none, .move (.t 0)⟩, ⟨(some 15), none, .bin .geq none (.t 14) (.c (.int .i32 192))⟩, ⟨(some 16), none, .move (.t 15)⟩, ⟨(some 17), (some (16, true)), .move (.t 0)⟩, ⟨(some 18), (some (16, true)), .bin .lss none (.t 17) (.c (.int .i32 223))⟩, ⟨(some 19), none, .pick (.t 16) (.t 18) (.c (.bool false))⟩, ⟨(some 7), none, .move (.t 19)⟩])))
   (.cond (.t 7) (.seq (.line [⟨(some 20), none, .move (.t 0)⟩, ⟨(some 21), none, .bin .add none (.t 20) (.c (.int .i32 32))⟩, ⟨(some 2), none, .move (.t 21)⟩])
    .ret) (.seq (.line [⟨(some 23), none, .move (.t 0)⟩, ⟨(some 24), none, .bin .eql (some .int) (.t 23) (.c (.int .i32 338))⟩, ⟨(some 22), none, .move (.t 24)⟩])
    (.cond (.t 22) (.seq (.line [⟨(some 2), none, .move (.c (.int .i32 339))⟩])
     .ret) .skip)))))))
 (.seq (.line [⟨(some 25), none, .move (.t 0)⟩, ⟨(some 2), none, .move (.t 25)⟩])
 .ret)))⟩
/-- captioner/captionerref08.Valid -/
def g35 : GFun := ⟨13, [.tmp 2],
 (.seq (.line [⟨(some 2), none, .move (.c (.bool false))⟩])
 (.seq (.seq (.line [⟨(some 5), none, .move (.t 0)⟩, ⟨(some 6), none, .rng (.t 5)⟩])
 (.block 0 (.loop (.seq (.line [⟨(some 7), none, .next (.t 6)⟩, ⟨(some 8), none, .ext (.t 7) 0⟩])
   (.seq (.cond (.t 8) .skip (.exit 0))
   (.block 1 (.seq (.line [⟨(some 9), none, .ext (.t 7) 2⟩, ⟨(some 4), none, .move (.t 9)⟩])
    (.seq (.line [⟨(some 10), none, .move (.t 4)⟩, ⟨(some 11), none, .call (.c (.func (.func 27) #[] #[])) [(.t 10)]⟩, ⟨(some 12), none, .bin .lss none (.t 11) (.c (.int .i64 0))⟩])
    (.cond (.t 12) (.seq (.line [⟨(some 2), none, .move (.c (.bool false))⟩])
     .ret) .skip)))))))))
 (.seq (.line [⟨(some 2), none, .move (.c (.bool true))⟩])
 .ret)))⟩
/-- captioner/captionerref08.Chars -/
def g36 : GFun := ⟨8, [.tmp 2],
 (.seq (.line [⟨(some 2), none, .move (.c (.slice none 0 0))⟩])
 (.seq (.seq (.line [⟨(some 3), none, .move (.t 0)⟩, ⟨(some 4), none, .call (.c (.func (.func 35) #[] #[])) [(.t 3)]⟩, ⟨(some 5), none, .un .not (.t 4)⟩])
 (.cond (.t 5) (.seq (.line [⟨(some 2), none, .move (.c (.slice none 0 0))⟩])
  .ret) .skip))
 (.seq (.line [⟨(some 6), none, .move (.t 0)⟩, ⟨(some 7), none, .call (.c (.func (.func 45) #[] #[])) [(.t 6)]⟩, ⟨(some 2), none, .move (.t 7)⟩])
 .ret)))⟩
/-- unicode/utf8.RuneCountInString -/
def g37 : GFun := ⟨10, [.tmp 2],
 (.seq (.line [⟨(some 2), none, .move (.c (.int .i64 0))⟩])
 (.seq (.seq (.line [⟨(some 3), none, .move (.t 0)⟩, ⟨(some 4), none, .rng (.t 3)⟩])
 (.block 0 (.loop (.seq (.line [⟨(some 5), none, .next (.t 4)⟩, ⟨(some 6), none, .ext (.t 5) 0⟩])
   (.seq (.cond (.t 6) .skip (.exit 0))
   (.block 1 (.line [⟨(some 7), none, .move (.t 2)⟩, ⟨(some 8), none, .bin .add none (.t 7) (.c (.int .i64 1))⟩, ⟨(some 2), none, .move (.t 8)⟩])))))))
 (.seq (.line [⟨(some 9), none, .move (.t 2)⟩, ⟨(some 2), none, .move (.t 9)⟩])
 .ret)))⟩
/-- (*strings.Builder).WriteRune -/
def g38 : GFun := ⟨30, [.tmp 4, .tmp 5],
 (.seq (.line [⟨(some 4), none, .move (.c (.int .i64 0))⟩, ⟨(some 5), none, .move (.c .nilIface)⟩])
 (.seq (.line [⟨(some 7), none, .move (.t 0)⟩, ⟨(some 8), none, .call (.c (.func (.func 46) #[] #[])) [(.t 7)]⟩])
 (.seq (.line [⟨(some 9), none, .move (.t 0)⟩, ⟨(some 10), none, .nilc (.t 9)⟩, ⟨(some 11), none, .fa 1 (.t 10)⟩, ⟨(some 12), none, .load none (.t 11)⟩, ⟨(some 13), none, .len false (.t 12)⟩, ⟨(some 6), none, .move (.t 13)⟩])
 (.seq (.line [⟨(some 14), none, .move (.t 0)⟩, ⟨(some 15), none, .move (.t 0)⟩, ⟨(some 16), none, .nilc (.t 15)⟩, ⟨(some 17), none, .fa 1 (.t 16)⟩, ⟨(some 18), none, .load none (.t 17)⟩, ⟨(some 19), none, .move (.t 1)⟩, ⟨(some 20), none, .call (.c (.func (.func 47) #[] #[])) [(.t 18), (.t 19)]⟩, ⟨(some 21), none, .nilc (.t 14)⟩, ⟨(some 22), none, .fa 1 (.t 21)⟩, ⟨none, none, .store none (.t 22) (.t 20)⟩])
 (.seq (.line [⟨(some 23), none, .move (.t 0)⟩, ⟨(some 24), none, .nilc (.t 23)⟩, ⟨(some 25), none, .fa 1 (.t 24)⟩, ⟨(some 26), none, .load none (.t 25)⟩, ⟨(some 27), none, .len false (.t 26)⟩, ⟨(some 28), none, .move (.t 6)⟩, ⟨(some 29), none, .bin .sub none (.t 27) (.t 28)⟩, ⟨(some 4), none, .move (.t 29)⟩, ⟨(some 5), none, .move (.c .nilIface)⟩])
 .ret)))))⟩

/-- captioner/captionerref08.Of -/
def g40 : GFun := ⟨21, [.tmp 2],
 (.seq (.line [⟨(some 2), none, .move (.c (.string ⟨#[]⟩))⟩])
 (.seq (.line [⟨(some 3), none, .move (.c (.string ⟨#[]⟩))⟩])
 (.seq (.seq (.line [⟨(some 6), none, .move (.t 0)⟩, ⟨(some 7), none, .len false (.t 6)⟩, ⟨(some 8), none, .move (.c (.int .i64 0))⟩])
 (.block 0 (.loop (.seq (.line [⟨(some 9), none, .bin .lss none (.t 8) (.t 7)⟩])
   (.seq (.cond (.t 9) .skip (.exit 0))
   (.seq (.block 1 (.seq (.line [⟨(some 10), none, .ia none 1 (.t 6) (.t 8)⟩, ⟨(some 11), none, .load none (.t 10)⟩, ⟨(some 5), none, .move (.t 11)⟩])
    (.seq (.seq (.line [⟨(some 12), none, .move (.t 5)⟩, ⟨(some 13), none, .call (.c (.func (.func 27) #[] #[])) [(.t 12)]⟩, ⟨(some 14), none, .bin .lss none (.t 13) (.c (.int .i64 0))⟩])
    (.cond (.t 14) (.seq (.line [⟨(some 2), none, .move (.c (.string ⟨#[]⟩))⟩])
     .ret) .skip))
    (.line [⟨(some 15), none, .move (.t 3)⟩, ⟨(some 16), none, .move (.t 5)⟩, ⟨(some 17), none, .conv .strOfInt (.t 16)⟩, ⟨(some 18), none, .bin .add none (.t 15) (.t 17)⟩, ⟨(some 3), none, .move (.t 18)⟩]))))
   (.line [⟨(some 19), none, .bin .add none (.t 8) (.c (.int .i64 1))⟩, ⟨(some 8), none, .move (.t 19)⟩])))))))
 (.seq (.line [⟨(some 20), none, .move (.t 3)⟩, ⟨(some 2), none, .move (.t 20)⟩])
 .ret))))⟩

/-- captioner/charset.place -/
def g42 : GFun := ⟨19, [.tmp 4],
 (.seq (.line [⟨(some 4), none, .move (.c (.int .i64 0))⟩])
 (.seq (.line [⟨(some 5), none, .move (.c (.int .i64 0))⟩])
 (.seq (.seq (.line [⟨(some 8), none, .move (.t 0)⟩, ⟨(some 9), none, .rng (.t 8)⟩])
 (.block 0 (.loop (.seq (.line [⟨(some 10), none, .next (.t 9)⟩, ⟨(some 11), none, .ext (.t 10) 0⟩])
   (.seq (.cond (.t 11) .skip (.exit 0))
   (.block 1 (.seq (.line [⟨(some 12), none, .ext (.t 10) 2⟩, ⟨(some 7), none, .move (.t 12)⟩])
    (.seq (.seq (.line [⟨(some 13), none, .move (.t 7)⟩, ⟨(some 14), none, .move (.t 1)⟩, ⟨(some 15), none, .bin .eql (some .int) (.t 13) (.t 14)⟩])
    (.cond (.t 15) (.seq (.line [⟨(some 16), none, .move (.t 5)⟩, ⟨(some 4), none, .move (.t 16)⟩])
     .ret) .skip))
    (.line [⟨(some 17), none, .move (.t 5)⟩, ⟨(some 18), none, .bin .add none (.t 17) (.c (.int .i64 1))⟩, ⟨(some 5), none, .move (.t 18)⟩])))))))))
 (.seq (.line [⟨(some 4), none, .move (.c (.int .i64 (-1)))⟩])
 .ret))))⟩
/-- captioner/captionerref08.Repertoire -/
def g43 : GFun := ⟨1, [.tmp 0],
 (.seq (.line [⟨(some 0), none, .move (.c (.string ⟨#[]⟩))⟩])
 (.seq (.line [⟨(some 0), none, .move (.c (.string ⟨#[32, 33, 34, 35, 36, 37, 38, 39, 40, 41, 42, 43, 44, 45, 46, 47, 48, 49, 50, 51, 52, 53, 54, 55, 56, 57, 58, 59, 60, 61, 62, 63, 64, 65, 66, 67, 68, 69, 70, 71, 72, 73, 74, 75, 76, 77, 78, 79, 80, 81, 82, 83, 84, 85, 86, 87, 88, 89, 90, 91, 92, 93, 94, 95, 96, 97, 98, 99, 100, 101, 102, 103, 104, 105, 106, 107, 108, 109, 110, 111, 112, 113, 114, 115, 116, 117, 118, 119, 120, 121, 122, 123, 124, 125, 126, 194, 161, 194, 162, 194, 163, 194, 164, 194, 165, 194, 166, 194, 167, 194, 169, 194, 171, 194, 174, 194, 176, 194, 183, 194, 187, 194, 189, 194, 191, 195, 128, 195, 129, 195, 130, 195, 131, 195, 132, 195, 133, 195, 134, 195, 135, 195, 136, 195, 137, 195, 138, 195, 139, 195, 140, 195, 141, 195, 142, 195, 143, 195, 145, 195, 146, 195, 147, 195, 148, 195, 149, 195, 150, 195, 152, 195, 153, 195, 154, 195, 155, 195, 156, 195, 159, 195, 160, 195, 161, 195, 162, 195, 163, 195, 164, 195, 165, 195, 166, 195, 167, 195, 168, 195, 169, 195, 170, 195, 171, 195, 172, 195, 173, 195, 174, 195, 175, 195, 177, 195, 178, 195, 179, 195, 180, 195, 181, 195, 182, 195, 184, 195, 185, 195, 186, 195, 187, 195, 188, 197, 146, 197, 147, 226, 128, 148, 226, 128, 152, 226, 128, 153, 226, 128, 156, 226, 128, 157, 226, 128, 162, 226, 128, 166, 226, 132, 162, 226, 153, 170]⟩))⟩])
 .ret))⟩
/-- strings.IndexRune -/
def g44 : GFun := ⟨187, [.tmp 4],
 (.seq (.line [⟨(some 4), none, .move (.c (.int .i64 0))⟩])
 (.block 0 (.seq (.line [⟨(some 161), none, .move (.t 1)⟩, ⟨(some 162), none, .bin .leq none (.c (.int .i32 0)) (.t 161)⟩, ⟨(some 163), none, .move (.t 162)⟩, ⟨(some 164), (some (163, true)), .move (.t 1)⟩, ⟨(some 165), (some (163, true)), .bin .lss none (.t 164) (.c (.int .i32 128))⟩, ⟨(some 166), none, .pick (.t 163) (.t 165) (.c (.bool false))⟩, ⟨(some 160), none, .move (.t 166)⟩])
  (.cond (.t 160) (.seq (.line [⟨(some 167), none, .move (.t 0)⟩, ⟨(some 168), none, .move (.t 1)⟩, ⟨(some 169), none, .conv (.int .u8) (.t 168)⟩, ⟨(some 170), none, .call (.c (.func (.func 49) #[] #[])) [(.t 167), (.t 169)]⟩, ⟨(some 4), none, .move (.t 170)⟩])
   .ret) (.seq (.line [⟨(some 172), none, .move (.t 1)⟩, ⟨(some 173), none, .bin .eql (some .int) (.t 172) (.c (.int .i32 65533))⟩, ⟨(some 171), none, .move (.t 173)⟩])
   (.cond (.t 171) (.seq (.seq (.line [⟨(some 174), none, .move (.t 0)⟩, ⟨(some 175), none, .rng (.t 174)⟩])
    (.block 9 (.loop (.seq (.line [⟨(some 176), none, .next (.t 175)⟩, ⟨(some 177), none, .ext (.t 176) 0⟩])
      (.seq (.cond (.t 177) .skip (.exit 9))
      (.block 10 (.seq (.line [⟨(some 178), none, .ext (.t 176) 1⟩, ⟨(some 179), none, .ext (.t 176) 2⟩, ⟨(some 5), none, .move (.t 178)⟩, ⟨(some 6), none, .move (.t 179)⟩])
       (.seq (.line [⟨(some 180), none, .move (.t 6)⟩, ⟨(some 181), none, .bin .eql (some .int) (.t 180) (.c (.int .i32 65533))⟩])
       (.cond (.t 181) (.seq (.line [⟨(some 182), none, .move (.t 5)⟩, ⟨(some 4), none, .move (.t 182)⟩])
        .ret) .skip)))))))))
    (.seq (.line [⟨(some 4), none, .move (.c (.int .i64 (-1)))⟩])
    .ret)) (.seq (.line [⟨(some 184), none, .move (.t 1)⟩, ⟨(some 185), none, .call (.c (.func (.func 50) #[] #[])) [(.t 184)]⟩, ⟨(some 186), none, .un .not (.t 185)⟩, ⟨(some 183), none, .move (.t 186)⟩])
    (.cond (.t 183) (.seq (.line [⟨(some 4), none, .move (.c (.int .i64 (-1)))⟩])
     .ret) (.scope (.seq (.line [⟨(some 17), none, .move (.t 1)⟩, ⟨(some 18), none, .conv .strOfInt (.t 17)⟩, ⟨(some 7), none, .move (.t 18)⟩])
      (.seq (.line [⟨(some 19), none, .move (.t 7)⟩, ⟨(some 20), none, .len true (.t 19)⟩, ⟨(some 21), none, .bin .sub none (.t 20) (.c (.int .i64 1))⟩, ⟨(some 8), none, .move (.t 21)⟩])
      (.seq (.line [⟨(some 22), none, .move (.t 8)⟩, ⟨(some 9), none, .move (.t 22)⟩])
      (.seq (.line [⟨(some 10), none, .move (.c (.int .i64 0))⟩])
      (.seq (.block 1 (.loop (.seq (.seq (.line [⟨(some 23), none, .move (.t 9)⟩, ⟨(some 24), none, .move (.t 0)⟩, ⟨(some 25), none, .len true (.t 24)⟩, ⟨(some 26), none, .bin .lss none (.t 23) (.t 25)⟩])
        (.cond (.t 26) .skip (.exit 1)))
        (.block 2 (.scope (.seq (.seq (.any [] [⟨(some 27), none, .move (.t 0)⟩, ⟨(some 28), none, .move (.t 9)⟩, ⟨(some 29), none, .ix none (.t 27) (.t 28)⟩, ⟨(some 30), none, .move (.t 7)⟩, ⟨(some 31), none, .move (.t 8)⟩, ⟨(some 32), none, .ix none (.t 30) (.t 31)⟩, ⟨(some 33), none, .bin .neq (some .int) (.t 29) (.t 32)⟩] [])
          (.cond (.t 33) (.seq (.any [] [⟨(some 34), none, .move (.t 0)⟩, ⟨(some 35), none, .move (.t 9)⟩, ⟨(some 36), none, .bin .add none (.t 35) (.c (.int .i64 1))⟩, ⟨(some 37), none, .slice .str (.t 34) (some (.t 36)) none none⟩, ⟨(some 38), none, .move (.t 7)⟩, ⟨(some 39), none, .move (.t 8)⟩, ⟨(some 40), none, .ix none (.t 38) (.t 39)⟩] [(false, ⟨(some 41), none, .call (.c (.func (.func 49) #[] #[])) [(.t 37), (.t 40)]⟩), (false, ⟨(some 11), none, .move (.t 41)⟩)])
           (.seq (.seq (.line [⟨(some 42), none, .move (.t 11)⟩, ⟨(some 43), none, .bin .lss none (.t 42) (.c (.int .i64 0))⟩])
           (.cond (.t 43) (.seq (.line [⟨(some 4), none, .move (.c (.int .i64 (-1)))⟩])
            .ret) .skip))
           (.line [⟨(some 44), none, .move (.t 9)⟩, ⟨(some 45), none, .move (.t 11)⟩, ⟨(some 46), none, .bin .add none (.t 45) (.c (.int .i64 1))⟩, ⟨(some 47), none, .bin .add none (.t 44) (.t 46)⟩, ⟨(some 9), none, .move (.t 47)⟩]))) .skip))
          (.seq (.seq (.line [⟨(some 12), none, .move (.c (.int .i64 1))⟩])
          (.block 3 (.loop (.seq (.seq (.line [⟨(some 48), none, .move (.t 12)⟩, ⟨(some 49), none, .move (.t 7)⟩, ⟨(some 50), none, .len true (.t 49)⟩, ⟨(some 51), none, .bin .lss none (.t 48) (.t 50)⟩])
            (.cond (.t 51) .skip (.exit 3)))
            (.seq (.block 4 (.seq (.any [] [⟨(some 54), none, .move (.t 0)⟩, ⟨(some 55), none, .move (.t 9)⟩, ⟨(some 56), none, .move (.t 12)⟩, ⟨(some 57), none, .bin .sub none (.t 55) (.t 56)⟩, ⟨(some 58), none, .ix none (.t 54) (.t 57)⟩, ⟨(some 59), none, .move (.t 7)⟩, ⟨(some 60), none, .move (.t 8)⟩, ⟨(some 61), none, .move (.t 12)⟩, ⟨(some 62), none, .bin .sub none (.t 60) (.t 61)⟩, ⟨(some 63), none, .ix none (.t 59) (.t 62)⟩, ⟨(some 64), none, .bin .neq (some .int) (.t 58) (.t 63)⟩] [])
             (.cond (.t 64) (.goto 0) .skip)))
            (.line [⟨(some 52), none, .move (.t 12)⟩, ⟨(some 53), none, .bin .add none (.t 52) (.c (.int .i64 1))⟩, ⟨(some 12), none, .move (.t 53)⟩]))))))
          (.seq (.seq (.line [⟨(some 65), none, .move (.t 9)⟩, ⟨(some 66), none, .move (.t 8)⟩, ⟨(some 67), none, .bin .sub none (.t 65) (.t 66)⟩, ⟨(some 4), none, .move (.t 67)⟩])
          .ret)
          (.seq .skip
          (.seq (.line [⟨(some 68), none, .move (.t 10)⟩, ⟨(some 69), none, .bin .add none (.t 68) (.c (.int .i64 1))⟩, ⟨(some 10), none, .move (.t 69)⟩])
          (.seq (.line [⟨(some 70), none, .move (.t 9)⟩, ⟨(some 71), none, .bin .add none (.t 70) (.c (.int .i64 1))⟩, ⟨(some 9), none, .move (.t 71)⟩])
          (.seq (.line [⟨(some 72), none, .move (.c (.bool true))⟩, ⟨(some 73), (some (72, true)), .move (.t 10)⟩, ⟨(some 74), (some (72, true)), .move (.t 9)⟩, ⟨(some 75), (some (72, true)), .call (.c (.func (.func 51) #[] #[])) [(.t 74)]⟩, ⟨(some 76), (some (72, true)), .bin .gtr none (.t 73) (.t 75)⟩, ⟨(some 77), none, .pick (.t 72) (.t 76) (.c (.bool false))⟩, ⟨(some 78), none, .move (.t 77)⟩, ⟨(some 79), (some (78, true)), .move (.t 9)⟩, ⟨(some 80), (some (78, true)), .move (.t 0)⟩, ⟨(some 81), (some (78, true)), .len true (.t 80)⟩, ⟨(some 82), (some (78, true)), .bin .lss none (.t 79) (.t 81)⟩, ⟨(some 83), none, .pick (.t 78) (.t 82) (.c (.bool false))⟩, ⟨(some 84), none, .move (.t 83)⟩, ⟨(some 85), (some (84, false)), .move (.c (.bool false))⟩, ⟨(some 86), (some (85, true)), .move (.t 10)⟩, ⟨(some 87), (some (85, true)), .move (.t 9)⟩, ⟨(some 88), (some (85, true)), .bin .shr none (.t 87) (.c (.int .u64 4))⟩, ⟨(some 89), (some (85, true)), .bin .add none (.c (.int .i64 4)) (.t 88)⟩, ⟨(some 90), (some (85, true)), .bin .geq none (.t 86) (.t 89)⟩, ⟨(some 91), (some (84, false)), .pick (.t 85) (.t 90) (.c (.bool false))⟩, ⟨(some 92), (some (84, false)), .move (.t 91)⟩, ⟨(some 93), (some (92, true)), .move (.t 9)⟩, ⟨(some 94), (some (92, true)), .move (.t 0)⟩, ⟨(some 95), (some (92, true)), .len true (.t 94)⟩, ⟨(some 96), (some (92, true)), .bin .lss none (.t 93) (.t 95)⟩, ⟨(some 97), (some (84, false)), .pick (.t 92) (.t 96) (.c (.bool false))⟩, ⟨(some 98), none, .pick (.t 84) (.c (.bool true)) (.t 97)⟩])
          (.cond (.t 98) (.goto 1) .skip)))))))) 0 (.seq .skip
          (.seq (.line [⟨(some 68), none, .move (.t 10)⟩, ⟨(some 69), none, .bin .add none (.t 68) (.c (.int .i64 1))⟩, ⟨(some 10), none, .move (.t 69)⟩])
          (.seq (.line [⟨(some 70), none, .move (.t 9)⟩, ⟨(some 71), none, .bin .add none (.t 70) (.c (.int .i64 1))⟩, ⟨(some 9), none, .move (.t 71)⟩])
          (.seq (.line [⟨(some 72), none, .move (.c (.bool true))⟩, ⟨(some 73), (some (72, true)), .move (.t 10)⟩, ⟨(some 74), (some (72, true)), .move (.t 9)⟩, ⟨(some 75), (some (72, true)), .call (.c (.func (.func 51) #[] #[])) [(.t 74)]⟩, ⟨(some 76), (some (72, true)), .bin .gtr none (.t 73) (.t 75)⟩, ⟨(some 77), none, .pick (.t 72) (.t 76) (.c (.bool false))⟩, ⟨(some 78), none, .move (.t 77)⟩, ⟨(some 79), (some (78, true)), .move (.t 9)⟩, ⟨(some 80), (some (78, true)), .move (.t 0)⟩, ⟨(some 81), (some (78, true)), .len true (.t 80)⟩, ⟨(some 82), (some (78, true)), .bin .lss none (.t 79) (.t 81)⟩, ⟨(some 83), none, .pick (.t 78) (.t 82) (.c (.bool false))⟩, ⟨(some 84), none, .move (.t 83)⟩, ⟨(some 85), (some (84, false)), .move (.c (.bool false))⟩, ⟨(some 86), (some (85, true)), .move (.t 10)⟩, ⟨(some 87), (some (85, true)), .move (.t 9)⟩, ⟨(some 88), (some (85, true)), .bin .shr none (.t 87) (.c (.int .u64 4))⟩, ⟨(some 89), (some (85, true)), .bin .add none (.c (.int .i64 4)) (.t 88)⟩, ⟨(some 90), (some (85, true)), .bin .geq none (.t 86) (.t 89)⟩, ⟨(some 91), (some (84, false)), .pick (.t 85) (.t 90) (.c (.bool false))⟩, ⟨(some 92), (some (84, false)), .move (.t 91)⟩, ⟨(some 93), (some (92, true)), .move (.t 9)⟩, ⟨(some 94), (some (92, true)), .move (.t 0)⟩, ⟨(some 95), (some (92, true)), .len true (.t 94)⟩, ⟨(some 96), (some (92, true)), .bin .lss none (.t 93) (.t 95)⟩, ⟨(some 97), (some (84, false)), .pick (.t 92) (.t 96) (.c (.bool false))⟩, ⟨(some 98), none, .pick (.t 84) (.c (.bool true)) (.t 97)⟩])
          (.cond (.t 98) (.goto 1) .skip))))))))))
      (.seq (.seq (.line [⟨(some 4), none, .move (.c (.int .i64 (-1)))⟩])
      .ret)
      (.seq .skip
      (.seq (.cond (.c (.bool true)) (.seq (.line [⟨(some 99), none, .move (.t 0)⟩, ⟨(some 100), none, .move (.t 9)⟩, ⟨(some 101), none, .move (.t 8)⟩, ⟨(some 102), none, .bin .sub none (.t 100) (.t 101)⟩, ⟨(some 103), none, .slice .str (.t 99) (some (.t 102)) none none⟩, ⟨(some 104), none, .move (.t 1)⟩, ⟨(some 105), none, .conv .strOfInt (.t 104)⟩, ⟨(some 106), none, .call (.c (.func (.func 52) #[] #[])) [(.t 103), (.t 105)]⟩, ⟨(some 13), none, .move (.t 106)⟩])
       (.seq (.line [⟨(some 107), none, .move (.t 13)⟩, ⟨(some 108), none, .bin .geq none (.t 107) (.c (.int .i64 0))⟩])
       (.cond (.t 108) (.seq (.line [⟨(some 109), none, .move (.t 9)⟩, ⟨(some 110), none, .move (.t 13)⟩, ⟨(some 111), none, .bin .add none (.t 109) (.t 110)⟩, ⟨(some 112), none, .move (.t 8)⟩, ⟨(some 113), none, .bin .sub none (.t 111) (.t 112)⟩, ⟨(some 4), none, .move (.t 113)⟩])
        .ret) .skip))) (.scope (.seq (.line [⟨(some 114), none, .move (.t 7)⟩, ⟨(some 115), none, .move (.t 8)⟩, ⟨(some 116), none, .ix none (.t 114) (.t 115)⟩, ⟨(some 14), none, .move (.t 116)⟩])
        (.seq (.line [⟨(some 117), none, .move (.t 7)⟩, ⟨(some 118), none, .move (.t 8)⟩, ⟨(some 119), none, .bin .sub none (.t 118) (.c (.int .i64 1))⟩, ⟨(some 120), none, .ix none (.t 117) (.t 119)⟩, ⟨(some 15), none, .move (.t 120)⟩])
        (.seq .skip
        (.block 5 (.loop (.seq (.seq (.line [⟨(some 121), none, .move (.t 9)⟩, ⟨(some 122), none, .move (.t 0)⟩, ⟨(some 123), none, .len true (.t 122)⟩, ⟨(some 124), none, .bin .lss none (.t 121) (.t 123)⟩])
          (.cond (.t 124) .skip (.exit 5)))
          (.seq (.block 6 (.seq (.line [⟨(some 127), none, .move (.t 0)⟩, ⟨(some 128), none, .move (.t 9)⟩, ⟨(some 129), none, .ix none (.t 127) (.t 128)⟩, ⟨(some 130), none, .move (.t 14)⟩, ⟨(some 131), none, .bin .eql (some .int) (.t 129) (.t 130)⟩, ⟨(some 132), none, .move (.t 131)⟩, ⟨(some 133), (some (132, true)), .move (.t 0)⟩, ⟨(some 134), (some (132, true)), .move (.t 9)⟩, ⟨(some 135), (some (132, true)), .bin .sub none (.t 134) (.c (.int .i64 1))⟩, ⟨(some 136), (some (132, true)), .ix none (.t 133) (.t 135)⟩, ⟨(some 137), (some (132, true)), .move (.t 15)⟩, ⟨(some 138), (some (132, true)), .bin .eql (some .int) (.t 136) (.t 137)⟩, ⟨(some 139), none, .pick (.t 132) (.t 138) (.c (.bool false))⟩])
           (.cond (.t 139) (.seq (.seq (.line [⟨(some 16), none, .move (.c (.int .i64 2))⟩])
            (.block 7 (.loop (.seq (.seq (.line [⟨(some 140), none, .move (.t 16)⟩, ⟨(some 141), none, .move (.t 7)⟩, ⟨(some 142), none, .len true (.t 141)⟩, ⟨(some 143), none, .bin .lss none (.t 140) (.t 142)⟩])
              (.cond (.t 143) .skip (.exit 7)))
              (.seq (.block 8 (.seq (.any [] [⟨(some 146), none, .move (.t 0)⟩, ⟨(some 147), none, .move (.t 9)⟩, ⟨(some 148), none, .move (.t 16)⟩, ⟨(some 149), none, .bin .sub none (.t 147) (.t 148)⟩, ⟨(some 150), none, .ix none (.t 146) (.t 149)⟩, ⟨(some 151), none, .move (.t 7)⟩, ⟨(some 152), none, .move (.t 8)⟩, ⟨(some 153), none, .move (.t 16)⟩, ⟨(some 154), none, .bin .sub none (.t 152) (.t 153)⟩, ⟨(some 155), none, .ix none (.t 151) (.t 154)⟩, ⟨(some 156), none, .bin .neq (some .int) (.t 150) (.t 155)⟩] [])
               (.cond (.t 156) (.exit 6) .skip)))
              (.line [⟨(some 144), none, .move (.t 16)⟩, ⟨(some 145), none, .bin .add none (.t 144) (.c (.int .i64 1))⟩, ⟨(some 16), none, .move (.t 145)⟩]))))))
            (.seq (.line [⟨(some 157), none, .move (.t 9)⟩, ⟨(some 158), none, .move (.t 8)⟩, ⟨(some 159), none, .bin .sub none (.t 157) (.t 158)⟩, ⟨(some 4), none, .move (.t 159)⟩])
            .ret)) .skip)))
          (.line [⟨(some 125), none, .move (.t 9)⟩, ⟨(some 126), none, .bin .add none (.t 125) (.c (.int .i64 1))⟩, ⟨(some 9), none, .move (.t 126)⟩])))))))) 2 (.seq .skip
        (.block 5 (.loop (.seq (.seq (.line [⟨(some 121), none, .move (.t 9)⟩, ⟨(some 122), none, .move (.t 0)⟩, ⟨(some 123), none, .len true (.t 122)⟩, ⟨(some 124), none, .bin .lss none (.t 121) (.t 123)⟩])
          (.cond (.t 124) .skip (.exit 5)))
          (.seq (.block 6 (.seq (.line [⟨(some 127), none, .move (.t 0)⟩, ⟨(some 128), none, .move (.t 9)⟩, ⟨(some 129), none, .ix none (.t 127) (.t 128)⟩, ⟨(some 130), none, .move (.t 14)⟩, ⟨(some 131), none, .bin .eql (some .int) (.t 129) (.t 130)⟩, ⟨(some 132), none, .move (.t 131)⟩, ⟨(some 133), (some (132, true)), .move (.t 0)⟩, ⟨(some 134), (some (132, true)), .move (.t 9)⟩, ⟨(some 135), (some (132, true)), .bin .sub none (.t 134) (.c (.int .i64 1))⟩, ⟨(some 136), (some (132, true)), .ix none (.t 133) (.t 135)⟩, ⟨(some 137), (some (132, true)), .move (.t 15)⟩, ⟨(some 138), (some (132, true)), .bin .eql (some .int) (.t 136) (.t 137)⟩, ⟨(some 139), none, .pick (.t 132) (.t 138) (.c (.bool false))⟩])
           (.cond (.t 139) (.seq (.seq (.line [⟨(some 16), none, .move (.c (.int .i64 2))⟩])
            (.block 7 (.loop (.seq (.seq (.line [⟨(some 140), none, .move (.t 16)⟩, ⟨(some 141), none, .move (.t 7)⟩, ⟨(some 142), none, .len true (.t 141)⟩, ⟨(some 143), none, .bin .lss none (.t 140) (.t 142)⟩])
              (.cond (.t 143) .skip (.exit 7)))
              (.seq (.block 8 (.seq (.any [] [⟨(some 146), none, .move (.t 0)⟩, ⟨(some 147), none, .move (.t 9)⟩, ⟨(some 148), none, .move (.t 16)⟩, ⟨(some 149), none, .bin .sub none (.t 147) (.t 148)⟩, ⟨(some 150), none, .ix none (.t 146) (.t 149)⟩, ⟨(some 151), none, .move (.t 7)⟩, ⟨(some 152), none, .move (.t 8)⟩, ⟨(some 153), none, .move (.t 16)⟩, ⟨(some 154), none, .bin .sub none (.t 152) (.t 153)⟩, ⟨(some 155), none, .ix none (.t 151) (.t 154)⟩, ⟨(some 156), none, .bin .neq (some .int) (.t 150) (.t 155)⟩] [])
               (.cond (.t 156) (.exit 6) .skip)))
              (.line [⟨(some 144), none, .move (.t 16)⟩, ⟨(some 145), none, .bin .add none (.t 144) (.c (.int .i64 1))⟩, ⟨(some 16), none, .move (.t 145)⟩]))))))
            (.seq (.line [⟨(some 157), none, .move (.t 9)⟩, ⟨(some 158), none, .move (.t 8)⟩, ⟨(some 159), none, .bin .sub none (.t 157) (.t 158)⟩, ⟨(some 4), none, .move (.t 159)⟩])
            .ret)) .skip)))
          (.line [⟨(some 125), none, .move (.t 9)⟩, ⟨(some 126), none, .bin .add none (.t 125) (.c (.int .i64 1))⟩, ⟨(some 9), none, .move (.t 126)⟩]))))))))
      (.seq (.line [⟨(some 4), none, .move (.c (.int .i64 (-1)))⟩])
      .ret))))))))) 1 (.seq .skip
      (.seq (.cond (.c (.bool true)) (.seq (.line [⟨(some 99), none, .move (.t 0)⟩, ⟨(some 100), none, .move (.t 9)⟩, ⟨(some 101), none, .move (.t 8)⟩, ⟨(some 102), none, .bin .sub none (.t 100) (.t 101)⟩, ⟨(some 103), none, .slice .str (.t 99) (some (.t 102)) none none⟩, ⟨(some 104), none, .move (.t 1)⟩, ⟨(some 105), none, .conv .strOfInt (.t 104)⟩, ⟨(some 106), none, .call (.c (.func (.func 52) #[] #[])) [(.t 103), (.t 105)]⟩, ⟨(some 13), none, .move (.t 106)⟩])
       (.seq (.line [⟨(some 107), none, .move (.t 13)⟩, ⟨(some 108), none, .bin .geq none (.t 107) (.c (.int .i64 0))⟩])
       (.cond (.t 108) (.seq (.line [⟨(some 109), none, .move (.t 9)⟩, ⟨(some 110), none, .move (.t 13)⟩, ⟨(some 111), none, .bin .add none (.t 109) (.t 110)⟩, ⟨(some 112), none, .move (.t 8)⟩, ⟨(some 113), none, .bin .sub none (.t 111) (.t 112)⟩, ⟨(some 4), none, .move (.t 113)⟩])
        .ret) .skip))) (.scope (.seq (.line [⟨(some 114), none, .move (.t 7)⟩, ⟨(some 115), none, .move (.t 8)⟩, ⟨(some 116), none, .ix none (.t 114) (.t 115)⟩, ⟨(some 14), none, .move (.t 116)⟩])
        (.seq (.line [⟨(some 117), none, .move (.t 7)⟩, ⟨(some 118), none, .move (.t 8)⟩, ⟨(some 119), none, .bin .sub none (.t 118) (.c (.int .i64 1))⟩, ⟨(some 120), none, .ix none (.t 117) (.t 119)⟩, ⟨(some 15), none, .move (.t 120)⟩])
        (.seq .skip
        (.block 5 (.loop (.seq (.seq (.line [⟨(some 121), none, .move (.t 9)⟩, ⟨(some 122), none, .move (.t 0)⟩, ⟨(some 123), none, .len true (.t 122)⟩, ⟨(some 124), none, .bin .lss none (.t 121) (.t 123)⟩])
          (.cond (.t 124) .skip (.exit 5)))
          (.seq (.block 6 (.seq (.line [⟨(some 127), none, .move (.t 0)⟩, ⟨(some 128), none, .move (.t 9)⟩, ⟨(some 129), none, .ix none (.t 127) (.t 128)⟩, ⟨(some 130), none, .move (.t 14)⟩, ⟨(some 131), none, .bin .eql (some .int) (.t 129) (.t 130)⟩, ⟨(some 132), none, .move (.t 131)⟩, ⟨(some 133), (some (132, true)), .move (.t 0)⟩, ⟨(some 134), (some (132, true)), .move (.t 9)⟩, ⟨(some 135), (some (132, true)), .bin .sub none (.t 134) (.c (.int .i64 1))⟩, ⟨(some 136), (some (132, true)), .ix none (.t 133) (.t 135)⟩, ⟨(some 137), (some (132, true)), .move (.t 15)⟩, ⟨(some 138), (some (132, true)), .bin .eql (some .int) (.t 136) (.t 137)⟩, ⟨(some 139), none, .pick (.t 132) (.t 138) (.c (.bool false))⟩])
           (.cond (.t 139) (.seq (.seq (.line [⟨(some 16), none, .move (.c (.int .i64 2))⟩])
            (.block 7 (.loop (.seq (.seq (.line [⟨(some 140), none, .move (.t 16)⟩, ⟨(some 141), none, .move (.t 7)⟩, ⟨(some 142), none, .len true (.t 141)⟩, ⟨(some 143), none, .bin .lss none (.t 140) (.t 142)⟩])
              (.cond (.t 143) .skip (.exit 7)))
              (.seq (.block 8 (.seq (.any [] [⟨(some 146), none, .move (.t 0)⟩, ⟨(some 147), none, .move (.t 9)⟩, ⟨(some 148), none, .move (.t 16)⟩, ⟨(some 149), none, .bin .sub none (.t 147) (.t 148)⟩, ⟨(some 150), none, .ix none (.t 146) (.t 149)⟩, ⟨(some 151), none, .move (.t 7)⟩, ⟨(some 152), none, .move (.t 8)⟩, ⟨(some 153), none, .move (.t 16)⟩, ⟨(some 154), none, .bin .sub none (.t 152) (.t 153)⟩, ⟨(some 155), none, .ix none (.t 151) (.t 154)⟩, ⟨(some 156), none, .bin .neq (some .int) (.t 150) (.t 155)⟩] [])
               (.cond (.t 156) (.exit 6) .skip)))
              (.line [⟨(some 144), none, .move (.t 16)⟩, ⟨(some 145), none, .bin .add none (.t 144) (.c (.int .i64 1))⟩, ⟨(some 16), none, .move (.t 145)⟩]))))))
            (.seq (.line [⟨(some 157), none, .move (.t 9)⟩, ⟨(some 158), none, .move (.t 8)⟩, ⟨(some 159), none, .bin .sub none (.t 157) (.t 158)⟩, ⟨(some 4), none, .move (.t 159)⟩])
            .ret)) .skip)))
          (.line [⟨(some 125), none, .move (.t 9)⟩, ⟨(some 126), none, .bin .add none (.t 125) (.c (.int .i64 1))⟩, ⟨(some 9), none, .move (.t 126)⟩])))))))) 2 (.seq .skip
        (.block 5 (.loop (.seq (.seq (.line [⟨(some 121), none, .move (.t 9)⟩, ⟨(some 122), none, .move (.t 0)⟩, ⟨(some 123), none, .len true (.t 122)⟩, ⟨(some 124), none, .bin .lss none (.t 121) (.t 123)⟩])
          (.cond (.t 124) .skip (.exit 5)))
          (.seq (.block 6 (.seq (.line [⟨(some 127), none, .move (.t 0)⟩, ⟨(some 128), none, .move (.t 9)⟩, ⟨(some 129), none, .ix none (.t 127) (.t 128)⟩, ⟨(some 130), none, .move (.t 14)⟩, ⟨(some 131), none, .bin .eql (some .int) (.t 129) (.t 130)⟩, ⟨(some 132), none, .move (.t 131)⟩, ⟨(some 133), (some (132, true)), .move (.t 0)⟩, ⟨(some 134), (some (132, true)), .move (.t 9)⟩, ⟨(some 135), (some (132, true)), .bin .sub none (.t 134) (.c (.int .i64 1))⟩, ⟨(some 136), (some (132, true)), .ix none (.t 133) (.t 135)⟩, ⟨(some 137), (some (132, true)), .move (.t 15)⟩, ⟨(some 138), (some (132, true)), .bin .eql (some .int) (.t 136) (.t 137)⟩, ⟨(some 139), none, .pick (.t 132) (.t 138) (.c (.bool false))⟩])
           (.cond (.t 139) (.seq (.seq (.line [⟨(some 16), none, .move (.c (.int .i64 2))⟩])
            (.block 7 (.loop (.seq (.seq (.line [⟨(some 140), none, .move (.t 16)⟩, ⟨(some 141), none, .move (.t 7)⟩, ⟨(some 142), none, .len true (.t 141)⟩, ⟨(some 143), none, .bin .lss none (.t 140) (.t 142)⟩])
              (.cond (.t 143) .skip (.exit 7)))
              (.seq (.block 8 (.seq (.any [] [⟨(some 146), none, .move (.t 0)⟩, ⟨(some 147), none, .move (.t 9)⟩, ⟨(some 148), none, .move (.t 16)⟩, ⟨(some 149), none, .bin .sub none (.t 147) (.t 148)⟩, ⟨(some 150), none, .ix none (.t 146) (.t 149)⟩, ⟨(some 151), none, .move (.t 7)⟩, ⟨(some 152), none, .move (.t 8)⟩, ⟨(some 153), none, .move (.t 16)⟩, ⟨(some 154), none, .bin .sub none (.t 152) (.t 153)⟩, ⟨(some 155), none, .ix none (.t 151) (.t 154)⟩, ⟨(some 156), none, .bin .neq (some .int) (.t 150) (.t 155)⟩] [])
               (.cond (.t 156) (.exit 6) .skip)))
              (.line [⟨(some 144), none, .move (.t 16)⟩, ⟨(some 145), none, .bin .add none (.t 144) (.c (.int .i64 1))⟩, ⟨(some 16), none, .move (.t 145)⟩]))))))
            (.seq (.line [⟨(some 157), none, .move (.t 9)⟩, ⟨(some 158), none, .move (.t 8)⟩, ⟨(some 159), none, .bin .sub none (.t 157) (.t 158)⟩, ⟨(some 4), none, .move (.t 159)⟩])
            .ret)) .skip)))
          (.line [⟨(some 125), none, .move (.t 9)⟩, ⟨(some 126), none, .bin .add none (.t 125) (.c (.int .i64 1))⟩, ⟨(some 9), none, .move (.t 126)⟩]))))))))
      (.seq (.line [⟨(some 4), none, .move (.c (.int .i64 (-1)))⟩])
      .ret))))))))))))⟩
/-- captioner/captionerref08.runes -/
def g45 : GFun := ⟨16, [.tmp 2],
 (.seq (.line [⟨(some 2), none, .move (.c (.slice none 0 0))⟩])
 (.seq (.line [⟨(some 3), none, .move (.c (.slice none 0 0))⟩])
 (.seq (.seq (.line [⟨(some 6), none, .move (.t 0)⟩, ⟨(some 7), none, .rng (.t 6)⟩])
 (.block 0 (.loop (.seq (.line [⟨(some 8), none, .next (.t 7)⟩, ⟨(some 9), none, .ext (.t 8) 0⟩])
   (.seq (.cond (.t 9) .skip (.exit 0))
   (.block 1 (.seq (.line [⟨(some 10), none, .ext (.t 8) 2⟩, ⟨(some 5), none, .move (.t 10)⟩])
    (.line [⟨(some 11), none, .move (.t 3)⟩, ⟨(some 12), none, .move (.t 5)⟩, ⟨(some 13), none, .buildSl 1 1 [(.int .i32 0)] [(0, 1, (.t 12))]⟩, ⟨(some 14), none, .app 1 4 1 (.t 11) (.t 13)⟩, ⟨(some 3), none, .move (.t 14)⟩]))))))))
 (.seq (.line [⟨(some 15), none, .move (.t 3)⟩, ⟨(some 2), none, .move (.t 15)⟩])
 .ret))))⟩

/-- unicode/utf8.AppendRune -/
def g47 : GFun := ⟨16, [.tmp 4],
 (.seq (.line [⟨(some 4), none, .move (.c (.slice none 0 0))⟩])
 (.seq (.seq (.line [⟨(some 5), none, .move (.t 1)⟩, ⟨(some 6), none, .conv (.int .u32) (.t 5)⟩, ⟨(some 7), none, .bin .leq none (.t 6) (.c (.int .u32 127))⟩])
 (.cond (.t 7) (.seq (.line [⟨(some 8), none, .move (.t 0)⟩, ⟨(some 9), none, .move (.t 1)⟩, ⟨(some 10), none, .conv (.int .u8) (.t 9)⟩, ⟨(some 11), none, .buildSl 257 1 [(.int .u8 0)] [(0, 1, (.t 10))]⟩, ⟨(some 12), none, .app 1 1 257 (.t 8) (.t 11)⟩, ⟨(some 4), none, .move (.t 12)⟩])
  .ret) .skip))
 (.seq (.line [⟨(some 13), none, .move (.t 0)⟩, ⟨(some 14), none, .move (.t 1)⟩, ⟨(some 15), none, .call (.c (.func (.func 54) #[] #[])) [(.t 13), (.t 14)]⟩, ⟨(some 4), none, .move (.t 15)⟩])
 .ret)))⟩

/-- strings.IndexByte -/
def g49 : GFun := ⟨8, [.tmp 4],
 (.seq (.line [⟨(some 4), none, .move (.c (.int .i64 0))⟩])
 (.seq (.line [⟨(some 5), none, .move (.t 0)⟩, ⟨(some 6), none, .move (.t 1)⟩, ⟨(some 7), none, .call (.c (.func (.func 55) #[] #[])) [(.t 5), (.t 6)]⟩, ⟨(some 4), none, .move (.t 7)⟩])
 .ret))⟩
/-- unicode/utf8.ValidRune -/
def g50 : GFun := ⟨17, [.tmp 2],
 (.seq (.line [⟨(some 2), none, .move (.c (.bool false))⟩])
 (.seq (.block 0 (.seq (.line [⟨(some 4), none, .move (.t 0)⟩, ⟨(some 5), none, .bin .leq none (.c (.int .i32 0)) (.t 4)⟩, ⟨(some 6), none, .move (.t 5)⟩, ⟨(some 7), (some (6, true)), .move (.t 0)⟩, ⟨(some 8), (some (6, true)), .bin .lss none (.t 7) (.c (.int .i32 55296))⟩, ⟨(some 9), none, .pick (.t 6) (.t 8) (.c (.bool false))⟩, ⟨(some 3), none, .move (.t 9)⟩])
  (.cond (.t 3) (.seq (.line [⟨(some 2), none, .move (.c (.bool true))⟩])
   .ret) (.seq (.line [⟨(some 11), none, .move (.t 0)⟩, ⟨(some 12), none, .bin .lss none (.c (.int .i32 57343)) (.t 11)⟩, ⟨(some 13), none, .move (.t 12)⟩, ⟨(some 14), (some (13, true)), .move (.t 0)⟩, ⟨(some 15), (some (13, true)), .bin .leq none (.t 14) (.c (.int .i32 1114111))⟩, ⟨(some 16), none, .pick (.t 13) (.t 15) (.c (.bool false))⟩, ⟨(some 10), none, .move (.t 16)⟩])
   (.cond (.t 10) (.seq (.line [⟨(some 2), none, .move (.c (.bool true))⟩])
    .ret) .skip)))))
 (.seq (.line [⟨(some 2), none, .move (.c (.bool false))⟩])
 .ret)))⟩
/-- internal/bytealg.Cutover -/
def g51 : GFun := ⟨6, [.tmp 2],
 (.seq (.line [⟨(some 2), none, .move (.c (.int .i64 0))⟩])
 (.seq (.line [⟨(some 3), none, .move (.t 0)⟩, ⟨(some 4), none, .bin .add none (.t 3) (.c (.int .i64 16))⟩, ⟨(some 5), none, .bin .quo none (.t 4) (.c (.int .i64 8))⟩, ⟨(some 2), none, .move (.t 5)⟩])
 .ret))⟩
/-- unicode/utf8.appendRuneNonASCII -/
def g54 : GFun := ⟨78, [.tmp 4],
 (.seq (.line [⟨(some 4), none, .move (.c (.slice none 0 0))⟩])
 (.seq (.line [⟨(some 6), none, .move (.t 1)⟩, ⟨(some 7), none, .conv (.int .u32) (.t 6)⟩, ⟨(some 5), none, .move (.t 7)⟩])
 (.block 0 (.seq (.line [⟨(some 12), none, .move (.t 5)⟩, ⟨(some 13), none, .bin .leq none (.t 12) (.c (.int .u32 2047))⟩, ⟨(some 11), none, .move (.t 13)⟩])
  (.cond (.t 11) (.seq (.line [⟨(some 14), none, .move (.t 0)⟩, ⟨(some 15), none, .move (.t 1)⟩, ⟨(some 16), none, .bin .shr none (.t 15) (.c (.int .u64 6))⟩, ⟨(some 17), none, .conv (.int .u8) (.t 16)⟩, ⟨(some 18), none, .bin .or none (.c (.int .u8 192)) (.t 17)⟩, ⟨(some 19), none, .move (.t 1)⟩, ⟨(some 20), none, .conv (.int .u8) (.t 19)⟩, ⟨(some 21), none, .bin .and none (.t 20) (.c (.int .u8 63))⟩, ⟨(some 22), none, .bin .or none (.c (.int .u8 128)) (.t 21)⟩, ⟨(some 23), none, .buildSl 257 2 [(.int .u8 0)] [(0, 1, (.t 18)), (1, 1, (.t 22))]⟩, ⟨(some 24), none, .app 1 1 257 (.t 14) (.t 23)⟩, ⟨(some 4), none, .move (.t 24)⟩])
   .ret) (.seq (.seq (.line [⟨(some 26), none, .move (.t 5)⟩, ⟨(some 27), none, .bin .lss none (.t 26) (.c (.int .u32 55296))⟩, ⟨(some 25), none, .move (.t 27)⟩])
   (.cond (.t 25) .skip (.line [⟨(some 28), none, .move (.t 5)⟩, ⟨(some 29), none, .bin .lss none (.c (.int .u32 57343)) (.t 28)⟩, ⟨(some 30), none, .move (.t 29)⟩, ⟨(some 31), (some (30, true)), .move (.t 5)⟩, ⟨(some 32), (some (30, true)), .bin .leq none (.t 31) (.c (.int .u32 65535))⟩, ⟨(some 33), none, .pick (.t 30) (.t 32) (.c (.bool false))⟩, ⟨(some 25), none, .move (.t 33)⟩])))
   (.cond (.t 25) (.seq (.line [⟨(some 34), none, .move (.t 0)⟩, ⟨(some 35), none, .move (.t 1)⟩, ⟨(some 36), none, .bin .shr none (.t 35) (.c (.int .u64 12))⟩, ⟨(some 37), none, .conv (.int .u8) (.t 36)⟩, ⟨(some 38), none, .bin .or none (.c (.int .u8 224)) (.t 37)⟩, ⟨(some 39), none, .move (.t 1)⟩, ⟨(some 40), none, .bin .shr none (.t 39) (.c (.int .u64 6))⟩, ⟨(some 41), none, .conv (.int .u8) (.t 40)⟩, ⟨(some 42), none, .bin .and none (.t 41) (.c (.int .u8 63))⟩, ⟨(some 43), none, .bin .or none (.c (.int .u8 128)) (.t 42)⟩, ⟨(some 44), none, .move (.t 1)⟩, ⟨(some 45), none, .conv (.int .u8) (.t 44)⟩, ⟨(some 46), none, .bin .and none (.t 45) (.c (.int .u8 63))⟩, ⟨(some 47), none, .bin .or none (.c (.int .u8 128)) (.t 46)⟩, ⟨(some 48), none, .buildSl 257 3 [(.int .u8 0)] [(0, 1, (.t 38)), (1, 1, (.t 43)), (2, 1, (.t 47))]⟩, ⟨(some 49), none, .app 1 1 257 (.t 34) (.t 48)⟩, ⟨(some 4), none, .move (.t 49)⟩])
    .ret) (.seq (.line [⟨(some 51), none, .move (.t 5)⟩, ⟨(some 52), none, .bin .gtr none (.t 51) (.c (.int .u32 65535))⟩, ⟨(some 53), none, .move (.t 52)⟩, ⟨(some 54), (some (53, true)), .move (.t 5)⟩, ⟨(some 55), (some (53, true)), .bin .leq none (.t 54) (.c (.int .u32 1114111))⟩, ⟨(some 56), none, .pick (.t 53) (.t 55) (.c (.bool false))⟩, ⟨(some 50), none, .move (.t 56)⟩])
    (.cond (.t 50) (.seq (.line [⟨(some 57), none, .move (.t 0)⟩, ⟨(some 58), none, .move (.t 1)⟩, ⟨(some 59), none, .bin .shr none (.t 58) (.c (.int .u64 18))⟩, ⟨(some 60), none, .conv (.int .u8) (.t 59)⟩, ⟨(some 61), none, .bin .or none (.c (.int .u8 240)) (.t 60)⟩, ⟨(some 62), none, .move (.t 1)⟩, ⟨(some 63), none, .bin .shr none (.t 62) (.c (.int .u64 12))⟩, ⟨(some 64), none, .conv (.int .u8) (.t 63)⟩, ⟨(some 65), none, .bin .and none (.t 64) (.c (.int .u8 63))⟩, ⟨(some 66), none, .bin .or none (.c (.int .u8 128)) (.t 65)⟩, ⟨(some 67), none, .move (.t 1)⟩, ⟨(some 68), none, .bin .shr none (.t 67) (.c (.int .u64 6))⟩, ⟨(some 69), none, .conv (.int .u8) (.t 68)⟩, ⟨(some 70), none, .bin .and none (.t 69) (.c (.int .u8 63))⟩, ⟨(some 71), none, .bin .or none (.c (.int .u8 128)) (.t 70)⟩, ⟨(some 72), none, .move (.t 1)⟩, ⟨(some 73), none, .conv (.int .u8) (.t 72)⟩, ⟨(some 74), none, .bin .and none (.t 73) (.c (.int .u8 63))⟩, ⟨(some 75), none, .bin .or none (.c (.int .u8 128)) (.t 74)⟩, ⟨(some 76), none, .buildSl 257 4 [(.int .u8 0)] [(0, 1, (.t 61)), (1, 1, (.t 66)), (2, 1, (.t 71)), (3, 1, (.t 75))]⟩, ⟨(some 77), none, .app 1 1 257 (.t 57) (.t 76)⟩, ⟨(some 4), none, .move (.t 77)⟩])
     .ret) (.seq (.line [⟨(some 8), none, .move (.t 0)⟩, ⟨(some 9), none, .buildSl 257 3 [(.int .u8 0)] [(0, 1, (.c (.int .u8 239))), (1, 1, (.c (.int .u8 191))), (2, 1, (.c (.int .u8 189)))]⟩, ⟨(some 10), none, .app 1 1 257 (.t 8) (.t 9)⟩, ⟨(some 4), none, .move (.t 10)⟩])
     .ret))))))))))⟩


def G : FuncId → Option GEnt
  | 3 => some (.fn g3)
  | 4 => some (.fn g4)
  | 5 => some (.fn g5)
  | 6 => some (.fn g6)
  | 7 => some (.fn g7)
  | 8 => some (.fn g8)
  | 9 => some (.fn g9)
  | 10 => some (.pure g10)
  | 11 => some (.pure g11)
  | 12 => some (.pure g12)
  | 13 => some (.fn g13)
  | 14 => some (.fn g14)
  | 15 => some (.fn g15)
  | 16 => some (.fn g16)
  | 17 => some (.fn g17)
  | 18 => some (.fn g18)
  | 19 => some (.fn g19)
  | 20 => some (.pure g20)
  | 21 => some (.pure g21)
  | 22 => some (.fn g22)
  | 23 => some (.fn g23)
  | 24 => some (.fn g24)
  | 25 => some (.pure g25)
  | 26 => some (.pure g26)
  | 27 => some (.pure g27)
  | 28 => some (.pure g28)
  | 29 => some (.pure g29)
  | 30 => some (.pure g30)
  | 31 => some (.pure g31)
  | 32 => some (.pure g32)
  | 33 => some (.pure g33)
  | 34 => some (.pure g34)
  | 35 => some (.pure g35)
  | 36 => some (.fn g36)
  | 37 => some (.pure g37)
  | 38 => some (.fn g38)
  | 40 => some (.fn g40)
  | 42 => some (.pure g42)
  | 43 => some (.pure g43)
  | 44 => some (.pure g44)
  | 45 => some (.fn g45)
  | 47 => some (.fn g47)
  | 49 => some (.pure g49)
  | 50 => some (.pure g50)
  | 51 => some (.pure g51)
  | 54 => some (.fn g54)
  | 46 => some (.ext runCC)
  | 39 => some (.ext runStr)
  | 41 => some (.lib runValid)
  | 55 => some (.lib runIndexByte)
  | _ => none
end Go.Gh
