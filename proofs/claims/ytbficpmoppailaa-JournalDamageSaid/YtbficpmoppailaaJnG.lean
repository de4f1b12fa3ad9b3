import Derived.Test.YtbficpmoppailaaK4
import Derived.KernelRfl
namespace Go.Gh
open Go.RowKit
set_option maxRecDepth 100000
-- 0 main.main: no text
-- 1 gosem.cut: no text
/-- gosem.cut.init -/
def g2 : GFun := ⟨1, [],
 (.line [⟨(some 0), none, .call (.c (.func (.func 1) #[] #[])) []⟩])⟩
/-- captioner/captionerlaw55.JournalKeeps -/
def g3 : GFun := ⟨146, [.tmp 4],
 (.seq (.line [⟨(some 4), none, .move (.c (.bool false))⟩])
 (.seq (.seq (.line [⟨(some 23), none, .call (.c (.func (.func 10) #[] #[])) []⟩, ⟨(some 24), none, .un .not (.t 23)⟩])
 (.cond (.t 24) (.seq (.line [⟨(some 4), none, .move (.c (.bool false))⟩])
  .ret) .skip))
 (.seq (.line [⟨(some 26), none, .move (.t 0)⟩, ⟨(some 27), none, .conv (.int .i64) (.t 26)⟩, ⟨(some 28), none, .bin .rem none (.t 27) (.c (.int .i64 1000))⟩, ⟨(some 29), none, .bin .add none (.c (.int .i64 64)) (.t 28)⟩, ⟨(some 30), none, .call (.c (.func (.func 11) #[] #[])) [(.t 29)]⟩, ⟨(some 25), none, .move (.t 30)⟩, ⟨(some 31), none, .ext (.t 25) 0⟩, ⟨(some 32), none, .ext (.t 25) 1⟩, ⟨(some 5), none, .move (.t 31)⟩, ⟨(some 6), none, .move (.t 32)⟩])
 (.seq (.line [⟨(some 34), none, .move (.t 5)⟩, ⟨(some 35), none, .call (.c (.func (.func 12) #[] #[])) [(.t 34)]⟩, ⟨(some 33), none, .move (.t 35)⟩, ⟨(some 36), none, .ext (.t 33) 0⟩, ⟨(some 37), none, .ext (.t 33) 1⟩, ⟨(some 38), none, .ext (.t 33) 2⟩, ⟨(some 7), none, .move (.t 36)⟩, ⟨(some 8), none, .move (.t 37)⟩, ⟨(some 9), none, .move (.t 38)⟩])
 (.seq (.seq (.line [⟨(some 39), none, .move (.t 9)⟩, ⟨(some 40), none, .bin .neq (some .int) (.t 39) (.c (.int .i64 0))⟩])
 (.cond (.t 40) (.seq (.line [⟨(some 4), none, .move (.c (.bool false))⟩])
  .ret) .skip))
 (.seq (.line [⟨(some 10), none, .move (.c (.slice none 0 0))⟩])
 (.seq (.line [⟨(some 11), none, .move (.c (.int .i64 1))⟩])
 (.seq (.seq (.line [⟨(some 12), none, .move (.c (.int .i64 0))⟩])
 (.block 0 (.loop (.seq (.seq (.line [⟨(some 41), none, .move (.t 12)⟩, ⟨(some 42), none, .move (.t 1)⟩, ⟨(some 43), none, .len false (.t 42)⟩, ⟨(some 44), none, .bin .lss none (.t 41) (.t 43)⟩, ⟨(some 45), none, .move (.t 44)⟩, ⟨(some 46), (some (45, true)), .move (.t 12)⟩, ⟨(some 47), (some (45, true)), .bin .lss none (.t 46) (.c (.int .i64 30))⟩, ⟨(some 48), none, .pick (.t 45) (.t 47) (.c (.bool false))⟩])
   (.cond (.t 48) .skip (.exit 0)))
   (.seq (.block 1 (.seq (.line [⟨(some 51), none, .move (.t 1)⟩, ⟨(some 52), none, .move (.t 12)⟩, ⟨(some 53), none, .ia none 2 (.t 51) (.t 52)⟩, ⟨(some 54), none, .fa 1 (.t 53)⟩, ⟨(some 55), none, .load none (.t 54)⟩, ⟨(some 56), none, .call (.c (.func (.func 13) #[] #[])) [(.t 55)]⟩, ⟨(some 13), none, .move (.t 56)⟩])
    (.seq (.seq (.line [⟨(some 57), none, .move (.t 1)⟩, ⟨(some 58), none, .move (.t 12)⟩, ⟨(some 59), none, .ia none 2 (.t 57) (.t 58)⟩, ⟨(some 60), none, .fa 0 (.t 59)⟩, ⟨(some 61), none, .load none (.t 60)⟩])
    (.cond (.t 61) (.seq (.line [⟨(some 63), none, .move (.t 7)⟩, ⟨(some 64), none, .move (.t 13)⟩, ⟨(some 65), none, .call (.c (.func (.func 14) #[] #[])) [(.t 63), (.t 64)]⟩, ⟨(some 62), none, .move (.t 65)⟩, ⟨(some 66), none, .ext (.t 62) 0⟩, ⟨(some 67), none, .ext (.t 62) 1⟩, ⟨(some 14), none, .move (.t 66)⟩, ⟨(some 15), none, .move (.t 67)⟩])
     (.seq (.seq (.line [⟨(some 68), none, .move (.t 15)⟩, ⟨(some 69), none, .bin .eql (some .int) (.t 68) (.c (.int .i64 0))⟩, ⟨(some 70), none, .move (.t 69)⟩, ⟨(some 71), (some (70, true)), .move (.t 14)⟩, ⟨(some 72), (some (70, true)), .move (.t 11)⟩, ⟨(some 73), (some (70, true)), .bin .eql (some .int) (.t 71) (.t 72)⟩, ⟨(some 74), none, .pick (.t 70) (.t 73) (.c (.bool false))⟩])
     (.cond (.t 74) (.seq (.line [⟨(some 75), none, .move (.t 14)⟩, ⟨(some 76), none, .move (.t 13)⟩, ⟨(some 77), none, .build [(.int .i64 0), (.bool false), (.slice none 0 0)] [(0, 1, (.t 75)), (1, 1, (.c (.bool true))), (2, 1, (.t 76))]⟩, ⟨(some 78), none, .buildSl 3 1 [(.int .i64 0), (.bool false), (.slice none 0 0)] [(0, 3, (.t 77))]⟩, ⟨(some 10), none, .move (.t 78)⟩])
      (.line [⟨(some 79), none, .move (.t 11)⟩, ⟨(some 80), none, .bin .add none (.t 79) (.c (.int .i64 1))⟩, ⟨(some 11), none, .move (.t 80)⟩])) (.seq (.line [⟨(some 81), none, .move (.t 15)⟩, ⟨(some 82), none, .bin .neq (some .int) (.t 81) (.c (.int .i64 20))⟩, ⟨(some 83), none, .move (.t 82)⟩, ⟨(some 84), (some (83, false)), .move (.t 14)⟩, ⟨(some 85), (some (83, false)), .bin .neq (some .int) (.t 84) (.c (.int .i64 0))⟩, ⟨(some 86), none, .pick (.t 83) (.c (.bool true)) (.t 85)⟩])
      (.cond (.t 86) (.seq (.line [⟨(some 4), none, .move (.c (.bool false))⟩])
       .ret) .skip))))
     (.exit 1))) .skip))
    (.seq (.line [⟨(some 87), none, .move (.t 13)⟩, ⟨(some 88), none, .len false (.t 87)⟩, ⟨(some 89), none, .move (.t 7)⟩, ⟨(some 90), none, .call (.c (.func (.func 15) #[] #[])) [(.t 89)]⟩, ⟨(some 91), none, .bin .leq none (.t 88) (.t 90)⟩, ⟨(some 16), none, .move (.t 91)⟩])
    (.seq (.line [⟨(some 93), none, .move (.t 7)⟩, ⟨(some 94), none, .move (.t 13)⟩, ⟨(some 95), none, .call (.c (.func (.func 16) #[] #[])) [(.t 93), (.t 94)]⟩, ⟨(some 92), none, .move (.t 95)⟩, ⟨(some 96), none, .ext (.t 92) 0⟩, ⟨(some 97), none, .ext (.t 92) 1⟩, ⟨(some 17), none, .move (.t 96)⟩, ⟨(some 18), none, .move (.t 97)⟩])
    (.seq (.seq (.line [⟨(some 98), none, .move (.t 18)⟩, ⟨(some 99), none, .bin .eql (some .int) (.t 98) (.c (.int .i64 0))⟩, ⟨(some 100), none, .move (.t 16)⟩, ⟨(some 101), none, .bin .neq (some .bool) (.t 99) (.t 100)⟩])
    (.cond (.t 101) (.seq (.line [⟨(some 4), none, .move (.c (.bool false))⟩])
     .ret) .skip))
    (.seq (.line [⟨(some 102), none, .move (.t 16)⟩])
    (.cond (.t 102) (.seq (.seq (.line [⟨(some 103), none, .move (.t 17)⟩, ⟨(some 104), none, .move (.t 11)⟩, ⟨(some 105), none, .bin .neq (some .int) (.t 103) (.t 104)⟩])
     (.cond (.t 105) (.seq (.line [⟨(some 4), none, .move (.c (.bool false))⟩])
      .ret) .skip))
     (.seq (.line [⟨(some 106), none, .move (.t 10)⟩, ⟨(some 107), none, .move (.t 17)⟩, ⟨(some 108), none, .move (.t 13)⟩, ⟨(some 109), none, .build [(.int .i64 0), (.bool false), (.slice none 0 0)] [(0, 1, (.t 107)), (2, 1, (.t 108))]⟩, ⟨(some 110), none, .buildSl 3 1 [(.int .i64 0), (.bool false), (.slice none 0 0)] [(0, 3, (.t 109))]⟩, ⟨(some 111), none, .app 3 40 3 (.t 106) (.t 110)⟩, ⟨(some 10), none, .move (.t 111)⟩])
     (.line [⟨(some 112), none, .move (.t 11)⟩, ⟨(some 113), none, .bin .add none (.t 112) (.c (.int .i64 1))⟩, ⟨(some 11), none, .move (.t 113)⟩]))) .skip))))))))
   (.line [⟨(some 49), none, .move (.t 12)⟩, ⟨(some 50), none, .bin .add none (.t 49) (.c (.int .i64 1))⟩, ⟨(some 12), none, .move (.t 50)⟩]))))))
 (.seq (.line [⟨(some 114), none, .move (.t 7)⟩, ⟨(some 115), none, .call (.c (.func (.func 15) #[] #[])) [(.t 114)]⟩, ⟨(some 19), none, .move (.t 115)⟩])
 (.seq (.line [⟨(some 117), none, .move (.t 5)⟩, ⟨(some 118), none, .call (.c (.func (.func 12) #[] #[])) [(.t 117)]⟩, ⟨(some 116), none, .move (.t 118)⟩, ⟨(some 119), none, .ext (.t 116) 0⟩, ⟨(some 120), none, .ext (.t 116) 1⟩, ⟨(some 121), none, .ext (.t 116) 2⟩, ⟨(some 20), none, .move (.t 119)⟩, ⟨(some 21), none, .move (.t 120)⟩, ⟨(some 22), none, .move (.t 121)⟩])
 (.seq (.line [⟨(some 122), none, .move (.t 22)⟩, ⟨(some 123), none, .bin .eql (some .int) (.t 122) (.c (.int .i64 0))⟩, ⟨(some 124), none, .move (.t 123)⟩, ⟨(some 125), (some (124, true)), .move (.t 21)⟩, ⟨(some 126), (some (124, true)), .move (.t 10)⟩, ⟨(some 127), (some (124, true)), .call (.c (.func (.func 17) #[] #[])) [(.t 125), (.t 126)]⟩, ⟨(some 128), none, .pick (.t 124) (.t 127) (.c (.bool false))⟩, ⟨(some 129), none, .move (.t 128)⟩, ⟨(some 130), (some (129, true)), .move (.t 20)⟩, ⟨(some 131), (some (129, true)), .call (.c (.func (.func 18) #[] #[])) [(.t 130)]⟩, ⟨(some 132), (some (129, true)), .move (.t 11)⟩, ⟨(some 133), (some (129, true)), .bin .eql (some .int) (.t 131) (.t 132)⟩, ⟨(some 134), none, .pick (.t 129) (.t 133) (.c (.bool false))⟩, ⟨(some 135), none, .move (.t 134)⟩, ⟨(some 136), (some (135, true)), .move (.t 20)⟩, ⟨(some 137), (some (135, true)), .call (.c (.func (.func 15) #[] #[])) [(.t 136)]⟩, ⟨(some 138), (some (135, true)), .move (.t 19)⟩, ⟨(some 139), (some (135, true)), .bin .eql (some .int) (.t 137) (.t 138)⟩, ⟨(some 140), none, .pick (.t 135) (.t 139) (.c (.bool false))⟩, ⟨(some 141), none, .move (.t 140)⟩, ⟨(some 142), (some (141, true)), .move (.t 20)⟩, ⟨(some 143), (some (141, true)), .call (.c (.func (.func 19) #[] #[])) [(.t 142)]⟩, ⟨(some 144), (some (141, true)), .un .not (.t 143)⟩, ⟨(some 145), none, .pick (.t 141) (.t 144) (.c (.bool false))⟩, ⟨(some 4), none, .move (.t 145)⟩])
 .ret)))))))))))⟩
/-- captioner/captionerlaw55.JournalPower -/
def g4 : GFun := ⟨159, [.tmp 6],
 (.seq (.line [⟨(some 6), none, .move (.c (.bool false))⟩])
 (.seq (.seq (.line [⟨(some 23), none, .call (.c (.func (.func 10) #[] #[])) []⟩, ⟨(some 24), none, .un .not (.t 23)⟩])
 (.cond (.t 24) (.seq (.line [⟨(some 6), none, .move (.c (.bool false))⟩])
  .ret) .skip))
 (.seq (.line [⟨(some 26), none, .move (.t 0)⟩, ⟨(some 27), none, .conv (.int .i64) (.t 26)⟩, ⟨(some 28), none, .bin .rem none (.t 27) (.c (.int .i64 600))⟩, ⟨(some 29), none, .bin .add none (.c (.int .i64 64)) (.t 28)⟩, ⟨(some 30), none, .call (.c (.func (.func 11) #[] #[])) [(.t 29)]⟩, ⟨(some 25), none, .move (.t 30)⟩, ⟨(some 31), none, .ext (.t 25) 0⟩, ⟨(some 32), none, .ext (.t 25) 1⟩, ⟨(some 7), none, .move (.t 31)⟩, ⟨(some 8), none, .move (.t 32)⟩])
 (.seq (.line [⟨(some 34), none, .move (.t 7)⟩, ⟨(some 35), none, .call (.c (.func (.func 12) #[] #[])) [(.t 34)]⟩, ⟨(some 33), none, .move (.t 35)⟩, ⟨(some 36), none, .ext (.t 33) 0⟩, ⟨(some 37), none, .ext (.t 33) 1⟩, ⟨(some 38), none, .ext (.t 33) 2⟩, ⟨(some 9), none, .move (.t 36)⟩, ⟨(some 10), none, .move (.t 37)⟩, ⟨(some 11), none, .move (.t 38)⟩])
 (.seq (.seq (.line [⟨(some 39), none, .move (.t 11)⟩, ⟨(some 40), none, .bin .neq (some .int) (.t 39) (.c (.int .i64 0))⟩, ⟨(some 41), none, .move (.t 40)⟩, ⟨(some 42), (some (41, false)), .move (.t 1)⟩, ⟨(some 43), (some (41, false)), .len false (.t 42)⟩, ⟨(some 44), (some (41, false)), .bin .eql (some .int) (.t 43) (.c (.int .i64 0))⟩, ⟨(some 45), none, .pick (.t 41) (.c (.bool true)) (.t 44)⟩])
 (.cond (.t 45) (.seq (.line [⟨(some 46), none, .move (.t 11)⟩, ⟨(some 47), none, .bin .eql (some .int) (.t 46) (.c (.int .i64 0))⟩, ⟨(some 6), none, .move (.t 47)⟩])
  .ret) .skip))
 (.seq (.line [⟨(some 48), none, .move (.t 1)⟩, ⟨(some 49), none, .move (.t 1)⟩, ⟨(some 50), none, .len false (.t 49)⟩, ⟨(some 51), none, .min (.t 50) [(.c (.int .i64 16))]⟩, ⟨(some 52), none, .slice (.sl 2) (.t 48) none (some (.t 51)) none⟩, ⟨(some 1), none, .move (.t 52)⟩])
 (.seq (.seq (.line [⟨(some 53), none, .move (.t 1)⟩, ⟨(some 54), none, .move (.t 1)⟩, ⟨(some 55), none, .len false (.t 54)⟩, ⟨(some 56), none, .bin .sub none (.t 55) (.c (.int .i64 1))⟩, ⟨(some 57), none, .slice (.sl 2) (.t 53) none (some (.t 56)) none⟩, ⟨(some 58), none, .len false (.t 57)⟩, ⟨(some 59), none, .move (.c (.int .i64 0))⟩])
 (.block 0 (.loop (.seq (.line [⟨(some 60), none, .bin .lss none (.t 59) (.t 58)⟩])
   (.seq (.cond (.t 60) .skip (.exit 0))
   (.seq (.block 1 (.seq (.line [⟨(some 61), none, .ia none 2 (.t 57) (.t 59)⟩, ⟨(some 62), none, .load (some 2) (.t 61)⟩, ⟨(some 13), none, .alloc [(.bool false), (.slice none 0 0)]⟩, ⟨none, none, .store (some 2) (.t 13) (.t 62)⟩])
    (.seq (.line [⟨(some 63), none, .fa 0 (.t 13)⟩, ⟨(some 64), none, .load none (.t 63)⟩])
    (.cond (.t 64) (.line [⟨(some 65), none, .move (.t 9)⟩, ⟨(some 66), none, .fa 1 (.t 13)⟩, ⟨(some 67), none, .load none (.t 66)⟩, ⟨(some 68), none, .call (.c (.func (.func 13) #[] #[])) [(.t 67)]⟩, ⟨(some 69), none, .call (.c (.func (.func 14) #[] #[])) [(.t 65), (.t 68)]⟩]) (.line [⟨(some 70), none, .move (.t 9)⟩, ⟨(some 71), none, .fa 1 (.t 13)⟩, ⟨(some 72), none, .load none (.t 71)⟩, ⟨(some 73), none, .call (.c (.func (.func 13) #[] #[])) [(.t 72)]⟩, ⟨(some 74), none, .call (.c (.func (.func 16) #[] #[])) [(.t 70), (.t 73)]⟩])))))
   (.line [⟨(some 75), none, .bin .add none (.t 59) (.c (.int .i64 1))⟩, ⟨(some 59), none, .move (.t 75)⟩])))))))
 (.seq (.line [⟨(some 77), none, .move (.t 7)⟩, ⟨(some 78), none, .call (.c (.func (.func 12) #[] #[])) [(.t 77)]⟩, ⟨(some 76), none, .move (.t 78)⟩, ⟨(some 79), none, .ext (.t 76) 0⟩, ⟨(some 80), none, .ext (.t 76) 1⟩, ⟨(some 81), none, .ext (.t 76) 2⟩, ⟨(some 9), none, .move (.t 79)⟩, ⟨(some 14), none, .move (.t 80)⟩, ⟨(some 15), none, .move (.t 81)⟩])
 (.seq (.seq (.line [⟨(some 82), none, .move (.t 15)⟩, ⟨(some 83), none, .bin .neq (some .int) (.t 82) (.c (.int .i64 0))⟩])
 (.cond (.t 83) (.seq (.line [⟨(some 6), none, .move (.c (.bool false))⟩])
  .ret) .skip))
 (.seq (.line [⟨(some 84), none, .move (.t 1)⟩, ⟨(some 85), none, .move (.t 1)⟩, ⟨(some 86), none, .len false (.t 85)⟩, ⟨(some 87), none, .bin .sub none (.t 86) (.c (.int .i64 1))⟩, ⟨(some 88), none, .ia none 2 (.t 84) (.t 87)⟩, ⟨(some 89), none, .load (some 2) (.t 88)⟩, ⟨(some 16), none, .alloc [(.bool false), (.slice none 0 0)]⟩, ⟨none, none, .store (some 2) (.t 16) (.t 89)⟩])
 (.seq (.line [⟨(some 90), none, .fa 1 (.t 16)⟩, ⟨(some 91), none, .load none (.t 90)⟩, ⟨(some 92), none, .call (.c (.func (.func 13) #[] #[])) [(.t 91)]⟩, ⟨(some 17), none, .move (.t 92)⟩])
 (.seq (.line [⟨(some 93), none, .move (.t 7)⟩, ⟨(some 94), none, .move (.t 2)⟩, ⟨(some 95), none, .conv (.int .i64) (.t 94)⟩, ⟨(some 96), none, .bin .rem none (.t 95) (.c (.int .i64 100))⟩, ⟨(some 97), none, .call (.c (.func (.func 20) #[] #[])) [(.t 93), (.t 96)]⟩])
 (.seq (.line [⟨(some 18), none, .move (.c (.int .i64 0))⟩])
 (.seq (.line [⟨(some 19), none, .move (.c (.int .i64 0))⟩])
 (.seq (.seq (.line [⟨(some 98), none, .fa 0 (.t 16)⟩, ⟨(some 99), none, .load none (.t 98)⟩])
 (.cond (.t 99) (.line [⟨(some 101), none, .move (.t 9)⟩, ⟨(some 102), none, .move (.t 17)⟩, ⟨(some 103), none, .call (.c (.func (.func 14) #[] #[])) [(.t 101), (.t 102)]⟩, ⟨(some 100), none, .move (.t 103)⟩, ⟨(some 104), none, .ext (.t 100) 0⟩, ⟨(some 105), none, .ext (.t 100) 1⟩, ⟨(some 18), none, .move (.t 104)⟩, ⟨(some 19), none, .move (.t 105)⟩]) (.line [⟨(some 107), none, .move (.t 9)⟩, ⟨(some 108), none, .move (.t 17)⟩, ⟨(some 109), none, .call (.c (.func (.func 16) #[] #[])) [(.t 107), (.t 108)]⟩, ⟨(some 106), none, .move (.t 109)⟩, ⟨(some 110), none, .ext (.t 106) 0⟩, ⟨(some 111), none, .ext (.t 106) 1⟩, ⟨(some 18), none, .move (.t 110)⟩, ⟨(some 19), none, .move (.t 111)⟩])))
 (.seq (.line [⟨(some 112), none, .move (.t 7)⟩, ⟨(some 113), none, .call (.c (.func (.func 21) #[] #[])) [(.t 112)]⟩])
 (.seq (.line [⟨(some 115), none, .move (.t 7)⟩, ⟨(some 116), none, .call (.c (.func (.func 12) #[] #[])) [(.t 115)]⟩, ⟨(some 114), none, .move (.t 116)⟩, ⟨(some 117), none, .ext (.t 114) 0⟩, ⟨(some 118), none, .ext (.t 114) 1⟩, ⟨(some 119), none, .ext (.t 114) 2⟩, ⟨(some 20), none, .move (.t 117)⟩, ⟨(some 21), none, .move (.t 118)⟩, ⟨(some 22), none, .move (.t 119)⟩])
 (.seq (.seq (.line [⟨(some 120), none, .move (.t 22)⟩, ⟨(some 121), none, .bin .neq (some .int) (.t 120) (.c (.int .i64 0))⟩])
 (.cond (.t 121) (.seq (.line [⟨(some 6), none, .move (.c (.bool false))⟩])
  .ret) .skip))
 (.seq (.block 2 (.seq (.line [⟨(some 123), none, .move (.t 19)⟩, ⟨(some 124), none, .bin .neq (some .int) (.t 123) (.c (.int .i64 0))⟩, ⟨(some 122), none, .move (.t 124)⟩])
  (.cond (.t 122) (.seq (.line [⟨(some 125), none, .move (.t 18)⟩, ⟨(some 126), none, .bin .eql (some .int) (.t 125) (.c (.int .i64 0))⟩, ⟨(some 127), none, .move (.t 126)⟩, ⟨(some 128), (some (127, true)), .move (.t 19)⟩, ⟨(some 129), (some (127, true)), .bin .eql (some .int) (.t 128) (.c (.int .i64 20))⟩, ⟨(some 130), (some (127, true)), .move (.t 129)⟩, ⟨(some 131), (some (130, false)), .move (.t 19)⟩, ⟨(some 132), (some (130, false)), .bin .eql (some .int) (.t 131) (.c (.int .i64 21))⟩, ⟨(some 133), (some (127, true)), .pick (.t 130) (.c (.bool true)) (.t 132)⟩, ⟨(some 134), none, .pick (.t 127) (.t 133) (.c (.bool false))⟩, ⟨(some 135), none, .move (.t 134)⟩, ⟨(some 136), (some (135, true)), .move (.t 21)⟩, ⟨(some 137), (some (135, true)), .move (.t 14)⟩, ⟨(some 138), (some (135, true)), .call (.c (.func (.func 17) #[] #[])) [(.t 136), (.t 137)]⟩, ⟨(some 139), none, .pick (.t 135) (.t 138) (.c (.bool false))⟩, ⟨(some 6), none, .move (.t 139)⟩])
   .ret) (.seq (.line [⟨(some 141), none, .fa 0 (.t 16)⟩, ⟨(some 142), none, .load none (.t 141)⟩, ⟨(some 140), none, .move (.t 142)⟩])
   (.cond (.t 140) (.seq (.line [⟨(some 143), none, .move (.t 21)⟩, ⟨(some 144), none, .move (.t 18)⟩, ⟨(some 145), none, .move (.t 17)⟩, ⟨(some 146), none, .build [(.int .i64 0), (.bool false), (.slice none 0 0)] [(0, 1, (.t 144)), (1, 1, (.c (.bool true))), (2, 1, (.t 145))]⟩, ⟨(some 147), none, .buildSl 3 1 [(.int .i64 0), (.bool false), (.slice none 0 0)] [(0, 3, (.t 146))]⟩, ⟨(some 148), none, .call (.c (.func (.func 17) #[] #[])) [(.t 143), (.t 147)]⟩, ⟨(some 6), none, .move (.t 148)⟩])
    .ret) .skip)))))
 (.seq (.line [⟨(some 149), none, .move (.t 21)⟩, ⟨(some 150), none, .buildSl 3 0 [(.int .i64 0), (.bool false), (.slice none 0 0)] []⟩, ⟨(some 151), none, .move (.t 14)⟩, ⟨(some 152), none, .app 3 40 3 (.t 150) (.t 151)⟩, ⟨(some 153), none, .move (.t 18)⟩, ⟨(some 154), none, .move (.t 17)⟩, ⟨(some 155), none, .build [(.int .i64 0), (.bool false), (.slice none 0 0)] [(0, 1, (.t 153)), (2, 1, (.t 154))]⟩, ⟨(some 156), none, .buildSl 3 1 [(.int .i64 0), (.bool false), (.slice none 0 0)] [(0, 3, (.t 155))]⟩, ⟨(some 157), none, .app 3 40 3 (.t 152) (.t 156)⟩, ⟨(some 158), none, .call (.c (.func (.func 17) #[] #[])) [(.t 149), (.t 157)]⟩, ⟨(some 6), none, .move (.t 158)⟩])
 .ret))))))))))))))))))))⟩
/-- captioner/captionerlaw55.JournalMakes -/
def g5 : GFun := ⟨54, [.tmp 2],
 (.seq (.line [⟨(some 2), none, .move (.c (.bool false))⟩])
 (.seq (.seq (.line [⟨(some 7), none, .call (.c (.func (.func 10) #[] #[])) []⟩, ⟨(some 8), none, .un .not (.t 7)⟩])
 (.cond (.t 8) (.seq (.line [⟨(some 2), none, .move (.c (.bool false))⟩])
  .ret) .skip))
 (.seq (.seq (.line [⟨(some 9), none, .move (.t 0)⟩, ⟨(some 10), none, .bin .gtr none (.t 9) (.c (.int .i64 4096))⟩, ⟨(some 11), none, .move (.t 10)⟩, ⟨(some 12), (some (11, true)), .move (.t 0)⟩, ⟨(some 13), (some (11, true)), .bin .leq none (.t 12) (.c (.int .i64 8388608))⟩, ⟨(some 14), none, .pick (.t 11) (.t 13) (.c (.bool false))⟩])
 (.cond (.t 14) (.line [⟨(some 15), none, .move (.t 0)⟩, ⟨(some 16), none, .bin .rem none (.t 15) (.c (.int .i64 64))⟩, ⟨(some 17), none, .bin .add none (.c (.int .i64 4096)) (.t 16)⟩, ⟨(some 0), none, .move (.t 17)⟩]) .skip))
 (.seq (.line [⟨(some 19), none, .move (.t 0)⟩, ⟨(some 20), none, .call (.c (.func (.func 11) #[] #[])) [(.t 19)]⟩, ⟨(some 18), none, .move (.t 20)⟩, ⟨(some 21), none, .ext (.t 18) 0⟩, ⟨(some 22), none, .ext (.t 18) 1⟩, ⟨(some 3), none, .move (.t 21)⟩, ⟨(some 4), none, .move (.t 22)⟩])
 (.seq (.line [⟨(some 24), none, .move (.t 0)⟩, ⟨(some 25), none, .call (.c (.func (.func 22) #[] #[])) [(.t 24)]⟩, ⟨(some 23), none, .move (.t 25)⟩, ⟨(some 26), none, .ext (.t 23) 0⟩, ⟨(some 27), none, .ext (.t 23) 1⟩, ⟨(some 5), none, .alloc [(.int .i64 0), (.slice none 0 0), (.bool false), (.int .i64 0), (.bool false)]⟩, ⟨none, none, .store (some 5) (.t 5) (.t 26)⟩, ⟨(some 6), none, .move (.t 27)⟩])
 (.seq (.any [] [⟨(some 28), none, .move (.t 4)⟩, ⟨(some 29), none, .move (.t 6)⟩, ⟨(some 30), none, .bin .eql (some .int) (.t 28) (.t 29)⟩, ⟨(some 31), none, .move (.t 30)⟩, ⟨(some 32), (some (31, true)), .move (.t 3)⟩, ⟨(some 33), (some (31, true)), .bin .eql (some .ptr) (.t 32) (.c (.pointer none))⟩, ⟨(some 34), (some (31, true)), .move (.t 4)⟩, ⟨(some 35), (some (31, true)), .bin .neq (some .int) (.t 34) (.c (.int .i64 0))⟩, ⟨(some 36), (some (31, true)), .bin .eql (some .bool) (.t 33) (.t 35)⟩, ⟨(some 37), none, .pick (.t 31) (.t 36) (.c (.bool false))⟩, ⟨(some 38), none, .move (.t 37)⟩, ⟨(some 39), (some (38, true)), .move (.t 3)⟩, ⟨(some 40), (some (38, true)), .call (.c (.func (.func 23) #[] #[])) [(.t 39)]⟩, ⟨(some 41), (some (38, true)), .conv .ofBytes (.t 40)⟩, ⟨(some 42), (some (38, true)), .fa 1 (.t 5)⟩, ⟨(some 43), (some (38, true)), .load none (.t 42)⟩, ⟨(some 44), (some (38, true)), .conv .ofBytes (.t 43)⟩, ⟨(some 45), (some (38, true)), .bin .eql (some .str) (.t 41) (.t 44)⟩, ⟨(some 46), none, .pick (.t 38) (.t 45) (.c (.bool false))⟩, ⟨(some 47), none, .move (.t 46)⟩, ⟨(some 48), (some (47, true)), .move (.t 3)⟩, ⟨(some 49), (some (47, true)), .call (.c (.func (.func 24) #[] #[])) [(.t 48)]⟩, ⟨(some 50), (some (47, true)), .fa 0 (.t 5)⟩, ⟨(some 51), (some (47, true)), .load none (.t 50)⟩, ⟨(some 52), (some (47, true)), .bin .eql (some .int) (.t 49) (.t 51)⟩, ⟨(some 53), none, .pick (.t 47) (.t 52) (.c (.bool false))⟩, ⟨(some 2), none, .move (.t 53)⟩] [])
 .ret))))))⟩
/-- captioner/captionerlaw55.JournalDamage -/
def g6 : GFun := ⟨172, [.tmp 6],
 (.seq (.line [⟨(some 6), none, .move (.c (.bool false))⟩])
 (.seq (.seq (.line [⟨(some 29), none, .call (.c (.func (.func 10) #[] #[])) []⟩, ⟨(some 30), none, .un .not (.t 29)⟩])
 (.cond (.t 30) (.seq (.line [⟨(some 6), none, .move (.c (.bool false))⟩])
  .ret) .skip))
 (.seq (.line [⟨(some 32), none, .call (.c (.func (.func 11) #[] #[])) [(.c (.int .i64 400))]⟩, ⟨(some 31), none, .move (.t 32)⟩, ⟨(some 33), none, .ext (.t 31) 0⟩, ⟨(some 34), none, .ext (.t 31) 1⟩, ⟨(some 7), none, .move (.t 33)⟩, ⟨(some 8), none, .move (.t 34)⟩])
 (.seq (.line [⟨(some 36), none, .move (.t 7)⟩, ⟨(some 37), none, .call (.c (.func (.func 12) #[] #[])) [(.t 36)]⟩, ⟨(some 35), none, .move (.t 37)⟩, ⟨(some 38), none, .ext (.t 35) 0⟩, ⟨(some 39), none, .ext (.t 35) 1⟩, ⟨(some 40), none, .ext (.t 35) 2⟩, ⟨(some 9), none, .move (.t 38)⟩, ⟨(some 10), none, .move (.t 39)⟩, ⟨(some 11), none, .move (.t 40)⟩])
 (.seq (.line [⟨(some 12), none, .move (.c (.slice none 0 0))⟩])
 (.seq (.seq (.line [⟨(some 41), none, .move (.t 0)⟩, ⟨(some 42), none, .conv (.int .i64) (.t 41)⟩, ⟨(some 43), none, .bin .rem none (.t 42) (.c (.int .i64 5))⟩, ⟨(some 44), none, .bin .add none (.t 43) (.c (.int .i64 1))⟩, ⟨(some 45), none, .move (.c (.int .i64 0))⟩])
 (.block 0 (.loop (.seq (.line [⟨(some 46), none, .bin .lss none (.t 45) (.t 44)⟩])
   (.seq (.cond (.t 46) .skip (.exit 0))
   (.seq (.block 1 (.seq (.line [⟨(some 47), none, .move (.t 45)⟩, ⟨(some 13), none, .move (.t 47)⟩])
    (.seq (.line [⟨(some 48), none, .move (.t 13)⟩, ⟨(some 49), none, .conv (.int .u8) (.t 48)⟩, ⟨(some 50), none, .buildSl 257 1 [(.int .u8 0)] [(0, 1, (.t 49))]⟩, ⟨(some 51), none, .move (.t 2)⟩, ⟨(some 52), none, .app 1 1 257 (.t 50) (.t 51)⟩, ⟨(some 53), none, .call (.c (.func (.func 13) #[] #[])) [(.t 52)]⟩, ⟨(some 14), none, .move (.t 53)⟩])
    (.seq (.line [⟨(some 55), none, .move (.t 9)⟩, ⟨(some 56), none, .move (.t 14)⟩, ⟨(some 57), none, .call (.c (.func (.func 16) #[] #[])) [(.t 55), (.t 56)]⟩, ⟨(some 54), none, .move (.t 57)⟩, ⟨(some 58), none, .ext (.t 54) 0⟩, ⟨(some 59), none, .ext (.t 54) 1⟩, ⟨(some 15), none, .move (.t 58)⟩, ⟨(some 16), none, .move (.t 59)⟩])
    (.seq (.line [⟨(some 60), none, .move (.t 16)⟩, ⟨(some 61), none, .bin .eql (some .int) (.t 60) (.c (.int .i64 0))⟩])
    (.cond (.t 61) (.line [⟨(some 62), none, .move (.t 12)⟩, ⟨(some 63), none, .move (.t 15)⟩, ⟨(some 64), none, .move (.t 14)⟩, ⟨(some 65), none, .build [(.int .i64 0), (.bool false), (.slice none 0 0)] [(0, 1, (.t 63)), (2, 1, (.t 64))]⟩, ⟨(some 66), none, .buildSl 3 1 [(.int .i64 0), (.bool false), (.slice none 0 0)] [(0, 3, (.t 65))]⟩, ⟨(some 67), none, .app 3 40 3 (.t 62) (.t 66)⟩, ⟨(some 12), none, .move (.t 67)⟩]) .skip))))))
   (.line [⟨(some 68), none, .bin .add none (.t 45) (.c (.int .i64 1))⟩, ⟨(some 45), none, .move (.t 68)⟩])))))))
 (.seq (.line [⟨(some 69), none, .move (.t 9)⟩, ⟨(some 70), none, .call (.c (.func (.func 15) #[] #[])) [(.t 69)]⟩, ⟨(some 71), none, .bin .sub none (.c (.int .i64 382)) (.t 70)⟩, ⟨(some 17), none, .move (.t 71)⟩])
 (.seq (.line [⟨(some 72), none, .move (.t 1)⟩, ⟨(some 73), none, .conv (.int .i64) (.t 72)⟩, ⟨(some 74), none, .move (.t 17)⟩, ⟨(some 75), none, .bin .sub none (.t 74) (.c (.int .i64 13))⟩, ⟨(some 76), none, .bin .mul none (.t 75) (.c (.int .i64 8))⟩, ⟨(some 77), none, .bin .rem none (.t 73) (.t 76)⟩, ⟨(some 78), none, .bin .add none (.c (.int .i64 104)) (.t 77)⟩, ⟨(some 18), none, .move (.t 78)⟩])
 (.seq (.line [⟨(some 19), none, .move (.c (.int .i64 13))⟩])
 (.seq (.seq (.line [⟨(some 79), none, .move (.t 12)⟩, ⟨(some 80), none, .len false (.t 79)⟩, ⟨(some 81), none, .move (.c (.int .i64 0))⟩])
 (.block 2 (.loop (.seq (.line [⟨(some 82), none, .bin .lss none (.t 81) (.t 80)⟩])
   (.seq (.cond (.t 82) .skip (.exit 2))
   (.seq (.block 3 (.seq (.line [⟨(some 83), none, .ia none 3 (.t 79) (.t 81)⟩, ⟨(some 84), none, .load (some 3) (.t 83)⟩, ⟨(some 21), none, .alloc [(.int .i64 0), (.bool false), (.slice none 0 0)]⟩, ⟨none, none, .store (some 3) (.t 21) (.t 84)⟩])
    (.seq (.seq (.line [⟨(some 85), none, .move (.t 18)⟩, ⟨(some 86), none, .bin .quo none (.t 85) (.c (.int .i64 8))⟩, ⟨(some 87), none, .move (.t 19)⟩, ⟨(some 88), none, .bin .gtr none (.t 86) (.t 87)⟩, ⟨(some 89), none, .move (.t 88)⟩, ⟨(some 90), (some (89, true)), .move (.t 18)⟩, ⟨(some 91), (some (89, true)), .bin .quo none (.t 90) (.c (.int .i64 8))⟩, ⟨(some 92), (some (89, true)), .move (.t 19)⟩, ⟨(some 93), (some (89, true)), .bin .add none (.t 92) (.c (.int .i64 5))⟩, ⟨(some 94), (some (89, true)), .bin .lss none (.t 91) (.t 93)⟩, ⟨(some 95), none, .pick (.t 89) (.t 94) (.c (.bool false))⟩])
    (.cond (.t 95) (.seq (.line [⟨(some 6), none, .move (.c (.bool true))⟩])
     .ret) .skip))
    (.line [⟨(some 96), none, .move (.t 19)⟩, ⟨(some 97), none, .fa 2 (.t 21)⟩, ⟨(some 98), none, .load none (.t 97)⟩, ⟨(some 99), none, .len false (.t 98)⟩, ⟨(some 100), none, .bin .add none (.c (.int .i64 17)) (.t 99)⟩, ⟨(some 101), none, .bin .add none (.t 96) (.t 100)⟩, ⟨(some 19), none, .move (.t 101)⟩]))))
   (.line [⟨(some 102), none, .bin .add none (.t 81) (.c (.int .i64 1))⟩, ⟨(some 81), none, .move (.t 102)⟩])))))))
 (.seq (.seq (.line [⟨(some 103), none, .move (.t 7)⟩, ⟨(some 104), none, .move (.t 18)⟩, ⟨(some 105), none, .call (.c (.func (.func 25) #[] #[])) [(.t 103), (.t 104)]⟩, ⟨(some 106), none, .bin .neq (some .int) (.t 105) (.c (.int .i64 0))⟩])
 (.cond (.t 106) (.seq (.line [⟨(some 6), none, .move (.c (.bool false))⟩])
  .ret) .skip))
 (.seq (.line [⟨(some 108), none, .move (.t 7)⟩, ⟨(some 109), none, .call (.c (.func (.func 12) #[] #[])) [(.t 108)]⟩, ⟨(some 107), none, .move (.t 109)⟩, ⟨(some 110), none, .ext (.t 107) 0⟩, ⟨(some 111), none, .ext (.t 107) 1⟩, ⟨(some 112), none, .ext (.t 107) 2⟩, ⟨(some 22), none, .move (.t 110)⟩, ⟨(some 23), none, .move (.t 111)⟩, ⟨(some 24), none, .move (.t 112)⟩])
 (.seq (.seq (.line [⟨(some 113), none, .move (.t 24)⟩, ⟨(some 114), none, .bin .neq (some .int) (.t 113) (.c (.int .i64 0))⟩, ⟨(some 115), none, .move (.t 114)⟩, ⟨(some 116), (some (115, false)), .move (.t 23)⟩, ⟨(some 117), (some (115, false)), .len false (.t 116)⟩, ⟨(some 118), (some (115, false)), .move (.t 12)⟩, ⟨(some 119), (some (115, false)), .len false (.t 118)⟩, ⟨(some 120), (some (115, false)), .bin .geq none (.t 117) (.t 119)⟩, ⟨(some 121), none, .pick (.t 115) (.c (.bool true)) (.t 120)⟩, ⟨(some 122), none, .move (.t 121)⟩, ⟨(some 123), (some (122, false)), .move (.t 23)⟩, ⟨(some 124), (some (122, false)), .move (.t 12)⟩, ⟨(some 125), (some (122, false)), .move (.t 23)⟩, ⟨(some 126), (some (122, false)), .len false (.t 125)⟩, ⟨(some 127), (some (122, false)), .slice (.sl 3) (.t 124) none (some (.t 126)) none⟩, ⟨(some 128), (some (122, false)), .call (.c (.func (.func 17) #[] #[])) [(.t 123), (.t 127)]⟩, ⟨(some 129), (some (122, false)), .un .not (.t 128)⟩, ⟨(some 130), none, .pick (.t 122) (.c (.bool true)) (.t 129)⟩])
 (.cond (.t 130) (.seq (.line [⟨(some 6), none, .move (.c (.bool false))⟩])
  .ret) .skip))
 (.seq (.line [⟨(some 25), none, .move (.c (.int .i64 13))⟩])
 (.seq (.seq (.line [⟨(some 131), none, .move (.t 23)⟩, ⟨(some 132), none, .len false (.t 131)⟩, ⟨(some 133), none, .move (.c (.int .i64 0))⟩])
 (.block 4 (.loop (.seq (.line [⟨(some 134), none, .bin .lss none (.t 133) (.t 132)⟩])
   (.seq (.cond (.t 134) .skip (.exit 4))
   (.seq (.block 5 (.seq (.line [⟨(some 135), none, .ia none 3 (.t 131) (.t 133)⟩, ⟨(some 136), none, .load (some 3) (.t 135)⟩, ⟨(some 27), none, .alloc [(.int .i64 0), (.bool false), (.slice none 0 0)]⟩, ⟨none, none, .store (some 3) (.t 27) (.t 136)⟩])
    (.line [⟨(some 137), none, .move (.t 25)⟩, ⟨(some 138), none, .fa 2 (.t 27)⟩, ⟨(some 139), none, .load none (.t 138)⟩, ⟨(some 140), none, .len false (.t 139)⟩, ⟨(some 141), none, .bin .add none (.c (.int .i64 17)) (.t 140)⟩, ⟨(some 142), none, .bin .add none (.t 137) (.t 141)⟩, ⟨(some 25), none, .move (.t 142)⟩])))
   (.line [⟨(some 143), none, .bin .add none (.t 133) (.c (.int .i64 1))⟩, ⟨(some 133), none, .move (.t 143)⟩])))))))
 (.seq (.line [⟨(some 144), none, .move (.t 25)⟩, ⟨(some 145), none, .bin .add none (.t 144) (.c (.int .i64 17))⟩, ⟨(some 146), none, .move (.t 12)⟩, ⟨(some 147), none, .move (.t 23)⟩, ⟨(some 148), none, .len false (.t 147)⟩, ⟨(some 149), none, .ia none 3 (.t 146) (.t 148)⟩, ⟨(some 150), none, .fa 2 (.t 149)⟩, ⟨(some 151), none, .load none (.t 150)⟩, ⟨(some 152), none, .len false (.t 151)⟩, ⟨(some 153), none, .bin .add none (.t 145) (.t 152)⟩, ⟨(some 28), none, .move (.t 153)⟩])
 (.seq (.line [⟨(some 154), none, .move (.t 18)⟩, ⟨(some 155), none, .bin .quo none (.t 154) (.c (.int .i64 8))⟩, ⟨(some 156), none, .move (.t 25)⟩, ⟨(some 157), none, .bin .geq none (.t 155) (.t 156)⟩, ⟨(some 158), none, .move (.t 157)⟩, ⟨(some 159), (some (158, true)), .move (.t 18)⟩, ⟨(some 160), (some (158, true)), .bin .quo none (.t 159) (.c (.int .i64 8))⟩, ⟨(some 161), (some (158, true)), .move (.t 28)⟩, ⟨(some 162), (some (158, true)), .bin .lss none (.t 160) (.t 161)⟩, ⟨(some 163), none, .pick (.t 158) (.t 162) (.c (.bool false))⟩, ⟨(some 164), none, .move (.t 163)⟩, ⟨(some 165), (some (164, true)), .move (.t 22)⟩, ⟨(some 166), (some (164, true)), .call (.c (.func (.func 18) #[] #[])) [(.t 165)]⟩, ⟨(some 167), (some (164, true)), .move (.t 23)⟩, ⟨(some 168), (some (164, true)), .len false (.t 167)⟩, ⟨(some 169), (some (164, true)), .bin .add none (.t 168) (.c (.int .i64 1))⟩, ⟨(some 170), (some (164, true)), .bin .eql (some .int) (.t 166) (.t 169)⟩, ⟨(some 171), none, .pick (.t 164) (.t 170) (.c (.bool false))⟩, ⟨(some 6), none, .move (.t 171)⟩])
 .ret)))))))))))))))))⟩
/-- captioner/captionerlaw55.JournalBroken -/
def g7 : GFun := ⟨156, [.tmp 6],
 (.seq (.line [⟨(some 6), none, .move (.c (.bool false))⟩])
 (.seq (.seq (.line [⟨(some 27), none, .call (.c (.func (.func 10) #[] #[])) []⟩, ⟨(some 28), none, .un .not (.t 27)⟩])
 (.cond (.t 28) (.seq (.line [⟨(some 6), none, .move (.c (.bool false))⟩])
  .ret) .skip))
 (.seq (.line [⟨(some 30), none, .call (.c (.func (.func 11) #[] #[])) [(.c (.int .i64 300))]⟩, ⟨(some 29), none, .move (.t 30)⟩, ⟨(some 31), none, .ext (.t 29) 0⟩, ⟨(some 32), none, .ext (.t 29) 1⟩, ⟨(some 7), none, .move (.t 31)⟩, ⟨(some 8), none, .move (.t 32)⟩])
 (.seq (.line [⟨(some 34), none, .move (.t 7)⟩, ⟨(some 35), none, .call (.c (.func (.func 12) #[] #[])) [(.t 34)]⟩, ⟨(some 33), none, .move (.t 35)⟩, ⟨(some 36), none, .ext (.t 33) 0⟩, ⟨(some 37), none, .ext (.t 33) 1⟩, ⟨(some 38), none, .ext (.t 33) 2⟩, ⟨(some 9), none, .move (.t 36)⟩, ⟨(some 10), none, .move (.t 37)⟩, ⟨(some 11), none, .move (.t 38)⟩])
 (.seq (.line [⟨(some 39), none, .move (.t 9)⟩, ⟨(some 40), none, .buildSl 257 5 [(.int .u8 0)] [(0, 1, (.c (.int .u8 102))), (1, 1, (.c (.int .u8 105))), (2, 1, (.c (.int .u8 114))), (3, 1, (.c (.int .u8 115))), (4, 1, (.c (.int .u8 116)))]⟩, ⟨(some 41), none, .keep (.t 40)⟩, ⟨(some 42), none, .call (.c (.func (.func 16) #[] #[])) [(.t 39), (.t 41)]⟩])
 (.seq (.line [⟨(some 43), none, .move (.t 1)⟩, ⟨(some 44), none, .call (.c (.func (.func 13) #[] #[])) [(.t 43)]⟩, ⟨(some 1), none, .move (.t 44)⟩])
 (.seq (.line [⟨(some 45), none, .move (.t 7)⟩, ⟨(some 46), none, .move (.t 0)⟩, ⟨(some 47), none, .conv (.int .i64) (.t 46)⟩, ⟨(some 48), none, .bin .rem none (.t 47) (.c (.int .i64 19))⟩, ⟨(some 49), none, .call (.c (.func (.func 20) #[] #[])) [(.t 45), (.t 48)]⟩])
 (.seq (.line [⟨(some 12), none, .move (.c (.int .i64 0))⟩])
 (.seq (.seq (.line [⟨(some 50), none, .move (.t 2)⟩])
 (.cond (.t 50) (.line [⟨(some 52), none, .move (.t 9)⟩, ⟨(some 53), none, .move (.t 1)⟩, ⟨(some 54), none, .call (.c (.func (.func 14) #[] #[])) [(.t 52), (.t 53)]⟩, ⟨(some 51), none, .move (.t 54)⟩, ⟨(some 55), none, .ext (.t 51) 0⟩, ⟨(some 56), none, .ext (.t 51) 1⟩, ⟨(some 12), none, .move (.t 56)⟩]) (.line [⟨(some 58), none, .move (.t 9)⟩, ⟨(some 59), none, .move (.t 1)⟩, ⟨(some 60), none, .call (.c (.func (.func 16) #[] #[])) [(.t 58), (.t 59)]⟩, ⟨(some 57), none, .move (.t 60)⟩, ⟨(some 61), none, .ext (.t 57) 0⟩, ⟨(some 62), none, .ext (.t 57) 1⟩, ⟨(some 12), none, .move (.t 62)⟩])))
 (.seq (.line [⟨(some 64), none, .move (.t 7)⟩, ⟨(some 65), none, .call (.c (.func (.func 12) #[] #[])) [(.t 64)]⟩, ⟨(some 63), none, .move (.t 65)⟩, ⟨(some 66), none, .ext (.t 63) 0⟩, ⟨(some 67), none, .ext (.t 63) 1⟩, ⟨(some 68), none, .ext (.t 63) 2⟩, ⟨(some 13), none, .move (.t 66)⟩, ⟨(some 14), none, .move (.t 67)⟩, ⟨(some 15), none, .move (.t 68)⟩])
 (.seq (.line [⟨(some 69), none, .move (.t 7)⟩, ⟨(some 70), none, .call (.c (.func (.func 26) #[] #[])) [(.t 69)]⟩, ⟨(some 16), none, .move (.t 70)⟩])
 (.seq (.line [⟨(some 71), none, .move (.t 7)⟩, ⟨(some 72), none, .call (.c (.func (.func 21) #[] #[])) [(.t 71)]⟩])
 (.seq (.line [⟨(some 73), none, .move (.t 7)⟩, ⟨(some 74), none, .call (.c (.func (.func 23) #[] #[])) [(.t 73)]⟩, ⟨(some 75), none, .conv .ofBytes (.t 74)⟩, ⟨(some 17), none, .move (.t 75)⟩])
 (.seq (.line [⟨(some 77), none, .move (.t 9)⟩, ⟨(some 78), none, .buildSl 257 1 [(.int .u8 0)] [(0, 1, (.c (.int .u8 120)))]⟩, ⟨(some 79), none, .keep (.t 78)⟩, ⟨(some 80), none, .call (.c (.func (.func 16) #[] #[])) [(.t 77), (.t 79)]⟩, ⟨(some 76), none, .move (.t 80)⟩, ⟨(some 81), none, .ext (.t 76) 0⟩, ⟨(some 82), none, .ext (.t 76) 1⟩, ⟨(some 18), none, .move (.t 81)⟩, ⟨(some 19), none, .move (.t 82)⟩])
 (.seq (.line [⟨(some 84), none, .move (.t 9)⟩, ⟨(some 85), none, .buildSl 257 1 [(.int .u8 0)] [(0, 1, (.c (.int .u8 120)))]⟩, ⟨(some 86), none, .keep (.t 85)⟩, ⟨(some 87), none, .call (.c (.func (.func 14) #[] #[])) [(.t 84), (.t 86)]⟩, ⟨(some 83), none, .move (.t 87)⟩, ⟨(some 88), none, .ext (.t 83) 0⟩, ⟨(some 89), none, .ext (.t 83) 1⟩, ⟨(some 20), none, .move (.t 88)⟩, ⟨(some 21), none, .move (.t 89)⟩])
 (.seq (.seq (.line [⟨(some 90), none, .move (.t 12)⟩, ⟨(some 91), none, .bin .neq (some .int) (.t 90) (.c (.int .i64 21))⟩, ⟨(some 92), none, .move (.t 91)⟩, ⟨(some 93), (some (92, false)), .move (.t 15)⟩, ⟨(some 94), (some (92, false)), .bin .neq (some .int) (.t 93) (.c (.int .i64 21))⟩, ⟨(some 95), none, .pick (.t 92) (.c (.bool true)) (.t 94)⟩, ⟨(some 96), none, .move (.t 95)⟩, ⟨(some 97), (some (96, false)), .move (.t 16)⟩, ⟨(some 98), (some (96, false)), .un .not (.t 97)⟩, ⟨(some 99), none, .pick (.t 96) (.c (.bool true)) (.t 98)⟩, ⟨(some 100), none, .move (.t 99)⟩, ⟨(some 101), (some (100, false)), .move (.t 19)⟩, ⟨(some 102), (some (100, false)), .bin .neq (some .int) (.t 101) (.c (.int .i64 21))⟩, ⟨(some 103), none, .pick (.t 100) (.c (.bool true)) (.t 102)⟩, ⟨(some 104), none, .move (.t 103)⟩, ⟨(some 105), (some (104, false)), .move (.t 21)⟩, ⟨(some 106), (some (104, false)), .bin .neq (some .int) (.t 105) (.c (.int .i64 21))⟩, ⟨(some 107), none, .pick (.t 104) (.c (.bool true)) (.t 106)⟩, ⟨(some 108), none, .move (.t 107)⟩, ⟨(some 109), (some (108, false)), .move (.t 7)⟩, ⟨(some 110), (some (108, false)), .call (.c (.func (.func 23) #[] #[])) [(.t 109)]⟩, ⟨(some 111), (some (108, false)), .conv .ofBytes (.t 110)⟩, ⟨(some 112), (some (108, false)), .move (.t 17)⟩, ⟨(some 113), (some (108, false)), .bin .neq (some .str) (.t 111) (.t 112)⟩, ⟨(some 114), none, .pick (.t 108) (.c (.bool true)) (.t 113)⟩, ⟨(some 115), none, .move (.t 114)⟩, ⟨(some 116), (some (115, false)), .move (.t 9)⟩, ⟨(some 117), (some (115, false)), .call (.c (.func (.func 18) #[] #[])) [(.t 116)]⟩, ⟨(some 118), (some (115, false)), .bin .neq (some .int) (.t 117) (.c (.int .i64 2))⟩, ⟨(some 119), none, .pick (.t 115) (.c (.bool true)) (.t 118)⟩])
 (.cond (.t 119) (.seq (.line [⟨(some 6), none, .move (.c (.bool false))⟩])
  .ret) .skip))
 (.seq (.line [⟨(some 121), none, .move (.t 7)⟩, ⟨(some 122), none, .call (.c (.func (.func 12) #[] #[])) [(.t 121)]⟩, ⟨(some 120), none, .move (.t 122)⟩, ⟨(some 123), none, .ext (.t 120) 0⟩, ⟨(some 124), none, .ext (.t 120) 1⟩, ⟨(some 125), none, .ext (.t 120) 2⟩, ⟨(some 22), none, .move (.t 123)⟩, ⟨(some 23), none, .move (.t 124)⟩, ⟨(some 24), none, .move (.t 125)⟩])
 (.seq (.line [⟨(some 127), none, .move (.t 22)⟩, ⟨(some 128), none, .buildSl 257 6 [(.int .u8 0)] [(0, 1, (.c (.int .u8 115))), (1, 1, (.c (.int .u8 101))), (2, 1, (.c (.int .u8 99))), (3, 1, (.c (.int .u8 111))), (4, 1, (.c (.int .u8 110))), (5, 1, (.c (.int .u8 100)))]⟩, ⟨(some 129), none, .keep (.t 128)⟩, ⟨(some 130), none, .call (.c (.func (.func 16) #[] #[])) [(.t 127), (.t 129)]⟩, ⟨(some 126), none, .move (.t 130)⟩, ⟨(some 131), none, .ext (.t 126) 0⟩, ⟨(some 132), none, .ext (.t 126) 1⟩, ⟨(some 25), none, .move (.t 131)⟩, ⟨(some 26), none, .move (.t 132)⟩])
 (.seq (.line [⟨(some 133), none, .move (.t 24)⟩, ⟨(some 134), none, .bin .eql (some .int) (.t 133) (.c (.int .i64 0))⟩, ⟨(some 135), none, .move (.t 134)⟩, ⟨(some 136), (some (135, true)), .move (.t 23)⟩, ⟨(some 137), (some (135, true)), .len false (.t 136)⟩, ⟨(some 138), (some (135, true)), .bin .eql (some .int) (.t 137) (.c (.int .i64 1))⟩, ⟨(some 139), none, .pick (.t 135) (.t 138) (.c (.bool false))⟩, ⟨(some 140), none, .move (.t 139)⟩, ⟨(some 141), (some (140, true)), .move (.t 23)⟩, ⟨(some 142), (some (140, true)), .ia none 3 (.t 141) (.c (.int .i64 0))⟩, ⟨(some 143), (some (140, true)), .fa 2 (.t 142)⟩, ⟨(some 144), (some (140, true)), .load none (.t 143)⟩, ⟨(some 145), (some (140, true)), .conv .ofBytes (.t 144)⟩, ⟨(some 146), (some (140, true)), .bin .eql (some .str) (.t 145) (.c (.string ⟨#[102, 105, 114, 115, 116]⟩))⟩, ⟨(some 147), none, .pick (.t 140) (.t 146) (.c (.bool false))⟩, ⟨(some 148), none, .move (.t 147)⟩, ⟨(some 149), (some (148, true)), .move (.t 25)⟩, ⟨(some 150), (some (148, true)), .bin .eql (some .int) (.t 149) (.c (.int .i64 2))⟩, ⟨(some 151), none, .pick (.t 148) (.t 150) (.c (.bool false))⟩, ⟨(some 152), none, .move (.t 151)⟩, ⟨(some 153), (some (152, true)), .move (.t 26)⟩, ⟨(some 154), (some (152, true)), .bin .eql (some .int) (.t 153) (.c (.int .i64 0))⟩, ⟨(some 155), none, .pick (.t 152) (.t 154) (.c (.bool false))⟩, ⟨(some 6), none, .move (.t 155)⟩])
 .ret)))))))))))))))))))⟩
/-- captioner/captionerlaw55.JournalPlays -/
def g8 : GFun := ⟨237, [.tmp 4],
 (.seq (.line [⟨(some 4), none, .move (.c (.bool false))⟩])
 (.seq (.seq (.line [⟨(some 30), none, .call (.c (.func (.func 10) #[] #[])) []⟩, ⟨(some 31), none, .un .not (.t 30)⟩])
 (.cond (.t 31) (.seq (.line [⟨(some 4), none, .move (.c (.bool false))⟩])
  .ret) .skip))
 (.seq (.line [⟨(some 33), none, .move (.t 0)⟩, ⟨(some 34), none, .conv (.int .i64) (.t 33)⟩, ⟨(some 35), none, .bin .add none (.c (.int .i64 64)) (.t 34)⟩, ⟨(some 36), none, .call (.c (.func (.func 11) #[] #[])) [(.t 35)]⟩, ⟨(some 32), none, .move (.t 36)⟩, ⟨(some 37), none, .ext (.t 32) 0⟩, ⟨(some 38), none, .ext (.t 32) 1⟩, ⟨(some 5), none, .move (.t 37)⟩, ⟨(some 6), none, .move (.t 38)⟩])
 (.seq (.line [⟨(some 40), none, .move (.t 0)⟩, ⟨(some 41), none, .conv (.int .i64) (.t 40)⟩, ⟨(some 42), none, .bin .add none (.c (.int .i64 64)) (.t 41)⟩, ⟨(some 43), none, .call (.c (.func (.func 22) #[] #[])) [(.t 42)]⟩, ⟨(some 39), none, .move (.t 43)⟩, ⟨(some 44), none, .ext (.t 39) 0⟩, ⟨(some 45), none, .ext (.t 39) 1⟩, ⟨(some 7), none, .alloc [(.int .i64 0), (.slice none 0 0), (.bool false), (.int .i64 0), (.bool false)]⟩, ⟨none, none, .store (some 5) (.t 7) (.t 44)⟩, ⟨(some 8), none, .move (.t 45)⟩])
 (.seq (.line [⟨(some 47), none, .move (.t 5)⟩, ⟨(some 48), none, .call (.c (.func (.func 12) #[] #[])) [(.t 47)]⟩, ⟨(some 46), none, .move (.t 48)⟩, ⟨(some 49), none, .ext (.t 46) 0⟩, ⟨(some 50), none, .ext (.t 46) 1⟩, ⟨(some 51), none, .ext (.t 46) 2⟩, ⟨(some 9), none, .move (.t 49)⟩, ⟨(some 10), none, .move (.t 50)⟩, ⟨(some 11), none, .move (.t 51)⟩])
 (.seq (.line [⟨(some 53), none, .load (some 5) (.t 7)⟩, ⟨(some 54), none, .call (.c (.func (.func 27) #[] #[])) [(.t 53)]⟩, ⟨(some 52), none, .move (.t 54)⟩, ⟨(some 55), none, .ext (.t 52) 0⟩, ⟨(some 56), none, .ext (.t 52) 1⟩, ⟨(some 57), none, .ext (.t 52) 2⟩, ⟨(some 12), none, .alloc [(.int .i64 0), (.int .i64 0), (.int .i64 0), (.int .u64 0), (.bool false), (.bool false)]⟩, ⟨none, none, .store (some 6) (.t 12) (.t 55)⟩, ⟨(some 13), none, .move (.t 56)⟩, ⟨(some 14), none, .move (.t 57)⟩])
 (.seq (.seq (.line [⟨(some 15), none, .move (.c (.int .i64 0))⟩])
 (.block 0 (.loop (.seq (.seq (.line [⟨(some 58), none, .move (.t 15)⟩, ⟨(some 59), none, .move (.t 1)⟩, ⟨(some 60), none, .len false (.t 59)⟩, ⟨(some 61), none, .bin .lss none (.t 58) (.t 60)⟩, ⟨(some 62), none, .move (.t 61)⟩, ⟨(some 63), (some (62, true)), .move (.t 15)⟩, ⟨(some 64), (some (62, true)), .bin .lss none (.t 63) (.c (.int .i64 20))⟩, ⟨(some 65), none, .pick (.t 62) (.t 64) (.c (.bool false))⟩])
   (.cond (.t 65) .skip (.exit 0)))
   (.seq (.block 1 (.seq (.line [⟨(some 68), none, .move (.t 1)⟩, ⟨(some 69), none, .move (.t 15)⟩, ⟨(some 70), none, .ia none 3 (.t 68) (.t 69)⟩, ⟨(some 71), none, .load (some 3) (.t 70)⟩, ⟨(some 16), none, .alloc [(.int .u8 0), (.int .i64 0), (.slice none 0 0)]⟩, ⟨none, none, .store (some 3) (.t 16) (.t 71)⟩])
    (.seq (.seq (.line [⟨(some 72), none, .fa 0 (.t 16)⟩, ⟨(some 73), none, .load none (.t 72)⟩, ⟨(some 74), none, .bin .rem none (.t 73) (.c (.int .u8 9))⟩])
    (.block 2 (.seq (.seq (.line [⟨(some 76), none, .bin .eql (some .int) (.t 74) (.c (.int .u8 0))⟩, ⟨(some 75), none, .move (.t 76)⟩])
     (.cond (.t 75) .skip (.seq (.line [⟨(some 77), none, .bin .eql (some .int) (.t 74) (.c (.int .u8 1))⟩, ⟨(some 75), none, .move (.t 77)⟩])
      (.cond (.t 75) .skip (.seq (.line [⟨(some 78), none, .bin .eql (some .int) (.t 74) (.c (.int .u8 2))⟩, ⟨(some 75), none, .move (.t 78)⟩])
       (.cond (.t 75) .skip (.seq (.line [⟨(some 79), none, .bin .eql (some .int) (.t 74) (.c (.int .u8 3))⟩, ⟨(some 75), none, .move (.t 79)⟩])
        (.cond (.t 75) .skip (.line [⟨(some 80), none, .bin .eql (some .int) (.t 74) (.c (.int .u8 4))⟩, ⟨(some 75), none, .move (.t 80)⟩])))))))))
     (.cond (.t 75) (.seq (.line [⟨(some 17), none, .move (.c (.int .i64 0))⟩, ⟨(some 18), none, .move (.c (.int .i64 0))⟩])
      (.seq (.line [⟨(some 19), none, .move (.c (.int .i64 0))⟩, ⟨(some 20), none, .move (.c (.int .i64 0))⟩])
      (.seq (.seq (.line [⟨(some 81), none, .fa 0 (.t 16)⟩, ⟨(some 82), none, .load none (.t 81)⟩, ⟨(some 83), none, .bin .rem none (.t 82) (.c (.int .u8 9))⟩, ⟨(some 84), none, .bin .eql (some .int) (.t 83) (.c (.int .u8 4))⟩])
      (.cond (.t 84) (.seq (.line [⟨(some 86), none, .move (.t 9)⟩, ⟨(some 87), none, .fa 2 (.t 16)⟩, ⟨(some 88), none, .load none (.t 87)⟩, ⟨(some 89), none, .call (.c (.func (.func 13) #[] #[])) [(.t 88)]⟩, ⟨(some 90), none, .call (.c (.func (.func 14) #[] #[])) [(.t 86), (.t 89)]⟩, ⟨(some 85), none, .move (.t 90)⟩, ⟨(some 91), none, .ext (.t 85) 0⟩, ⟨(some 92), none, .ext (.t 85) 1⟩, ⟨(some 17), none, .move (.t 91)⟩, ⟨(some 19), none, .move (.t 92)⟩])
       (.any [] [⟨(some 94), none, .load (some 5) (.t 7)⟩, ⟨(some 95), none, .load (some 6) (.t 12)⟩, ⟨(some 96), none, .fa 2 (.t 16)⟩, ⟨(some 97), none, .load none (.t 96)⟩, ⟨(some 98), none, .call (.c (.func (.func 13) #[] #[])) [(.t 97)]⟩, ⟨(some 99), none, .call (.c (.func (.func 28) #[] #[])) [(.t 94), (.t 95), (.t 98)]⟩, ⟨(some 93), none, .move (.t 99)⟩, ⟨(some 100), none, .ext (.t 93) 0⟩, ⟨(some 101), none, .ext (.t 93) 1⟩, ⟨(some 102), none, .ext (.t 93) 2⟩, ⟨(some 103), none, .ext (.t 93) 3⟩] [(false, ⟨none, none, .store (some 5) (.t 7) (.t 100)⟩), (false, ⟨none, none, .store (some 6) (.t 12) (.t 101)⟩), (false, ⟨(some 18), none, .move (.t 102)⟩), (false, ⟨(some 20), none, .move (.t 103)⟩)])) (.seq (.line [⟨(some 105), none, .move (.t 9)⟩, ⟨(some 106), none, .fa 2 (.t 16)⟩, ⟨(some 107), none, .load none (.t 106)⟩, ⟨(some 108), none, .call (.c (.func (.func 13) #[] #[])) [(.t 107)]⟩, ⟨(some 109), none, .call (.c (.func (.func 16) #[] #[])) [(.t 105), (.t 108)]⟩, ⟨(some 104), none, .move (.t 109)⟩, ⟨(some 110), none, .ext (.t 104) 0⟩, ⟨(some 111), none, .ext (.t 104) 1⟩, ⟨(some 17), none, .move (.t 110)⟩, ⟨(some 19), none, .move (.t 111)⟩])
       (.any [] [⟨(some 113), none, .load (some 5) (.t 7)⟩, ⟨(some 114), none, .load (some 6) (.t 12)⟩, ⟨(some 115), none, .fa 2 (.t 16)⟩, ⟨(some 116), none, .load none (.t 115)⟩, ⟨(some 117), none, .call (.c (.func (.func 13) #[] #[])) [(.t 116)]⟩, ⟨(some 118), none, .call (.c (.func (.func 29) #[] #[])) [(.t 113), (.t 114), (.t 117)]⟩, ⟨(some 112), none, .move (.t 118)⟩, ⟨(some 119), none, .ext (.t 112) 0⟩, ⟨(some 120), none, .ext (.t 112) 1⟩, ⟨(some 121), none, .ext (.t 112) 2⟩, ⟨(some 122), none, .ext (.t 112) 3⟩] [(false, ⟨none, none, .store (some 5) (.t 7) (.t 119)⟩), (false, ⟨none, none, .store (some 6) (.t 12) (.t 120)⟩), (false, ⟨(some 18), none, .move (.t 121)⟩), (false, ⟨(some 20), none, .move (.t 122)⟩)]))))
      (.seq (.line [⟨(some 123), none, .move (.t 17)⟩, ⟨(some 124), none, .move (.t 18)⟩, ⟨(some 125), none, .bin .neq (some .int) (.t 123) (.t 124)⟩, ⟨(some 126), none, .move (.t 125)⟩, ⟨(some 127), (some (126, false)), .move (.t 19)⟩, ⟨(some 128), (some (126, false)), .move (.t 20)⟩, ⟨(some 129), (some (126, false)), .bin .neq (some .int) (.t 127) (.t 128)⟩, ⟨(some 130), none, .pick (.t 126) (.c (.bool true)) (.t 129)⟩])
      (.cond (.t 130) (.seq (.line [⟨(some 4), none, .move (.c (.bool false))⟩])
       .ret) .skip))))) (.seq (.line [⟨(some 132), none, .bin .eql (some .int) (.t 74) (.c (.int .u8 5))⟩, ⟨(some 131), none, .move (.t 132)⟩])
      (.cond (.t 131) (.seq (.line [⟨(some 133), none, .move (.t 5)⟩, ⟨(some 134), none, .fa 1 (.t 16)⟩, ⟨(some 135), none, .load none (.t 134)⟩, ⟨(some 136), none, .call (.c (.func (.func 20) #[] #[])) [(.t 133), (.t 135)]⟩])
       (.line [⟨(some 137), none, .load (some 5) (.t 7)⟩, ⟨(some 138), none, .fa 1 (.t 16)⟩, ⟨(some 139), none, .load none (.t 138)⟩, ⟨(some 140), none, .call (.c (.func (.func 30) #[] #[])) [(.t 137), (.t 139)]⟩, ⟨none, none, .store (some 5) (.t 7) (.t 140)⟩])) (.seq (.seq (.line [⟨(some 142), none, .bin .eql (some .int) (.t 74) (.c (.int .u8 6))⟩, ⟨(some 141), none, .move (.t 142)⟩])
       (.cond (.t 141) .skip (.line [⟨(some 143), none, .bin .eql (some .int) (.t 74) (.c (.int .u8 8))⟩, ⟨(some 141), none, .move (.t 143)⟩])))
       (.cond (.t 141) (.seq (.seq (.line [⟨(some 144), none, .fa 0 (.t 16)⟩, ⟨(some 145), none, .load none (.t 144)⟩, ⟨(some 146), none, .bin .rem none (.t 145) (.c (.int .u8 9))⟩, ⟨(some 147), none, .bin .eql (some .int) (.t 146) (.c (.int .u8 6))⟩])
        (.cond (.t 147) (.seq (.line [⟨(some 148), none, .move (.t 5)⟩, ⟨(some 149), none, .call (.c (.func (.func 21) #[] #[])) [(.t 148)]⟩])
         (.line [⟨(some 150), none, .load (some 5) (.t 7)⟩, ⟨(some 151), none, .call (.c (.func (.func 31) #[] #[])) [(.t 150)]⟩, ⟨none, none, .store (some 5) (.t 7) (.t 151)⟩])) .skip))
        (.seq (.line [⟨(some 153), none, .move (.t 5)⟩, ⟨(some 154), none, .call (.c (.func (.func 12) #[] #[])) [(.t 153)]⟩, ⟨(some 152), none, .move (.t 154)⟩, ⟨(some 155), none, .ext (.t 152) 0⟩, ⟨(some 156), none, .ext (.t 152) 1⟩, ⟨(some 157), none, .ext (.t 152) 2⟩, ⟨(some 21), none, .move (.t 155)⟩, ⟨(some 22), none, .move (.t 156)⟩, ⟨(some 23), none, .move (.t 157)⟩])
        (.seq (.line [⟨(some 159), none, .load (some 5) (.t 7)⟩, ⟨(some 160), none, .call (.c (.func (.func 27) #[] #[])) [(.t 159)]⟩, ⟨(some 158), none, .move (.t 160)⟩, ⟨(some 161), none, .ext (.t 158) 0⟩, ⟨(some 162), none, .ext (.t 158) 1⟩, ⟨(some 163), none, .ext (.t 158) 2⟩, ⟨(some 24), none, .alloc [(.int .i64 0), (.int .i64 0), (.int .i64 0), (.int .u64 0), (.bool false), (.bool false)]⟩, ⟨none, none, .store (some 6) (.t 24) (.t 161)⟩, ⟨(some 25), none, .move (.t 162)⟩, ⟨(some 26), none, .move (.t 163)⟩])
        (.seq (.seq (.line [⟨(some 164), none, .move (.t 23)⟩, ⟨(some 165), none, .move (.t 26)⟩, ⟨(some 166), none, .bin .neq (some .int) (.t 164) (.t 165)⟩, ⟨(some 167), none, .move (.t 166)⟩, ⟨(some 168), (some (167, false)), .move (.t 22)⟩, ⟨(some 169), (some (167, false)), .move (.t 25)⟩, ⟨(some 170), (some (167, false)), .call (.c (.func (.func 17) #[] #[])) [(.t 168), (.t 169)]⟩, ⟨(some 171), (some (167, false)), .un .not (.t 170)⟩, ⟨(some 172), none, .pick (.t 167) (.c (.bool true)) (.t 171)⟩, ⟨(some 173), none, .move (.t 172)⟩, ⟨(some 174), (some (173, false)), .move (.t 21)⟩, ⟨(some 175), (some (173, false)), .bin .eql (some .ptr) (.t 174) (.c (.pointer none))⟩, ⟨(some 176), (some (173, false)), .move (.t 23)⟩, ⟨(some 177), (some (173, false)), .bin .neq (some .int) (.t 176) (.c (.int .i64 0))⟩, ⟨(some 178), (some (173, false)), .bin .neq (some .bool) (.t 175) (.t 177)⟩, ⟨(some 179), none, .pick (.t 173) (.c (.bool true)) (.t 178)⟩])
        (.cond (.t 179) (.seq (.line [⟨(some 4), none, .move (.c (.bool false))⟩])
         .ret) .skip))
        (.seq (.line [⟨(some 180), none, .move (.t 23)⟩, ⟨(some 181), none, .bin .eql (some .int) (.t 180) (.c (.int .i64 0))⟩])
        (.cond (.t 181) (.any [] [⟨(some 182), none, .move (.t 21)⟩, ⟨(some 183), none, .load (some 6) (.t 24)⟩, ⟨(some 9), none, .move (.t 182)⟩] [(false, ⟨none, none, .store (some 6) (.t 12) (.t 183)⟩)]) .skip)))))) (.seq (.line [⟨(some 185), none, .bin .eql (some .int) (.t 74) (.c (.int .u8 7))⟩, ⟨(some 184), none, .move (.t 185)⟩])
        (.cond (.t 184) (.seq (.line [⟨(some 186), none, .move (.t 5)⟩, ⟨(some 187), none, .fa 1 (.t 16)⟩, ⟨(some 188), none, .load none (.t 187)⟩, ⟨(some 189), none, .call (.c (.func (.func 25) #[] #[])) [(.t 186), (.t 188)]⟩, ⟨(some 27), none, .move (.t 189)⟩])
         (.seq (.line [⟨(some 191), none, .load (some 5) (.t 7)⟩, ⟨(some 192), none, .fa 1 (.t 16)⟩, ⟨(some 193), none, .load none (.t 192)⟩, ⟨(some 194), none, .call (.c (.func (.func 32) #[] #[])) [(.t 191), (.t 193)]⟩, ⟨(some 190), none, .move (.t 194)⟩, ⟨(some 195), none, .ext (.t 190) 0⟩, ⟨(some 196), none, .ext (.t 190) 1⟩, ⟨(some 28), none, .alloc [(.int .i64 0), (.slice none 0 0), (.bool false), (.int .i64 0), (.bool false)]⟩, ⟨none, none, .store (some 5) (.t 28) (.t 195)⟩, ⟨(some 29), none, .move (.t 196)⟩])
         (.seq (.line [⟨(some 197), none, .load (some 5) (.t 28)⟩, ⟨none, none, .store (some 5) (.t 7) (.t 197)⟩])
         (.seq (.line [⟨(some 198), none, .move (.t 27)⟩, ⟨(some 199), none, .move (.t 29)⟩, ⟨(some 200), none, .bin .neq (some .int) (.t 198) (.t 199)⟩])
         (.cond (.t 200) (.seq (.line [⟨(some 4), none, .move (.c (.bool false))⟩])
          .ret) .skip))))) .skip))))))))))
    (.seq (.any [] [⟨(some 201), none, .move (.t 5)⟩, ⟨(some 202), none, .call (.c (.func (.func 23) #[] #[])) [(.t 201)]⟩, ⟨(some 203), none, .conv .ofBytes (.t 202)⟩, ⟨(some 204), none, .fa 1 (.t 7)⟩, ⟨(some 205), none, .load none (.t 204)⟩, ⟨(some 206), none, .conv .ofBytes (.t 205)⟩, ⟨(some 207), none, .bin .neq (some .str) (.t 203) (.t 206)⟩, ⟨(some 208), none, .move (.t 207)⟩, ⟨(some 209), (some (208, false)), .move (.t 5)⟩, ⟨(some 210), (some (208, false)), .call (.c (.func (.func 26) #[] #[])) [(.t 209)]⟩, ⟨(some 211), (some (208, false)), .fa 4 (.t 7)⟩, ⟨(some 212), (some (208, false)), .load none (.t 211)⟩, ⟨(some 213), (some (208, false)), .bin .neq (some .bool) (.t 210) (.t 212)⟩, ⟨(some 214), none, .pick (.t 208) (.c (.bool true)) (.t 213)⟩, ⟨(some 215), none, .move (.t 214)⟩, ⟨(some 216), (some (215, false)), .move (.t 9)⟩, ⟨(some 217), (some (215, false)), .call (.c (.func (.func 18) #[] #[])) [(.t 216)]⟩, ⟨(some 218), (some (215, false)), .fa 2 (.t 12)⟩, ⟨(some 219), (some (215, false)), .load none (.t 218)⟩, ⟨(some 220), (some (215, false)), .bin .neq (some .int) (.t 217) (.t 219)⟩, ⟨(some 221), none, .pick (.t 215) (.c (.bool true)) (.t 220)⟩, ⟨(some 222), none, .move (.t 221)⟩, ⟨(some 223), (some (222, false)), .move (.t 9)⟩, ⟨(some 224), (some (222, false)), .call (.c (.func (.func 15) #[] #[])) [(.t 223)]⟩, ⟨(some 225), (some (222, false)), .load (some 5) (.t 7)⟩, ⟨(some 226), (some (222, false)), .load (some 6) (.t 12)⟩, ⟨(some 227), (some (222, false)), .call (.c (.func (.func 33) #[] #[])) [(.t 225), (.t 226)]⟩, ⟨(some 228), (some (222, false)), .bin .neq (some .int) (.t 224) (.t 227)⟩, ⟨(some 229), none, .pick (.t 222) (.c (.bool true)) (.t 228)⟩, ⟨(some 230), none, .move (.t 229)⟩, ⟨(some 231), (some (230, false)), .move (.t 9)⟩, ⟨(some 232), (some (230, false)), .call (.c (.func (.func 19) #[] #[])) [(.t 231)]⟩, ⟨(some 233), (some (230, false)), .fa 4 (.t 12)⟩, ⟨(some 234), (some (230, false)), .load none (.t 233)⟩, ⟨(some 235), (some (230, false)), .bin .neq (some .bool) (.t 232) (.t 234)⟩, ⟨(some 236), none, .pick (.t 230) (.c (.bool true)) (.t 235)⟩] [])
    (.cond (.t 236) (.seq (.line [⟨(some 4), none, .move (.c (.bool false))⟩])
     .ret) .skip)))))
   (.line [⟨(some 66), none, .move (.t 15)⟩, ⟨(some 67), none, .bin .add none (.t 66) (.c (.int .i64 1))⟩, ⟨(some 15), none, .move (.t 67)⟩]))))))
 (.seq (.line [⟨(some 4), none, .move (.c (.bool true))⟩])
 .ret))))))))⟩
/-- captioner/captionerlaw55.JournalNil -/
def g9 : GFun := ⟨192, [.tmp 4],
 (.seq (.line [⟨(some 4), none, .move (.c (.bool false))⟩])
 (.seq (.seq (.line [⟨(some 28), none, .call (.c (.func (.func 10) #[] #[])) []⟩, ⟨(some 29), none, .un .not (.t 28)⟩])
 (.cond (.t 29) (.seq (.line [⟨(some 4), none, .move (.c (.bool false))⟩])
  .ret) .skip))
 (.seq (.line [⟨(some 30), none, .move (.t 1)⟩, ⟨(some 31), none, .call (.c (.func (.func 13) #[] #[])) [(.t 30)]⟩, ⟨(some 1), none, .move (.t 31)⟩])
 (.seq (.line [⟨(some 33), none, .call (.c (.func (.func 11) #[] #[])) [(.c (.int .i64 200))]⟩, ⟨(some 32), none, .move (.t 33)⟩, ⟨(some 34), none, .ext (.t 32) 0⟩, ⟨(some 35), none, .ext (.t 32) 1⟩, ⟨(some 5), none, .move (.t 34)⟩, ⟨(some 6), none, .move (.t 35)⟩])
 (.seq (.line [⟨(some 37), none, .move (.t 5)⟩, ⟨(some 38), none, .call (.c (.func (.func 12) #[] #[])) [(.t 37)]⟩, ⟨(some 36), none, .move (.t 38)⟩, ⟨(some 39), none, .ext (.t 36) 0⟩, ⟨(some 40), none, .ext (.t 36) 1⟩, ⟨(some 41), none, .ext (.t 36) 2⟩, ⟨(some 7), none, .move (.t 39)⟩, ⟨(some 8), none, .move (.t 40)⟩, ⟨(some 9), none, .move (.t 41)⟩])
 (.seq (.line [⟨(some 42), none, .move (.t 7)⟩, ⟨(some 43), none, .move (.t 1)⟩, ⟨(some 44), none, .call (.c (.func (.func 16) #[] #[])) [(.t 42), (.t 43)]⟩])
 (.seq (.line [⟨(some 45), none, .move (.t 5)⟩, ⟨(some 46), none, .call (.c (.func (.func 23) #[] #[])) [(.t 45)]⟩, ⟨(some 47), none, .conv .ofBytes (.t 46)⟩, ⟨(some 10), none, .move (.t 47)⟩])
 (.seq (.line [⟨(some 48), none, .move (.t 5)⟩, ⟨(some 49), none, .call (.c (.func (.func 34) #[] #[])) [(.t 48)]⟩, ⟨(some 11), none, .move (.t 49)⟩])
 (.seq (.line [⟨(some 51), none, .move (.t 11)⟩, ⟨(some 52), none, .call (.c (.func (.func 12) #[] #[])) [(.t 51)]⟩, ⟨(some 50), none, .move (.t 52)⟩, ⟨(some 53), none, .ext (.t 50) 0⟩, ⟨(some 54), none, .ext (.t 50) 1⟩, ⟨(some 55), none, .ext (.t 50) 2⟩, ⟨(some 12), none, .move (.t 53)⟩, ⟨(some 13), none, .move (.t 54)⟩, ⟨(some 14), none, .move (.t 55)⟩])
 (.seq (.line [⟨(some 56), none, .move (.t 12)⟩, ⟨(some 57), none, .buildSl 257 1 [(.int .u8 0)] [(0, 1, (.c (.int .u8 120)))]⟩, ⟨(some 58), none, .keep (.t 57)⟩, ⟨(some 59), none, .call (.c (.func (.func 16) #[] #[])) [(.t 56), (.t 58)]⟩])
 (.seq (.line [⟨(some 60), none, .move (.t 11)⟩, ⟨(some 61), none, .move (.t 0)⟩, ⟨(some 62), none, .call (.c (.func (.func 25) #[] #[])) [(.t 60), (.t 61)]⟩])
 (.seq (.line [⟨(some 63), none, .move (.t 5)⟩, ⟨(some 64), none, .call (.c (.func (.func 23) #[] #[])) [(.t 63)]⟩, ⟨(some 15), none, .move (.t 64)⟩])
 (.seq (.seq (.line [⟨(some 65), none, .move (.t 15)⟩, ⟨(some 66), none, .len false (.t 65)⟩, ⟨(some 67), none, .move (.c (.int .i64 0))⟩])
 (.block 0 (.loop (.seq (.line [⟨(some 68), none, .bin .lss none (.t 67) (.t 66)⟩])
   (.seq (.cond (.t 68) .skip (.exit 0))
   (.seq (.block 1 (.seq (.line [⟨(some 69), none, .move (.t 67)⟩, ⟨(some 16), none, .move (.t 69)⟩])
    (.line [⟨(some 70), none, .move (.t 15)⟩, ⟨(some 71), none, .move (.t 16)⟩, ⟨(some 72), none, .ia none 1 (.t 70) (.t 71)⟩, ⟨(some 73), none, .load none (.t 72)⟩, ⟨(some 74), none, .bin .add none (.t 73) (.c (.int .u8 1))⟩, ⟨(some 75), none, .ia none 1 (.t 70) (.t 71)⟩, ⟨none, none, .store none (.t 75) (.t 74)⟩])))
   (.line [⟨(some 76), none, .bin .add none (.t 67) (.c (.int .i64 1))⟩, ⟨(some 67), none, .move (.t 76)⟩])))))))
 (.seq (.seq (.line [⟨(some 77), none, .move (.t 13)⟩, ⟨(some 78), none, .len false (.t 77)⟩, ⟨(some 79), none, .move (.c (.int .i64 0))⟩])
 (.block 2 (.loop (.seq (.line [⟨(some 80), none, .bin .lss none (.t 79) (.t 78)⟩])
   (.seq (.cond (.t 80) .skip (.exit 2))
   (.seq (.block 3 (.seq (.line [⟨(some 81), none, .move (.t 79)⟩, ⟨(some 17), none, .move (.t 81)⟩])
    (.seq (.line [⟨(some 82), none, .move (.t 13)⟩, ⟨(some 83), none, .move (.t 17)⟩, ⟨(some 84), none, .ia none 3 (.t 82) (.t 83)⟩, ⟨(some 85), none, .fa 2 (.t 84)⟩, ⟨(some 86), none, .load none (.t 85)⟩, ⟨(some 87), none, .len false (.t 86)⟩, ⟨(some 88), none, .move (.c (.int .i64 0))⟩])
    (.block 4 (.loop (.seq (.line [⟨(some 89), none, .bin .lss none (.t 88) (.t 87)⟩])
      (.seq (.cond (.t 89) .skip (.exit 4))
      (.seq (.block 5 (.seq (.line [⟨(some 90), none, .move (.t 88)⟩, ⟨(some 18), none, .move (.t 90)⟩])
       (.line [⟨(some 91), none, .move (.t 13)⟩, ⟨(some 92), none, .move (.t 17)⟩, ⟨(some 93), none, .ia none 3 (.t 91) (.t 92)⟩, ⟨(some 94), none, .fa 2 (.t 93)⟩, ⟨(some 95), none, .load none (.t 94)⟩, ⟨(some 96), none, .move (.t 18)⟩, ⟨(some 97), none, .ia none 1 (.t 95) (.t 96)⟩, ⟨(some 98), none, .load none (.t 97)⟩, ⟨(some 99), none, .bin .add none (.t 98) (.c (.int .u8 1))⟩, ⟨(some 100), none, .ia none 1 (.t 95) (.t 96)⟩, ⟨none, none, .store none (.t 100) (.t 99)⟩])))
      (.line [⟨(some 101), none, .bin .add none (.t 88) (.c (.int .i64 1))⟩, ⟨(some 88), none, .move (.t 101)⟩])))))))))
   (.line [⟨(some 102), none, .bin .add none (.t 79) (.c (.int .i64 1))⟩, ⟨(some 79), none, .move (.t 102)⟩])))))))
 (.seq (.seq (.line [⟨(some 103), none, .move (.t 5)⟩, ⟨(some 104), none, .call (.c (.func (.func 23) #[] #[])) [(.t 103)]⟩, ⟨(some 105), none, .conv .ofBytes (.t 104)⟩, ⟨(some 106), none, .move (.t 10)⟩, ⟨(some 107), none, .bin .neq (some .str) (.t 105) (.t 106)⟩])
 (.cond (.t 107) (.seq (.line [⟨(some 4), none, .move (.c (.bool false))⟩])
  .ret) .skip))
 (.seq (.line [⟨(some 19), none, .move (.c (.pointer none))⟩])
 (.seq (.line [⟨(some 20), none, .move (.c (.pointer none))⟩])
 (.seq (.line [⟨(some 108), none, .move (.t 19)⟩, ⟨(some 109), none, .move (.t 0)⟩, ⟨(some 110), none, .call (.c (.func (.func 20) #[] #[])) [(.t 108), (.t 109)]⟩])
 (.seq (.line [⟨(some 111), none, .move (.t 19)⟩, ⟨(some 112), none, .call (.c (.func (.func 21) #[] #[])) [(.t 111)]⟩])
 (.seq (.line [⟨(some 114), none, .move (.t 19)⟩, ⟨(some 115), none, .call (.c (.func (.func 12) #[] #[])) [(.t 114)]⟩, ⟨(some 113), none, .move (.t 115)⟩, ⟨(some 116), none, .ext (.t 113) 0⟩, ⟨(some 117), none, .ext (.t 113) 1⟩, ⟨(some 118), none, .ext (.t 113) 2⟩, ⟨(some 21), none, .move (.t 116)⟩, ⟨(some 22), none, .move (.t 117)⟩, ⟨(some 23), none, .move (.t 118)⟩])
 (.seq (.line [⟨(some 120), none, .move (.t 20)⟩, ⟨(some 121), none, .move (.t 1)⟩, ⟨(some 122), none, .call (.c (.func (.func 16) #[] #[])) [(.t 120), (.t 121)]⟩, ⟨(some 119), none, .move (.t 122)⟩, ⟨(some 123), none, .ext (.t 119) 0⟩, ⟨(some 124), none, .ext (.t 119) 1⟩, ⟨(some 24), none, .move (.t 123)⟩, ⟨(some 25), none, .move (.t 124)⟩])
 (.seq (.line [⟨(some 126), none, .move (.t 20)⟩, ⟨(some 127), none, .move (.t 1)⟩, ⟨(some 128), none, .call (.c (.func (.func 14) #[] #[])) [(.t 126), (.t 127)]⟩, ⟨(some 125), none, .move (.t 128)⟩, ⟨(some 129), none, .ext (.t 125) 0⟩, ⟨(some 130), none, .ext (.t 125) 1⟩, ⟨(some 26), none, .move (.t 129)⟩, ⟨(some 27), none, .move (.t 130)⟩])
 (.seq (.line [⟨(some 131), none, .move (.t 21)⟩, ⟨(some 132), none, .bin .eql (some .ptr) (.t 131) (.c (.pointer none))⟩, ⟨(some 133), none, .move (.t 132)⟩, ⟨(some 134), (some (133, true)), .move (.t 22)⟩, ⟨(some 135), (some (133, true)), .len false (.t 134)⟩, ⟨(some 136), (some (133, true)), .bin .eql (some .int) (.t 135) (.c (.int .i64 0))⟩, ⟨(some 137), none, .pick (.t 133) (.t 136) (.c (.bool false))⟩, ⟨(some 138), none, .move (.t 137)⟩, ⟨(some 139), (some (138, true)), .move (.t 23)⟩, ⟨(some 140), (some (138, true)), .bin .eql (some .int) (.t 139) (.c (.int .i64 1))⟩, ⟨(some 141), none, .pick (.t 138) (.t 140) (.c (.bool false))⟩, ⟨(some 142), none, .move (.t 141)⟩, ⟨(some 143), (some (142, true)), .move (.t 25)⟩, ⟨(some 144), (some (142, true)), .bin .eql (some .int) (.t 143) (.c (.int .i64 1))⟩, ⟨(some 145), none, .pick (.t 142) (.t 144) (.c (.bool false))⟩, ⟨(some 146), none, .move (.t 145)⟩, ⟨(some 147), (some (146, true)), .move (.t 27)⟩, ⟨(some 148), (some (146, true)), .bin .eql (some .int) (.t 147) (.c (.int .i64 1))⟩, ⟨(some 149), none, .pick (.t 146) (.t 148) (.c (.bool false))⟩, ⟨(some 150), none, .move (.t 149)⟩, ⟨(some 151), (some (150, true)), .move (.t 20)⟩, ⟨(some 152), (some (150, true)), .call (.c (.func (.func 18) #[] #[])) [(.t 151)]⟩, ⟨(some 153), (some (150, true)), .bin .eql (some .int) (.t 152) (.c (.int .i64 0))⟩, ⟨(some 154), none, .pick (.t 150) (.t 153) (.c (.bool false))⟩, ⟨(some 155), none, .move (.t 154)⟩, ⟨(some 156), (some (155, true)), .move (.t 20)⟩, ⟨(some 157), (some (155, true)), .call (.c (.func (.func 15) #[] #[])) [(.t 156)]⟩, ⟨(some 158), (some (155, true)), .bin .eql (some .int) (.t 157) (.c (.int .i64 (-1)))⟩, ⟨(some 159), none, .pick (.t 155) (.t 158) (.c (.bool false))⟩, ⟨(some 160), none, .move (.t 159)⟩, ⟨(some 161), (some (160, true)), .move (.t 20)⟩, ⟨(some 162), (some (160, true)), .call (.c (.func (.func 19) #[] #[])) [(.t 161)]⟩, ⟨(some 163), (some (160, true)), .un .not (.t 162)⟩, ⟨(some 164), none, .pick (.t 160) (.t 163) (.c (.bool false))⟩, ⟨(some 165), none, .move (.t 164)⟩, ⟨(some 166), (some (165, true)), .move (.t 19)⟩, ⟨(some 167), (some (165, true)), .call (.c (.func (.func 24) #[] #[])) [(.t 166)]⟩, ⟨(some 168), (some (165, true)), .bin .eql (some .int) (.t 167) (.c (.int .i64 0))⟩, ⟨(some 169), none, .pick (.t 165) (.t 168) (.c (.bool false))⟩, ⟨(some 170), none, .move (.t 169)⟩, ⟨(some 171), (some (170, true)), .move (.t 19)⟩, ⟨(some 172), (some (170, true)), .call (.c (.func (.func 26) #[] #[])) [(.t 171)]⟩, ⟨(some 173), (some (170, true)), .un .not (.t 172)⟩, ⟨(some 174), none, .pick (.t 170) (.t 173) (.c (.bool false))⟩, ⟨(some 175), none, .move (.t 174)⟩, ⟨(some 176), (some (175, true)), .move (.t 19)⟩, ⟨(some 177), (some (175, true)), .call (.c (.func (.func 23) #[] #[])) [(.t 176)]⟩, ⟨(some 178), (some (175, true)), .len false (.t 177)⟩, ⟨(some 179), (some (175, true)), .bin .eql (some .int) (.t 178) (.c (.int .i64 0))⟩, ⟨(some 180), none, .pick (.t 175) (.t 179) (.c (.bool false))⟩, ⟨(some 181), none, .move (.t 180)⟩, ⟨(some 182), (some (181, true)), .move (.t 19)⟩, ⟨(some 183), (some (181, true)), .move (.t 0)⟩, ⟨(some 184), (some (181, true)), .call (.c (.func (.func 25) #[] #[])) [(.t 182), (.t 183)]⟩, ⟨(some 185), (some (181, true)), .bin .eql (some .int) (.t 184) (.c (.int .i64 1))⟩, ⟨(some 186), none, .pick (.t 181) (.t 185) (.c (.bool false))⟩, ⟨(some 187), none, .move (.t 186)⟩, ⟨(some 188), (some (187, true)), .move (.t 19)⟩, ⟨(some 189), (some (187, true)), .call (.c (.func (.func 34) #[] #[])) [(.t 188)]⟩, ⟨(some 190), (some (187, true)), .bin .eql (some .ptr) (.t 189) (.c (.pointer none))⟩, ⟨(some 191), none, .pick (.t 187) (.t 190) (.c (.bool false))⟩, ⟨(some 4), none, .move (.t 191)⟩])
 .ret)))))))))))))))))))))))⟩
/-- captioner/captionerlaw55.awake -/
def g10 : GFun := ⟨100, [.tmp 0],
 (.seq (.line [⟨(some 0), none, .move (.c (.bool false))⟩])
 (.seq (.line [⟨(some 12), none, .call (.c (.func (.func 11) #[] #[])) [(.c (.int .i64 64))]⟩, ⟨(some 11), none, .move (.t 12)⟩, ⟨(some 13), none, .ext (.t 11) 0⟩, ⟨(some 14), none, .ext (.t 11) 1⟩, ⟨(some 1), none, .move (.t 13)⟩, ⟨(some 2), none, .move (.t 14)⟩])
 (.seq (.seq (.line [⟨(some 15), none, .move (.t 1)⟩, ⟨(some 16), none, .bin .eql (some .ptr) (.t 15) (.c (.pointer none))⟩, ⟨(some 17), none, .move (.t 16)⟩, ⟨(some 18), (some (17, false)), .move (.t 2)⟩, ⟨(some 19), (some (17, false)), .bin .neq (some .int) (.t 18) (.c (.int .i64 0))⟩, ⟨(some 20), none, .pick (.t 17) (.c (.bool true)) (.t 19)⟩])
 (.cond (.t 20) (.seq (.line [⟨(some 0), none, .move (.c (.bool false))⟩])
  .ret) .skip))
 (.seq (.line [⟨(some 22), none, .move (.t 1)⟩, ⟨(some 23), none, .call (.c (.func (.func 12) #[] #[])) [(.t 22)]⟩, ⟨(some 21), none, .move (.t 23)⟩, ⟨(some 24), none, .ext (.t 21) 0⟩, ⟨(some 25), none, .ext (.t 21) 1⟩, ⟨(some 26), none, .ext (.t 21) 2⟩, ⟨(some 3), none, .move (.t 24)⟩, ⟨(some 4), none, .move (.t 25)⟩, ⟨(some 5), none, .move (.t 26)⟩])
 (.seq (.seq (.line [⟨(some 27), none, .move (.t 3)⟩, ⟨(some 28), none, .bin .eql (some .ptr) (.t 27) (.c (.pointer none))⟩, ⟨(some 29), none, .move (.t 28)⟩, ⟨(some 30), (some (29, false)), .move (.t 5)⟩, ⟨(some 31), (some (29, false)), .bin .neq (some .int) (.t 30) (.c (.int .i64 0))⟩, ⟨(some 32), none, .pick (.t 29) (.c (.bool true)) (.t 31)⟩, ⟨(some 33), none, .move (.t 32)⟩, ⟨(some 34), (some (33, false)), .move (.t 4)⟩, ⟨(some 35), (some (33, false)), .len false (.t 34)⟩, ⟨(some 36), (some (33, false)), .bin .gtr none (.t 35) (.c (.int .i64 0))⟩, ⟨(some 37), none, .pick (.t 33) (.c (.bool true)) (.t 36)⟩, ⟨(some 38), none, .move (.t 37)⟩, ⟨(some 39), (some (38, false)), .move (.t 3)⟩, ⟨(some 40), (some (38, false)), .call (.c (.func (.func 15) #[] #[])) [(.t 39)]⟩, ⟨(some 41), (some (38, false)), .bin .neq (some .int) (.t 40) (.c (.int .i64 33))⟩, ⟨(some 42), none, .pick (.t 38) (.c (.bool true)) (.t 41)⟩])
 (.cond (.t 42) (.seq (.line [⟨(some 0), none, .move (.c (.bool false))⟩])
  .ret) .skip))
 (.seq (.line [⟨(some 43), none, .move (.t 3)⟩, ⟨(some 44), none, .buildSl 257 1 [(.int .u8 0)] [(0, 1, (.c (.int .u8 97)))]⟩, ⟨(some 45), none, .keep (.t 44)⟩, ⟨(some 46), none, .call (.c (.func (.func 16) #[] #[])) [(.t 43), (.t 45)]⟩])
 (.seq (.line [⟨(some 47), none, .move (.t 3)⟩, ⟨(some 48), none, .buildSl 257 1 [(.int .u8 0)] [(0, 1, (.c (.int .u8 98)))]⟩, ⟨(some 49), none, .keep (.t 48)⟩, ⟨(some 50), none, .call (.c (.func (.func 16) #[] #[])) [(.t 47), (.t 49)]⟩])
 (.seq (.line [⟨(some 52), none, .move (.t 3)⟩, ⟨(some 53), none, .buildSl 257 2 [(.int .u8 0)] [(0, 1, (.c (.int .u8 97))), (1, 1, (.c (.int .u8 98)))]⟩, ⟨(some 54), none, .keep (.t 53)⟩, ⟨(some 55), none, .call (.c (.func (.func 14) #[] #[])) [(.t 52), (.t 54)]⟩, ⟨(some 51), none, .move (.t 55)⟩, ⟨(some 56), none, .ext (.t 51) 0⟩, ⟨(some 57), none, .ext (.t 51) 1⟩, ⟨(some 6), none, .move (.t 56)⟩, ⟨(some 7), none, .move (.t 57)⟩])
 (.seq (.line [⟨(some 59), none, .move (.t 1)⟩, ⟨(some 60), none, .call (.c (.func (.func 12) #[] #[])) [(.t 59)]⟩, ⟨(some 58), none, .move (.t 60)⟩, ⟨(some 61), none, .ext (.t 58) 0⟩, ⟨(some 62), none, .ext (.t 58) 1⟩, ⟨(some 63), none, .ext (.t 58) 2⟩, ⟨(some 8), none, .move (.t 61)⟩, ⟨(some 9), none, .move (.t 62)⟩, ⟨(some 10), none, .move (.t 63)⟩])
 (.seq (.line [⟨(some 64), none, .move (.t 6)⟩, ⟨(some 65), none, .bin .eql (some .int) (.t 64) (.c (.int .i64 3))⟩, ⟨(some 66), none, .move (.t 65)⟩, ⟨(some 67), (some (66, true)), .move (.t 7)⟩, ⟨(some 68), (some (66, true)), .bin .eql (some .int) (.t 67) (.c (.int .i64 0))⟩, ⟨(some 69), none, .pick (.t 66) (.t 68) (.c (.bool false))⟩, ⟨(some 70), none, .move (.t 69)⟩, ⟨(some 71), (some (70, true)), .move (.t 10)⟩, ⟨(some 72), (some (70, true)), .bin .eql (some .int) (.t 71) (.c (.int .i64 0))⟩, ⟨(some 73), none, .pick (.t 70) (.t 72) (.c (.bool false))⟩, ⟨(some 74), none, .move (.t 73)⟩, ⟨(some 75), (some (74, true)), .move (.t 9)⟩, ⟨(some 76), (some (74, true)), .len false (.t 75)⟩, ⟨(some 77), (some (74, true)), .bin .eql (some .int) (.t 76) (.c (.int .i64 1))⟩, ⟨(some 78), none, .pick (.t 74) (.t 77) (.c (.bool false))⟩, ⟨(some 79), none, .move (.t 78)⟩, ⟨(some 80), (some (79, true)), .move (.t 9)⟩, ⟨(some 81), (some (79, true)), .ia none 3 (.t 80) (.c (.int .i64 0))⟩, ⟨(some 82), (some (79, true)), .fa 0 (.t 81)⟩, ⟨(some 83), (some (79, true)), .load none (.t 82)⟩, ⟨(some 84), (some (79, true)), .bin .eql (some .int) (.t 83) (.c (.int .i64 3))⟩, ⟨(some 85), none, .pick (.t 79) (.t 84) (.c (.bool false))⟩, ⟨(some 86), none, .move (.t 85)⟩, ⟨(some 87), (some (86, true)), .move (.t 9)⟩, ⟨(some 88), (some (86, true)), .ia none 3 (.t 87) (.c (.int .i64 0))⟩, ⟨(some 89), (some (86, true)), .fa 1 (.t 88)⟩, ⟨(some 90), (some (86, true)), .load none (.t 89)⟩, ⟨(some 91), none, .pick (.t 86) (.t 90) (.c (.bool false))⟩, ⟨(some 92), none, .move (.t 91)⟩, ⟨(some 93), (some (92, true)), .move (.t 9)⟩, ⟨(some 94), (some (92, true)), .ia none 3 (.t 93) (.c (.int .i64 0))⟩, ⟨(some 95), (some (92, true)), .fa 2 (.t 94)⟩, ⟨(some 96), (some (92, true)), .load none (.t 95)⟩, ⟨(some 97), (some (92, true)), .conv .ofBytes (.t 96)⟩, ⟨(some 98), (some (92, true)), .bin .eql (some .str) (.t 97) (.c (.string ⟨#[97, 98]⟩))⟩, ⟨(some 99), none, .pick (.t 92) (.t 98) (.c (.bool false))⟩, ⟨(some 0), none, .move (.t 99)⟩])
 .ret))))))))))⟩
/-- captioner/journal.NewMemory -/
def g11 : GFun := ⟨30, [.tmp 2, .tmp 3],
 (.seq (.line [⟨(some 2), none, .move (.c (.pointer none))⟩, ⟨(some 3), none, .move (.c (.int .i64 0))⟩])
 (.seq (.seq (.line [⟨(some 5), none, .move (.t 0)⟩, ⟨(some 6), none, .bin .lss none (.t 5) (.c (.int .i64 64))⟩, ⟨(some 7), none, .move (.t 6)⟩, ⟨(some 8), (some (7, false)), .move (.t 0)⟩, ⟨(some 9), (some (7, false)), .bin .gtr none (.t 8) (.c (.int .i64 8388608))⟩, ⟨(some 10), none, .pick (.t 7) (.c (.bool true)) (.t 9)⟩])
 (.cond (.t 10) (.seq (.line [⟨(some 2), none, .move (.c (.pointer none))⟩, ⟨(some 3), none, .move (.c (.int .i64 2))⟩])
  .ret) .skip))
 (.seq (.line [⟨(some 11), none, .move (.t 0)⟩, ⟨(some 12), none, .bin .mul none (.c (.int .i64 2)) (.t 11)⟩, ⟨(some 13), none, .mk [(.int .u8 0)] 1 257 (.t 12) (.t 12)⟩, ⟨(some 14), none, .build [(.slice none 0 0), (.bool false), (.int .i64 0), (.bool false)] [(0, 1, (.t 13))]⟩, ⟨(some 15), none, .box (.t 14)⟩, ⟨(some 4), none, .move (.t 15)⟩])
 (.seq (.line [⟨(some 16), none, .move (.t 4)⟩, ⟨(some 17), none, .nilc (.t 16)⟩, ⟨(some 18), none, .fa 0 (.t 17)⟩, ⟨(some 19), none, .load none (.t 18)⟩, ⟨(some 20), none, .ia none 1 (.t 19) (.c (.int .i64 0))⟩, ⟨none, none, .store none (.t 20) (.c (.int .u8 183))⟩])
 (.seq (.any [] [⟨(some 21), none, .move (.t 4)⟩, ⟨(some 22), none, .nilc (.t 21)⟩, ⟨(some 23), none, .fa 0 (.t 22)⟩, ⟨(some 24), none, .load none (.t 23)⟩, ⟨(some 25), none, .slice (.sl 1) (.t 24) (some (.c (.int .i64 1))) none none⟩, ⟨(some 26), none, .call (.c (.func (.func 36) #[] #[])) [(.c (.int .u64 1)), (.c (.int .i64 8))]⟩, ⟨(some 27), none, .call (.c (.func (.func 35) #[] #[])) [(.t 26)]⟩] [(false, ⟨(some 28), none, .copy 1 (.t 25) (.t 27)⟩)])
 (.seq (.line [⟨(some 29), none, .move (.t 4)⟩, ⟨(some 2), none, .move (.t 29)⟩, ⟨(some 3), none, .move (.c (.int .i64 0))⟩])
 .ret))))))⟩
/-- captioner/journal.Open -/
def g12 : GFun := ⟨84, [.tmp 2, .tmp 3, .tmp 4],
 (.seq (.line [⟨(some 2), none, .move (.c (.pointer none))⟩, ⟨(some 3), none, .move (.c (.slice none 0 0))⟩, ⟨(some 4), none, .move (.c (.int .i64 0))⟩])
 (.seq (.seq (.line [⟨(some 14), none, .move (.t 0)⟩, ⟨(some 15), none, .bin .eql (some .ptr) (.t 14) (.c (.pointer none))⟩])
 (.cond (.t 15) (.seq (.line [⟨(some 2), none, .move (.c (.pointer none))⟩, ⟨(some 3), none, .move (.c (.slice none 0 0))⟩, ⟨(some 4), none, .move (.c (.int .i64 1))⟩])
  .ret) .skip))
 (.seq (.seq (.line [⟨(some 16), none, .move (.t 0)⟩, ⟨(some 17), none, .nilc (.t 16)⟩, ⟨(some 18), none, .fa 3 (.t 17)⟩, ⟨(some 19), none, .load none (.t 18)⟩])
 (.cond (.t 19) (.seq (.line [⟨(some 2), none, .move (.c (.pointer none))⟩, ⟨(some 3), none, .move (.c (.slice none 0 0))⟩, ⟨(some 4), none, .move (.c (.int .i64 21))⟩])
  .ret) .skip))
 (.seq (.line [⟨(some 21), none, .move (.t 0)⟩, ⟨(some 22), none, .call (.c (.func (.func 37) #[] #[])) [(.t 21)]⟩, ⟨(some 20), none, .move (.t 22)⟩, ⟨(some 23), none, .ext (.t 20) 0⟩, ⟨(some 24), none, .ext (.t 20) 1⟩, ⟨(some 25), none, .ext (.t 20) 2⟩, ⟨(some 5), none, .move (.t 23)⟩, ⟨(some 6), none, .move (.t 24)⟩, ⟨(some 7), none, .move (.t 25)⟩])
 (.seq (.seq (.line [⟨(some 26), none, .move (.t 7)⟩, ⟨(some 27), none, .un .not (.t 26)⟩])
 (.cond (.t 27) (.seq (.line [⟨(some 2), none, .move (.c (.pointer none))⟩, ⟨(some 3), none, .move (.c (.slice none 0 0))⟩, ⟨(some 4), none, .move (.c (.int .i64 19))⟩])
  .ret) .skip))
 (.seq (.line [⟨(some 28), none, .move (.t 0)⟩, ⟨(some 29), none, .move (.t 5)⟩, ⟨(some 30), none, .move (.t 6)⟩, ⟨(some 31), none, .build [(.pointer none), (.int .i64 0), (.int .u64 0), (.int .i64 0), (.int .i64 0), (.bool false), (.bool false)] [(0, 1, (.t 28)), (1, 1, (.t 29)), (2, 1, (.t 30)), (3, 1, (.c (.int .i64 13))), (4, 1, (.c (.int .i64 1)))]⟩, ⟨(some 32), none, .box (.t 31)⟩, ⟨(some 8), none, .move (.t 32)⟩])
 (.seq (.line [⟨(some 33), none, .move (.t 0)⟩, ⟨(some 34), none, .move (.t 5)⟩, ⟨(some 35), none, .call (.c (.func (.func 38) #[] #[])) [(.t 33), (.t 34)]⟩, ⟨(some 9), none, .move (.t 35)⟩])
 (.seq (.line [⟨(some 10), none, .move (.c (.slice none 0 0))⟩])
 (.seq (.line [⟨(some 11), none, .move (.c (.int .i64 0))⟩])
 (.seq (.block 0 (.loop (.seq (.seq (.line [⟨(some 36), none, .move (.t 9)⟩, ⟨(some 37), none, .move (.t 8)⟩, ⟨(some 38), none, .nilc (.t 37)⟩, ⟨(some 39), none, .fa 3 (.t 38)⟩, ⟨(some 40), none, .load none (.t 39)⟩, ⟨(some 41), none, .ia none 1 (.t 36) (.t 40)⟩, ⟨(some 42), none, .load none (.t 41)⟩, ⟨(some 43), none, .bin .neq (some .int) (.t 42) (.c (.int .u8 0))⟩])
   (.cond (.t 43) .skip (.exit 0)))
   (.block 1 (.seq (.line [⟨(some 45), none, .move (.t 9)⟩, ⟨(some 46), none, .move (.t 8)⟩, ⟨(some 47), none, .nilc (.t 46)⟩, ⟨(some 48), none, .fa 3 (.t 47)⟩, ⟨(some 49), none, .load none (.t 48)⟩, ⟨(some 50), none, .move (.t 11)⟩, ⟨(some 51), none, .call (.c (.func (.func 39) #[] #[])) [(.t 45), (.t 49), (.t 50)]⟩, ⟨(some 44), none, .move (.t 51)⟩, ⟨(some 52), none, .ext (.t 44) 0⟩, ⟨(some 53), none, .ext (.t 44) 1⟩, ⟨(some 12), none, .alloc [(.int .i64 0), (.bool false), (.slice none 0 0)]⟩, ⟨none, none, .store (some 3) (.t 12) (.t 52)⟩, ⟨(some 13), none, .move (.t 53)⟩])
    (.seq (.seq (.line [⟨(some 54), none, .move (.t 13)⟩, ⟨(some 55), none, .un .not (.t 54)⟩])
    (.cond (.t 55) (.seq (.line [⟨(some 56), none, .move (.t 8)⟩, ⟨(some 57), none, .nilc (.t 56)⟩, ⟨(some 58), none, .fa 6 (.t 57)⟩, ⟨none, none, .store none (.t 58) (.c (.bool true))⟩])
     (.exit 0)) .skip))
    (.seq (.line [⟨(some 59), none, .move (.t 10)⟩, ⟨(some 60), none, .load (some 3) (.t 12)⟩, ⟨(some 61), none, .buildSl 3 1 [(.int .i64 0), (.bool false), (.slice none 0 0)] [(0, 3, (.t 60))]⟩, ⟨(some 62), none, .app 3 40 3 (.t 59) (.t 61)⟩, ⟨(some 10), none, .move (.t 62)⟩])
    (.seq (.line [⟨(some 63), none, .fa 0 (.t 12)⟩, ⟨(some 64), none, .load none (.t 63)⟩, ⟨(some 11), none, .move (.t 64)⟩])
    (.seq (.any [] [⟨(some 65), none, .move (.t 8)⟩, ⟨(some 66), none, .nilc (.t 65)⟩, ⟨(some 67), none, .fa 3 (.t 66)⟩, ⟨(some 68), none, .load none (.t 67)⟩, ⟨(some 69), none, .fa 2 (.t 12)⟩, ⟨(some 70), none, .load none (.t 69)⟩, ⟨(some 71), none, .len false (.t 70)⟩, ⟨(some 72), none, .bin .add none (.c (.int .i64 17)) (.t 71)⟩, ⟨(some 73), none, .bin .add none (.t 68) (.t 72)⟩, ⟨(some 74), none, .nilc (.t 65)⟩, ⟨(some 75), none, .fa 3 (.t 74)⟩] [(false, ⟨none, none, .store none (.t 75) (.t 73)⟩)])
    (.line [⟨(some 76), none, .move (.t 8)⟩, ⟨(some 77), none, .fa 0 (.t 12)⟩, ⟨(some 78), none, .load none (.t 77)⟩, ⟨(some 79), none, .bin .add none (.t 78) (.c (.int .i64 1))⟩, ⟨(some 80), none, .nilc (.t 76)⟩, ⟨(some 81), none, .fa 4 (.t 80)⟩, ⟨none, none, .store none (.t 81) (.t 79)⟩]))))))))))
 (.seq (.line [⟨(some 82), none, .move (.t 8)⟩, ⟨(some 83), none, .move (.t 10)⟩, ⟨(some 2), none, .move (.t 82)⟩, ⟨(some 3), none, .move (.t 83)⟩, ⟨(some 4), none, .move (.c (.int .i64 0))⟩])
 .ret)))))))))))⟩
/-- captioner/captionerlaw55.cut -/
def g13 : GFun := ⟨8, [.tmp 2],
 (.seq (.line [⟨(some 2), none, .move (.c (.slice none 0 0))⟩])
 (.seq (.line [⟨(some 3), none, .move (.t 0)⟩, ⟨(some 4), none, .move (.t 0)⟩, ⟨(some 5), none, .len false (.t 4)⟩, ⟨(some 6), none, .min (.t 5) [(.c (.int .i64 60))]⟩, ⟨(some 7), none, .slice (.sl 1) (.t 3) none (some (.t 6)) none⟩, ⟨(some 2), none, .move (.t 7)⟩])
 .ret))⟩
/-- (*captioner/journal.Log).Compact -/
def g14 : GFun := ⟨134, [.tmp 4, .tmp 5],
 (.seq (.line [⟨(some 4), none, .move (.c (.int .i64 0))⟩, ⟨(some 5), none, .move (.c (.int .i64 0))⟩])
 (.seq (.seq (.line [⟨(some 12), none, .move (.t 0)⟩, ⟨(some 13), none, .bin .eql (some .ptr) (.t 12) (.c (.pointer none))⟩])
 (.cond (.t 13) (.seq (.line [⟨(some 4), none, .move (.c (.int .i64 0))⟩, ⟨(some 5), none, .move (.c (.int .i64 1))⟩])
  .ret) .skip))
 (.seq (.seq (.line [⟨(some 14), none, .move (.t 0)⟩, ⟨(some 15), none, .move (.t 1)⟩, ⟨(some 16), none, .len false (.t 15)⟩, ⟨(some 17), none, .call (.c (.func (.func 40) #[] #[])) [(.t 14), (.c (.int .i64 13)), (.t 16)]⟩, ⟨(some 6), none, .move (.t 17)⟩])
 (.seq (.line [⟨(some 18), none, .move (.t 6)⟩, ⟨(some 19), none, .bin .neq (some .int) (.t 18) (.c (.int .i64 0))⟩])
 (.cond (.t 19) (.seq (.line [⟨(some 20), none, .move (.t 6)⟩, ⟨(some 4), none, .move (.c (.int .i64 0))⟩, ⟨(some 5), none, .move (.t 20)⟩])
  .ret) .skip)))
 (.seq (.any [] [⟨(some 21), none, .move (.t 0)⟩, ⟨(some 22), none, .nilc (.t 21)⟩, ⟨(some 23), none, .fa 0 (.t 22)⟩, ⟨(some 24), none, .load none (.t 23)⟩, ⟨(some 25), none, .move (.t 0)⟩, ⟨(some 26), none, .nilc (.t 25)⟩, ⟨(some 27), none, .fa 1 (.t 26)⟩, ⟨(some 28), none, .load none (.t 27)⟩, ⟨(some 29), none, .bin .sub none (.c (.int .i64 1)) (.t 28)⟩, ⟨(some 7), none, .move (.t 24)⟩, ⟨(some 8), none, .move (.t 29)⟩] [])
 (.seq (.line [⟨(some 30), none, .move (.t 8)⟩, ⟨(some 31), none, .move (.t 7)⟩, ⟨(some 32), none, .call (.c (.func (.func 24) #[] #[])) [(.t 31)]⟩, ⟨(some 33), none, .bin .mul none (.t 30) (.t 32)⟩, ⟨(some 9), none, .move (.t 33)⟩])
 (.seq (.line [⟨(some 34), none, .move (.t 9)⟩, ⟨(some 35), none, .bin .add none (.t 34) (.c (.int .i64 13))⟩, ⟨(some 10), none, .move (.t 35)⟩])
 (.seq (.line [⟨(some 36), none, .move (.t 0)⟩, ⟨(some 37), none, .nilc (.t 36)⟩, ⟨(some 38), none, .fa 2 (.t 37)⟩, ⟨(some 39), none, .load none (.t 38)⟩, ⟨(some 40), none, .bin .add none (.t 39) (.c (.int .u64 1))⟩, ⟨(some 41), none, .call (.c (.func (.func 36) #[] #[])) [(.t 40), (.c (.int .i64 8))]⟩, ⟨(some 42), none, .call (.c (.func (.func 35) #[] #[])) [(.t 41)]⟩, ⟨(some 11), none, .move (.t 42)⟩])
 (.seq (.seq (.line [⟨(some 43), none, .move (.t 7)⟩, ⟨(some 44), none, .move (.t 9)⟩, ⟨(some 45), none, .buildSl 257 1 [(.int .u8 0)] [(0, 1, (.c (.int .u8 0)))]⟩, ⟨(some 46), none, .call (.c (.func (.func 41) #[] #[])) [(.t 43), (.t 44), (.t 45)]⟩, ⟨(some 47), none, .un .not (.t 46)⟩, ⟨(some 48), none, .move (.t 47)⟩, ⟨(some 49), (some (48, false)), .move (.t 7)⟩, ⟨(some 50), (some (48, false)), .move (.t 9)⟩, ⟨(some 51), (some (48, false)), .bin .add none (.t 50) (.c (.int .i64 1))⟩, ⟨(some 52), (some (48, false)), .move (.t 11)⟩, ⟨(some 53), (some (48, false)), .call (.c (.func (.func 41) #[] #[])) [(.t 49), (.t 51), (.t 52)]⟩, ⟨(some 54), (some (48, false)), .un .not (.t 53)⟩, ⟨(some 55), none, .pick (.t 48) (.c (.bool true)) (.t 54)⟩, ⟨(some 56), none, .move (.t 55)⟩, ⟨(some 57), (some (56, false)), .move (.t 7)⟩, ⟨(some 58), (some (56, false)), .move (.t 10)⟩, ⟨(some 59), (some (56, false)), .buildSl 257 1 [(.int .u8 0)] [(0, 1, (.c (.int .u8 0)))]⟩, ⟨(some 60), (some (56, false)), .call (.c (.func (.func 41) #[] #[])) [(.t 57), (.t 58), (.t 59)]⟩, ⟨(some 61), (some (56, false)), .un .not (.t 60)⟩, ⟨(some 62), none, .pick (.t 56) (.c (.bool true)) (.t 61)⟩, ⟨(some 63), none, .move (.t 62)⟩, ⟨(some 64), (some (63, false)), .move (.t 7)⟩, ⟨(some 65), (some (63, false)), .move (.t 10)⟩, ⟨(some 66), (some (63, false)), .bin .add none (.t 65) (.c (.int .i64 17))⟩, ⟨(some 67), (some (63, false)), .move (.t 1)⟩, ⟨(some 68), (some (63, false)), .len false (.t 67)⟩, ⟨(some 69), (some (63, false)), .bin .add none (.t 66) (.t 68)⟩, ⟨(some 70), (some (63, false)), .buildSl 257 1 [(.int .u8 0)] [(0, 1, (.c (.int .u8 0)))]⟩, ⟨(some 71), (some (63, false)), .call (.c (.func (.func 41) #[] #[])) [(.t 64), (.t 69), (.t 70)]⟩, ⟨(some 72), (some (63, false)), .un .not (.t 71)⟩, ⟨(some 73), none, .pick (.t 63) (.c (.bool true)) (.t 72)⟩, ⟨(some 74), none, .move (.t 73)⟩, ⟨(some 75), (some (74, false)), .move (.t 7)⟩, ⟨(some 76), (some (74, false)), .move (.t 10)⟩, ⟨(some 77), (some (74, false)), .bin .add none (.t 76) (.c (.int .i64 1))⟩, ⟨(some 78), (some (74, false)), .move (.t 0)⟩, ⟨(some 79), (some (74, false)), .move (.t 1)⟩, ⟨(some 80), (some (74, false)), .call (.c (.func (.func 42) #[] #[])) [(.t 78), (.t 79)]⟩, ⟨(some 81), (some (74, false)), .call (.c (.func (.func 41) #[] #[])) [(.t 75), (.t 77), (.t 80)]⟩, ⟨(some 82), (some (74, false)), .un .not (.t 81)⟩, ⟨(some 83), none, .pick (.t 74) (.c (.bool true)) (.t 82)⟩, ⟨(some 84), none, .move (.t 83)⟩, ⟨(some 85), (some (84, false)), .move (.t 7)⟩, ⟨(some 86), (some (84, false)), .move (.t 10)⟩, ⟨(some 87), (some (84, false)), .buildSl 257 1 [(.int .u8 0)] [(0, 1, (.c (.int .u8 166)))]⟩, ⟨(some 88), (some (84, false)), .call (.c (.func (.func 41) #[] #[])) [(.t 85), (.t 86), (.t 87)]⟩, ⟨(some 89), (some (84, false)), .un .not (.t 88)⟩, ⟨(some 90), none, .pick (.t 84) (.c (.bool true)) (.t 89)⟩, ⟨(some 91), none, .move (.t 90)⟩, ⟨(some 92), (some (91, false)), .move (.t 7)⟩, ⟨(some 93), (some (91, false)), .move (.t 9)⟩, ⟨(some 94), (some (91, false)), .buildSl 257 1 [(.int .u8 0)] [(0, 1, (.c (.int .u8 183)))]⟩, ⟨(some 95), (some (91, false)), .call (.c (.func (.func 41) #[] #[])) [(.t 92), (.t 93), (.t 94)]⟩, ⟨(some 96), (some (91, false)), .un .not (.t 95)⟩, ⟨(some 97), none, .pick (.t 91) (.c (.bool true)) (.t 96)⟩])
 (.cond (.t 97) (.seq (.line [⟨(some 98), none, .move (.t 0)⟩, ⟨(some 99), none, .nilc (.t 98)⟩, ⟨(some 100), none, .fa 5 (.t 99)⟩, ⟨none, none, .store none (.t 100) (.c (.bool true))⟩])
  (.seq (.line [⟨(some 4), none, .move (.c (.int .i64 0))⟩, ⟨(some 5), none, .move (.c (.int .i64 21))⟩])
  .ret)) .skip))
 (.seq (.line [⟨(some 101), none, .move (.t 0)⟩, ⟨(some 102), none, .move (.t 0)⟩, ⟨(some 103), none, .move (.t 0)⟩, ⟨(some 104), none, .move (.t 8)⟩, ⟨(some 105), none, .move (.t 0)⟩, ⟨(some 106), none, .nilc (.t 105)⟩, ⟨(some 107), none, .fa 2 (.t 106)⟩, ⟨(some 108), none, .load none (.t 107)⟩, ⟨(some 109), none, .bin .add none (.t 108) (.c (.int .u64 1))⟩, ⟨(some 110), none, .nilc (.t 101)⟩, ⟨(some 111), none, .fa 1 (.t 110)⟩, ⟨none, none, .store none (.t 111) (.t 104)⟩, ⟨(some 112), none, .nilc (.t 102)⟩, ⟨(some 113), none, .fa 2 (.t 112)⟩, ⟨none, none, .store none (.t 113) (.t 109)⟩, ⟨(some 114), none, .nilc (.t 103)⟩, ⟨(some 115), none, .fa 6 (.t 114)⟩, ⟨none, none, .store none (.t 115) (.c (.bool false))⟩])
 (.seq (.line [⟨(some 116), none, .move (.t 0)⟩, ⟨(some 117), none, .move (.t 1)⟩, ⟨(some 118), none, .len false (.t 117)⟩, ⟨(some 119), none, .bin .add none (.c (.int .i64 30)) (.t 118)⟩, ⟨(some 120), none, .nilc (.t 116)⟩, ⟨(some 121), none, .fa 3 (.t 120)⟩, ⟨none, none, .store none (.t 121) (.t 119)⟩])
 (.seq (.line [⟨(some 122), none, .move (.t 0)⟩, ⟨(some 123), none, .nilc (.t 122)⟩, ⟨(some 124), none, .fa 4 (.t 123)⟩, ⟨(some 125), none, .load none (.t 124)⟩, ⟨(some 126), none, .bin .add none (.t 125) (.c (.int .i64 1))⟩, ⟨(some 127), none, .nilc (.t 122)⟩, ⟨(some 128), none, .fa 4 (.t 127)⟩, ⟨none, none, .store none (.t 128) (.t 126)⟩])
 (.seq (.line [⟨(some 129), none, .move (.t 0)⟩, ⟨(some 130), none, .nilc (.t 129)⟩, ⟨(some 131), none, .fa 4 (.t 130)⟩, ⟨(some 132), none, .load none (.t 131)⟩, ⟨(some 133), none, .bin .sub none (.t 132) (.c (.int .i64 1))⟩, ⟨(some 4), none, .move (.t 133)⟩, ⟨(some 5), none, .move (.c (.int .i64 0))⟩])
 .ret))))))))))))⟩
/-- (*captioner/journal.Log).Free -/
def g15 : GFun := ⟨18, [.tmp 2],
 (.seq (.line [⟨(some 2), none, .move (.c (.int .i64 0))⟩])
 (.seq (.seq (.line [⟨(some 3), none, .move (.t 0)⟩, ⟨(some 4), none, .bin .eql (some .ptr) (.t 3) (.c (.pointer none))⟩])
 (.cond (.t 4) (.seq (.line [⟨(some 2), none, .move (.c (.int .i64 (-1)))⟩])
  .ret) .skip))
 (.seq (.any [] [⟨(some 5), none, .move (.t 0)⟩, ⟨(some 6), none, .nilc (.t 5)⟩, ⟨(some 7), none, .fa 0 (.t 6)⟩, ⟨(some 8), none, .load none (.t 7)⟩, ⟨(some 9), none, .call (.c (.func (.func 24) #[] #[])) [(.t 8)]⟩, ⟨(some 10), none, .move (.t 0)⟩, ⟨(some 11), none, .nilc (.t 10)⟩, ⟨(some 12), none, .fa 3 (.t 11)⟩, ⟨(some 13), none, .load none (.t 12)⟩, ⟨(some 14), none, .bin .sub none (.t 9) (.t 13)⟩, ⟨(some 15), none, .bin .sub none (.t 14) (.c (.int .i64 17))⟩, ⟨(some 16), none, .bin .sub none (.t 15) (.c (.int .i64 1))⟩, ⟨(some 17), none, .max (.t 16) [(.c (.int .i64 (-1)))]⟩, ⟨(some 2), none, .move (.t 17)⟩] [])
 .ret)))⟩
/-- (*captioner/journal.Log).Append -/
def g16 : GFun := ⟨101, [.tmp 4, .tmp 5],
 (.seq (.line [⟨(some 4), none, .move (.c (.int .i64 0))⟩, ⟨(some 5), none, .move (.c (.int .i64 0))⟩])
 (.seq (.seq (.line [⟨(some 10), none, .move (.t 0)⟩, ⟨(some 11), none, .bin .eql (some .ptr) (.t 10) (.c (.pointer none))⟩])
 (.cond (.t 11) (.seq (.line [⟨(some 4), none, .move (.c (.int .i64 0))⟩, ⟨(some 5), none, .move (.c (.int .i64 1))⟩])
  .ret) .skip))
 (.seq (.seq (.line [⟨(some 12), none, .move (.t 0)⟩, ⟨(some 13), none, .move (.t 0)⟩, ⟨(some 14), none, .nilc (.t 13)⟩, ⟨(some 15), none, .fa 3 (.t 14)⟩, ⟨(some 16), none, .load none (.t 15)⟩, ⟨(some 17), none, .move (.t 1)⟩, ⟨(some 18), none, .len false (.t 17)⟩, ⟨(some 19), none, .call (.c (.func (.func 40) #[] #[])) [(.t 12), (.t 16), (.t 18)]⟩, ⟨(some 6), none, .move (.t 19)⟩])
 (.seq (.line [⟨(some 20), none, .move (.t 6)⟩, ⟨(some 21), none, .bin .neq (some .int) (.t 20) (.c (.int .i64 0))⟩])
 (.cond (.t 21) (.seq (.line [⟨(some 22), none, .move (.t 6)⟩, ⟨(some 4), none, .move (.c (.int .i64 0))⟩, ⟨(some 5), none, .move (.t 22)⟩])
  .ret) .skip)))
 (.seq (.any [] [⟨(some 23), none, .move (.t 0)⟩, ⟨(some 24), none, .nilc (.t 23)⟩, ⟨(some 25), none, .fa 0 (.t 24)⟩, ⟨(some 26), none, .load none (.t 25)⟩, ⟨(some 27), none, .move (.t 0)⟩, ⟨(some 28), none, .nilc (.t 27)⟩, ⟨(some 29), none, .fa 1 (.t 28)⟩, ⟨(some 30), none, .load none (.t 29)⟩, ⟨(some 31), none, .move (.t 0)⟩, ⟨(some 32), none, .nilc (.t 31)⟩, ⟨(some 33), none, .fa 0 (.t 32)⟩, ⟨(some 34), none, .load none (.t 33)⟩, ⟨(some 35), none, .call (.c (.func (.func 24) #[] #[])) [(.t 34)]⟩, ⟨(some 36), none, .bin .mul none (.t 30) (.t 35)⟩, ⟨(some 37), none, .move (.t 0)⟩, ⟨(some 38), none, .nilc (.t 37)⟩, ⟨(some 39), none, .fa 3 (.t 38)⟩, ⟨(some 40), none, .load none (.t 39)⟩, ⟨(some 41), none, .bin .add none (.t 36) (.t 40)⟩, ⟨(some 7), none, .move (.t 26)⟩, ⟨(some 8), none, .move (.t 41)⟩] [])
 (.seq (.line [⟨(some 42), none, .move (.t 8)⟩, ⟨(some 43), none, .bin .add none (.t 42) (.c (.int .i64 17))⟩, ⟨(some 44), none, .move (.t 1)⟩, ⟨(some 45), none, .len false (.t 44)⟩, ⟨(some 46), none, .bin .add none (.t 43) (.t 45)⟩, ⟨(some 9), none, .move (.t 46)⟩])
 (.seq (.seq (.line [⟨(some 47), none, .move (.t 7)⟩, ⟨(some 48), none, .move (.t 8)⟩, ⟨(some 49), none, .buildSl 257 1 [(.int .u8 0)] [(0, 1, (.c (.int .u8 0)))]⟩, ⟨(some 50), none, .call (.c (.func (.func 41) #[] #[])) [(.t 47), (.t 48), (.t 49)]⟩, ⟨(some 51), none, .un .not (.t 50)⟩, ⟨(some 52), none, .move (.t 51)⟩, ⟨(some 53), (some (52, false)), .move (.t 7)⟩, ⟨(some 54), (some (52, false)), .move (.t 9)⟩, ⟨(some 55), (some (52, false)), .buildSl 257 1 [(.int .u8 0)] [(0, 1, (.c (.int .u8 0)))]⟩, ⟨(some 56), (some (52, false)), .call (.c (.func (.func 41) #[] #[])) [(.t 53), (.t 54), (.t 55)]⟩, ⟨(some 57), (some (52, false)), .un .not (.t 56)⟩, ⟨(some 58), none, .pick (.t 52) (.c (.bool true)) (.t 57)⟩, ⟨(some 59), none, .move (.t 58)⟩, ⟨(some 60), (some (59, false)), .move (.t 7)⟩, ⟨(some 61), (some (59, false)), .move (.t 8)⟩, ⟨(some 62), (some (59, false)), .bin .add none (.t 61) (.c (.int .i64 1))⟩, ⟨(some 63), (some (59, false)), .move (.t 0)⟩, ⟨(some 64), (some (59, false)), .move (.t 1)⟩, ⟨(some 65), (some (59, false)), .call (.c (.func (.func 42) #[] #[])) [(.t 63), (.t 64)]⟩, ⟨(some 66), (some (59, false)), .call (.c (.func (.func 41) #[] #[])) [(.t 60), (.t 62), (.t 65)]⟩, ⟨(some 67), (some (59, false)), .un .not (.t 66)⟩, ⟨(some 68), none, .pick (.t 59) (.c (.bool true)) (.t 67)⟩, ⟨(some 69), none, .move (.t 68)⟩, ⟨(some 70), (some (69, false)), .move (.t 7)⟩, ⟨(some 71), (some (69, false)), .move (.t 8)⟩, ⟨(some 72), (some (69, false)), .buildSl 257 1 [(.int .u8 0)] [(0, 1, (.c (.int .u8 165)))]⟩, ⟨(some 73), (some (69, false)), .call (.c (.func (.func 41) #[] #[])) [(.t 70), (.t 71), (.t 72)]⟩, ⟨(some 74), (some (69, false)), .un .not (.t 73)⟩, ⟨(some 75), none, .pick (.t 69) (.c (.bool true)) (.t 74)⟩])
 (.cond (.t 75) (.seq (.line [⟨(some 76), none, .move (.t 0)⟩, ⟨(some 77), none, .nilc (.t 76)⟩, ⟨(some 78), none, .fa 5 (.t 77)⟩, ⟨none, none, .store none (.t 78) (.c (.bool true))⟩])
  (.seq (.line [⟨(some 4), none, .move (.c (.int .i64 0))⟩, ⟨(some 5), none, .move (.c (.int .i64 21))⟩])
  .ret)) .skip))
 (.seq (.line [⟨(some 79), none, .move (.t 0)⟩, ⟨(some 80), none, .nilc (.t 79)⟩, ⟨(some 81), none, .fa 3 (.t 80)⟩, ⟨(some 82), none, .load none (.t 81)⟩, ⟨(some 83), none, .move (.t 1)⟩, ⟨(some 84), none, .len false (.t 83)⟩, ⟨(some 85), none, .bin .add none (.c (.int .i64 17)) (.t 84)⟩, ⟨(some 86), none, .bin .add none (.t 82) (.t 85)⟩, ⟨(some 87), none, .nilc (.t 79)⟩, ⟨(some 88), none, .fa 3 (.t 87)⟩, ⟨none, none, .store none (.t 88) (.t 86)⟩])
 (.seq (.line [⟨(some 89), none, .move (.t 0)⟩, ⟨(some 90), none, .nilc (.t 89)⟩, ⟨(some 91), none, .fa 4 (.t 90)⟩, ⟨(some 92), none, .load none (.t 91)⟩, ⟨(some 93), none, .bin .add none (.t 92) (.c (.int .i64 1))⟩, ⟨(some 94), none, .nilc (.t 89)⟩, ⟨(some 95), none, .fa 4 (.t 94)⟩, ⟨none, none, .store none (.t 95) (.t 93)⟩])
 (.seq (.line [⟨(some 96), none, .move (.t 0)⟩, ⟨(some 97), none, .nilc (.t 96)⟩, ⟨(some 98), none, .fa 4 (.t 97)⟩, ⟨(some 99), none, .load none (.t 98)⟩, ⟨(some 100), none, .bin .sub none (.t 99) (.c (.int .i64 1))⟩, ⟨(some 4), none, .move (.t 100)⟩, ⟨(some 5), none, .move (.c (.int .i64 0))⟩])
 .ret)))))))))⟩
/-- captioner/captionerref55.SameRecords -/
def g17 : GFun := ⟨56, [.tmp 4],
 (.seq (.line [⟨(some 4), none, .move (.c (.bool false))⟩])
 (.seq (.seq (.line [⟨(some 6), none, .move (.t 0)⟩, ⟨(some 7), none, .len false (.t 6)⟩, ⟨(some 8), none, .move (.t 1)⟩, ⟨(some 9), none, .len false (.t 8)⟩, ⟨(some 10), none, .bin .neq (some .int) (.t 7) (.t 9)⟩])
 (.cond (.t 10) (.seq (.line [⟨(some 4), none, .move (.c (.bool false))⟩])
  .ret) .skip))
 (.seq (.seq (.line [⟨(some 11), none, .move (.t 0)⟩, ⟨(some 12), none, .len false (.t 11)⟩, ⟨(some 13), none, .move (.c (.int .i64 0))⟩])
 (.block 0 (.loop (.seq (.line [⟨(some 14), none, .bin .lss none (.t 13) (.t 12)⟩])
   (.seq (.cond (.t 14) .skip (.exit 0))
   (.seq (.block 1 (.seq (.line [⟨(some 15), none, .move (.t 13)⟩, ⟨(some 5), none, .move (.t 15)⟩])
    (.seq (.any [] [⟨(some 16), none, .move (.t 0)⟩, ⟨(some 17), none, .move (.t 5)⟩, ⟨(some 18), none, .ia none 3 (.t 16) (.t 17)⟩, ⟨(some 19), none, .fa 0 (.t 18)⟩, ⟨(some 20), none, .load none (.t 19)⟩, ⟨(some 21), none, .move (.t 1)⟩, ⟨(some 22), none, .move (.t 5)⟩, ⟨(some 23), none, .ia none 3 (.t 21) (.t 22)⟩, ⟨(some 24), none, .fa 0 (.t 23)⟩, ⟨(some 25), none, .load none (.t 24)⟩, ⟨(some 26), none, .bin .neq (some .int) (.t 20) (.t 25)⟩, ⟨(some 27), none, .move (.t 26)⟩, ⟨(some 28), (some (27, false)), .move (.t 0)⟩, ⟨(some 29), (some (27, false)), .move (.t 5)⟩, ⟨(some 30), (some (27, false)), .ia none 3 (.t 28) (.t 29)⟩, ⟨(some 31), (some (27, false)), .fa 1 (.t 30)⟩, ⟨(some 32), (some (27, false)), .load none (.t 31)⟩, ⟨(some 33), (some (27, false)), .move (.t 1)⟩, ⟨(some 34), (some (27, false)), .move (.t 5)⟩, ⟨(some 35), (some (27, false)), .ia none 3 (.t 33) (.t 34)⟩, ⟨(some 36), (some (27, false)), .fa 1 (.t 35)⟩, ⟨(some 37), (some (27, false)), .load none (.t 36)⟩, ⟨(some 38), (some (27, false)), .bin .neq (some .bool) (.t 32) (.t 37)⟩, ⟨(some 39), none, .pick (.t 27) (.c (.bool true)) (.t 38)⟩, ⟨(some 40), none, .move (.t 39)⟩, ⟨(some 41), (some (40, false)), .move (.t 0)⟩, ⟨(some 42), (some (40, false)), .move (.t 5)⟩, ⟨(some 43), (some (40, false)), .ia none 3 (.t 41) (.t 42)⟩, ⟨(some 44), (some (40, false)), .fa 2 (.t 43)⟩, ⟨(some 45), (some (40, false)), .load none (.t 44)⟩, ⟨(some 46), (some (40, false)), .conv .ofBytes (.t 45)⟩, ⟨(some 47), (some (40, false)), .move (.t 1)⟩, ⟨(some 48), (some (40, false)), .move (.t 5)⟩, ⟨(some 49), (some (40, false)), .ia none 3 (.t 47) (.t 48)⟩, ⟨(some 50), (some (40, false)), .fa 2 (.t 49)⟩, ⟨(some 51), (some (40, false)), .load none (.t 50)⟩, ⟨(some 52), (some (40, false)), .conv .ofBytes (.t 51)⟩, ⟨(some 53), (some (40, false)), .bin .neq (some .str) (.t 46) (.t 52)⟩, ⟨(some 54), none, .pick (.t 40) (.c (.bool true)) (.t 53)⟩] [])
    (.cond (.t 54) (.seq (.line [⟨(some 4), none, .move (.c (.bool false))⟩])
     .ret) .skip))))
   (.line [⟨(some 55), none, .bin .add none (.t 13) (.c (.int .i64 1))⟩, ⟨(some 13), none, .move (.t 55)⟩])))))))
 (.seq (.line [⟨(some 4), none, .move (.c (.bool true))⟩])
 .ret))))⟩
/-- (*captioner/journal.Log).Next -/
def g18 : GFun := ⟨9, [.tmp 2],
 (.seq (.line [⟨(some 2), none, .move (.c (.int .i64 0))⟩])
 (.seq (.seq (.line [⟨(some 3), none, .move (.t 0)⟩, ⟨(some 4), none, .bin .eql (some .ptr) (.t 3) (.c (.pointer none))⟩])
 (.cond (.t 4) (.seq (.line [⟨(some 2), none, .move (.c (.int .i64 0))⟩])
  .ret) .skip))
 (.seq (.line [⟨(some 5), none, .move (.t 0)⟩, ⟨(some 6), none, .nilc (.t 5)⟩, ⟨(some 7), none, .fa 4 (.t 6)⟩, ⟨(some 8), none, .load none (.t 7)⟩, ⟨(some 2), none, .move (.t 8)⟩])
 .ret)))⟩
/-- (*captioner/journal.Log).Damaged -/
def g19 : GFun := ⟨11, [.tmp 2],
 (.seq (.line [⟨(some 2), none, .move (.c (.bool false))⟩])
 (.seq (.line [⟨(some 3), none, .move (.t 0)⟩, ⟨(some 4), none, .bin .neq (some .ptr) (.t 3) (.c (.pointer none))⟩, ⟨(some 5), none, .move (.t 4)⟩, ⟨(some 6), (some (5, true)), .move (.t 0)⟩, ⟨(some 7), (some (5, true)), .nilc (.t 6)⟩, ⟨(some 8), (some (5, true)), .fa 6 (.t 7)⟩, ⟨(some 9), (some (5, true)), .load none (.t 8)⟩, ⟨(some 10), none, .pick (.t 5) (.t 9) (.c (.bool false))⟩, ⟨(some 2), none, .move (.t 10)⟩])
 .ret))⟩
/-- (*captioner/journal.Memory).Arm -/
def g20 : GFun := ⟨14, [],
 (.seq (.line [⟨(some 4), none, .move (.t 0)⟩, ⟨(some 5), none, .bin .neq (some .ptr) (.t 4) (.c (.pointer none))⟩])
 (.cond (.t 5) (.line [⟨(some 6), none, .move (.t 0)⟩, ⟨(some 7), none, .move (.t 0)⟩, ⟨(some 8), none, .move (.t 1)⟩, ⟨(some 9), none, .max (.t 8) [(.c (.int .i64 0))]⟩, ⟨(some 10), none, .nilc (.t 6)⟩, ⟨(some 11), none, .fa 1 (.t 10)⟩, ⟨none, none, .store none (.t 11) (.c (.bool true))⟩, ⟨(some 12), none, .nilc (.t 7)⟩, ⟨(some 13), none, .fa 2 (.t 12)⟩, ⟨none, none, .store none (.t 13) (.t 9)⟩]) .skip))⟩
/-- (*captioner/journal.Memory).On -/
def g21 : GFun := ⟨13, [],
 (.seq (.line [⟨(some 2), none, .move (.t 0)⟩, ⟨(some 3), none, .bin .neq (some .ptr) (.t 2) (.c (.pointer none))⟩])
 (.cond (.t 3) (.line [⟨(some 4), none, .move (.t 0)⟩, ⟨(some 5), none, .move (.t 0)⟩, ⟨(some 6), none, .move (.t 0)⟩, ⟨(some 7), none, .nilc (.t 4)⟩, ⟨(some 8), none, .fa 3 (.t 7)⟩, ⟨none, none, .store none (.t 8) (.c (.bool false))⟩, ⟨(some 9), none, .nilc (.t 5)⟩, ⟨(some 10), none, .fa 1 (.t 9)⟩, ⟨none, none, .store none (.t 10) (.c (.bool false))⟩, ⟨(some 11), none, .nilc (.t 6)⟩, ⟨(some 12), none, .fa 2 (.t 11)⟩, ⟨none, none, .store none (.t 12) (.c (.int .i64 0))⟩]) .skip))⟩
/-- captioner/captionerref55.NewMemory -/
def g22 : GFun := ⟨38, [.cell 2 (some 5), .tmp 3],
 (.seq (.line [⟨(some 2), none, .alloc [(.int .i64 0), (.slice none 0 0), (.bool false), (.int .i64 0), (.bool false)]⟩, ⟨(some 3), none, .move (.c (.int .i64 0))⟩])
 (.seq (.seq (.line [⟨(some 7), none, .move (.t 0)⟩, ⟨(some 8), none, .bin .lss none (.t 7) (.c (.int .i64 64))⟩, ⟨(some 9), none, .move (.t 8)⟩, ⟨(some 10), (some (9, false)), .move (.t 0)⟩, ⟨(some 11), (some (9, false)), .bin .gtr none (.t 10) (.c (.int .i64 8388608))⟩, ⟨(some 12), none, .pick (.t 9) (.c (.bool true)) (.t 11)⟩])
 (.cond (.t 12) (.seq (.line [⟨(some 13), none, .build [(.int .i64 0), (.slice none 0 0), (.bool false), (.int .i64 0), (.bool false)] []⟩, ⟨none, none, .store (some 5) (.t 2) (.t 13)⟩, ⟨(some 3), none, .move (.c (.int .i64 2))⟩])
  .ret) .skip))
 (.seq (.line [⟨(some 14), none, .move (.t 0)⟩, ⟨(some 15), none, .move (.t 0)⟩, ⟨(some 16), none, .bin .mul none (.c (.int .i64 2)) (.t 15)⟩, ⟨(some 17), none, .mk [(.int .u8 0)] 1 257 (.t 16) (.t 16)⟩, ⟨(some 18), none, .build [(.int .i64 0), (.slice none 0 0), (.bool false), (.int .i64 0), (.bool false)] [(0, 1, (.t 14)), (1, 1, (.t 17))]⟩, ⟨(some 4), none, .alloc [(.int .i64 0), (.slice none 0 0), (.bool false), (.int .i64 0), (.bool false)]⟩, ⟨none, none, .store (some 5) (.t 4) (.t 18)⟩])
 (.seq (.line [⟨(some 19), none, .fa 1 (.t 4)⟩, ⟨(some 20), none, .load none (.t 19)⟩, ⟨(some 21), none, .ia none 1 (.t 20) (.c (.int .i64 0))⟩, ⟨none, none, .store none (.t 21) (.c (.int .u8 183))⟩])
 (.seq (.seq (.line [⟨(some 22), none, .call (.c (.func (.func 44) #[] #[])) [(.c (.int .u64 1)), (.c (.int .i64 8))]⟩, ⟨(some 23), none, .call (.c (.func (.func 43) #[] #[])) [(.t 22)]⟩, ⟨(some 24), none, .len false (.t 23)⟩, ⟨(some 25), none, .move (.c (.int .i64 0))⟩])
 (.block 0 (.loop (.seq (.line [⟨(some 26), none, .bin .lss none (.t 25) (.t 24)⟩])
   (.seq (.cond (.t 26) .skip (.exit 0))
   (.seq (.block 1 (.seq (.line [⟨(some 27), none, .move (.t 25)⟩, ⟨(some 28), none, .ia none 1 (.t 23) (.t 25)⟩, ⟨(some 29), none, .load none (.t 28)⟩, ⟨(some 5), none, .move (.t 27)⟩, ⟨(some 6), none, .move (.t 29)⟩])
    (.line [⟨(some 30), none, .fa 1 (.t 4)⟩, ⟨(some 31), none, .load none (.t 30)⟩, ⟨(some 32), none, .move (.t 5)⟩, ⟨(some 33), none, .bin .add none (.c (.int .i64 1)) (.t 32)⟩, ⟨(some 34), none, .move (.t 6)⟩, ⟨(some 35), none, .ia none 1 (.t 31) (.t 33)⟩, ⟨none, none, .store none (.t 35) (.t 34)⟩])))
   (.line [⟨(some 36), none, .bin .add none (.t 25) (.c (.int .i64 1))⟩, ⟨(some 25), none, .move (.t 36)⟩])))))))
 (.seq (.line [⟨(some 37), none, .load (some 5) (.t 4)⟩, ⟨none, none, .store (some 5) (.t 2) (.t 37)⟩, ⟨(some 3), none, .move (.c (.int .i64 0))⟩])
 .ret))))))⟩
/-- (*captioner/journal.Memory).Bytes -/
def g23 : GFun := ⟨10, [.tmp 2],
 (.seq (.line [⟨(some 2), none, .move (.c (.slice none 0 0))⟩])
 (.seq (.seq (.line [⟨(some 3), none, .move (.t 0)⟩, ⟨(some 4), none, .bin .eql (some .ptr) (.t 3) (.c (.pointer none))⟩])
 (.cond (.t 4) (.seq (.line [⟨(some 2), none, .move (.c (.slice none 0 0))⟩])
  .ret) .skip))
 (.seq (.line [⟨(some 5), none, .move (.t 0)⟩, ⟨(some 6), none, .nilc (.t 5)⟩, ⟨(some 7), none, .fa 0 (.t 6)⟩, ⟨(some 8), none, .load none (.t 7)⟩, ⟨(some 9), none, .call (.c (.func (.func 45) #[] #[])) [(.t 8)]⟩, ⟨(some 2), none, .move (.t 9)⟩])
 .ret)))⟩
/-- (*captioner/journal.Memory).Size -/
def g24 : GFun := ⟨11, [.tmp 2],
 (.seq (.line [⟨(some 2), none, .move (.c (.int .i64 0))⟩])
 (.seq (.seq (.line [⟨(some 3), none, .move (.t 0)⟩, ⟨(some 4), none, .bin .eql (some .ptr) (.t 3) (.c (.pointer none))⟩])
 (.cond (.t 4) (.seq (.line [⟨(some 2), none, .move (.c (.int .i64 0))⟩])
  .ret) .skip))
 (.seq (.line [⟨(some 5), none, .move (.t 0)⟩, ⟨(some 6), none, .nilc (.t 5)⟩, ⟨(some 7), none, .fa 0 (.t 6)⟩, ⟨(some 8), none, .load none (.t 7)⟩, ⟨(some 9), none, .len false (.t 8)⟩, ⟨(some 10), none, .bin .quo none (.t 9) (.c (.int .i64 2))⟩, ⟨(some 2), none, .move (.t 10)⟩])
 .ret)))⟩
/-- (*captioner/journal.Memory).Flip -/
def g25 : GFun := ⟨32, [.tmp 4],
 (.seq (.line [⟨(some 4), none, .move (.c (.int .i64 0))⟩])
 (.seq (.seq (.line [⟨(some 5), none, .move (.t 0)⟩, ⟨(some 6), none, .bin .eql (some .ptr) (.t 5) (.c (.pointer none))⟩])
 (.cond (.t 6) (.seq (.line [⟨(some 4), none, .move (.c (.int .i64 1))⟩])
  .ret) .skip))
 (.seq (.seq (.line [⟨(some 7), none, .move (.t 1)⟩, ⟨(some 8), none, .bin .lss none (.t 7) (.c (.int .i64 0))⟩, ⟨(some 9), none, .move (.t 8)⟩, ⟨(some 10), (some (9, false)), .move (.t 1)⟩, ⟨(some 11), (some (9, false)), .move (.t 0)⟩, ⟨(some 12), (some (9, false)), .nilc (.t 11)⟩, ⟨(some 13), (some (9, false)), .fa 0 (.t 12)⟩, ⟨(some 14), (some (9, false)), .load none (.t 13)⟩, ⟨(some 15), (some (9, false)), .len false (.t 14)⟩, ⟨(some 16), (some (9, false)), .bin .mul none (.c (.int .i64 8)) (.t 15)⟩, ⟨(some 17), (some (9, false)), .bin .geq none (.t 10) (.t 16)⟩, ⟨(some 18), none, .pick (.t 9) (.c (.bool true)) (.t 17)⟩])
 (.cond (.t 18) (.seq (.line [⟨(some 4), none, .move (.c (.int .i64 2))⟩])
  .ret) .skip))
 (.seq (.any [] [⟨(some 19), none, .move (.t 0)⟩, ⟨(some 20), none, .nilc (.t 19)⟩, ⟨(some 21), none, .fa 0 (.t 20)⟩, ⟨(some 22), none, .load none (.t 21)⟩, ⟨(some 23), none, .move (.t 1)⟩, ⟨(some 24), none, .bin .quo none (.t 23) (.c (.int .i64 8))⟩, ⟨(some 25), none, .ia none 1 (.t 22) (.t 24)⟩, ⟨(some 26), none, .load none (.t 25)⟩, ⟨(some 27), none, .move (.t 1)⟩, ⟨(some 28), none, .bin .rem none (.t 27) (.c (.int .i64 8))⟩, ⟨(some 29), none, .bin .shl none (.c (.int .u8 1)) (.t 28)⟩, ⟨(some 30), none, .bin .xor none (.t 26) (.t 29)⟩, ⟨(some 31), none, .ia none 1 (.t 22) (.t 24)⟩] [(false, ⟨none, none, .store none (.t 31) (.t 30)⟩)])
 (.seq (.line [⟨(some 4), none, .move (.c (.int .i64 0))⟩])
 .ret)))))⟩
/-- (*captioner/journal.Memory).Off -/
def g26 : GFun := ⟨11, [.tmp 2],
 (.seq (.line [⟨(some 2), none, .move (.c (.bool false))⟩])
 (.seq (.line [⟨(some 3), none, .move (.t 0)⟩, ⟨(some 4), none, .bin .neq (some .ptr) (.t 3) (.c (.pointer none))⟩, ⟨(some 5), none, .move (.t 4)⟩, ⟨(some 6), (some (5, true)), .move (.t 0)⟩, ⟨(some 7), (some (5, true)), .nilc (.t 6)⟩, ⟨(some 8), (some (5, true)), .fa 3 (.t 7)⟩, ⟨(some 9), (some (5, true)), .load none (.t 8)⟩, ⟨(some 10), none, .pick (.t 5) (.t 9) (.c (.bool false))⟩, ⟨(some 2), none, .move (.t 10)⟩])
 .ret))⟩
/-- captioner/captionerref55.Open -/
def g27 : GFun := ⟨92, [.cell 2 (some 6), .tmp 3, .tmp 4],
 (.seq (.line [⟨(some 1), none, .box (.t 0)⟩, ⟨(some 2), none, .alloc [(.int .i64 0), (.int .i64 0), (.int .i64 0), (.int .u64 0), (.bool false), (.bool false)]⟩, ⟨(some 3), none, .move (.c (.slice none 0 0))⟩, ⟨(some 4), none, .move (.c (.int .i64 0))⟩])
 (.seq (.seq (.line [⟨(some 14), none, .fa 4 (.t 1)⟩, ⟨(some 15), none, .load none (.t 14)⟩])
 (.cond (.t 15) (.seq (.line [⟨(some 16), none, .build [(.int .i64 0), (.int .i64 0), (.int .i64 0), (.int .u64 0), (.bool false), (.bool false)] []⟩, ⟨none, none, .store (some 6) (.t 2) (.t 16)⟩, ⟨(some 3), none, .move (.c (.slice none 0 0))⟩, ⟨(some 4), none, .move (.c (.int .i64 21))⟩])
  .ret) .skip))
 (.seq (.line [⟨(some 18), none, .load (some 5) (.t 1)⟩, ⟨(some 19), none, .call (.c (.func (.func 47) #[] #[])) [(.t 18), (.c (.int .i64 0))]⟩, ⟨(some 20), none, .call (.c (.func (.func 46) #[] #[])) [(.t 19)]⟩, ⟨(some 17), none, .move (.t 20)⟩, ⟨(some 21), none, .ext (.t 17) 0⟩, ⟨(some 22), none, .ext (.t 17) 1⟩, ⟨(some 5), none, .move (.t 21)⟩, ⟨(some 6), none, .move (.t 22)⟩])
 (.seq (.line [⟨(some 24), none, .load (some 5) (.t 1)⟩, ⟨(some 25), none, .call (.c (.func (.func 47) #[] #[])) [(.t 24), (.c (.int .i64 1))]⟩, ⟨(some 26), none, .call (.c (.func (.func 46) #[] #[])) [(.t 25)]⟩, ⟨(some 23), none, .move (.t 26)⟩, ⟨(some 27), none, .ext (.t 23) 0⟩, ⟨(some 28), none, .ext (.t 23) 1⟩, ⟨(some 7), none, .move (.t 27)⟩, ⟨(some 8), none, .move (.t 28)⟩])
 (.seq (.seq (.line [⟨(some 29), none, .move (.t 6)⟩, ⟨(some 30), none, .un .not (.t 29)⟩, ⟨(some 31), none, .move (.t 30)⟩, ⟨(some 32), (some (31, true)), .move (.t 8)⟩, ⟨(some 33), (some (31, true)), .un .not (.t 32)⟩, ⟨(some 34), none, .pick (.t 31) (.t 33) (.c (.bool false))⟩])
 (.cond (.t 34) (.seq (.line [⟨(some 35), none, .build [(.int .i64 0), (.int .i64 0), (.int .i64 0), (.int .u64 0), (.bool false), (.bool false)] []⟩, ⟨none, none, .store (some 6) (.t 2) (.t 35)⟩, ⟨(some 3), none, .move (.c (.slice none 0 0))⟩, ⟨(some 4), none, .move (.c (.int .i64 19))⟩])
  .ret) .skip))
 (.seq (.line [⟨(some 36), none, .move (.t 5)⟩, ⟨(some 37), none, .build [(.int .i64 0), (.int .i64 0), (.int .i64 0), (.int .u64 0), (.bool false), (.bool false)] [(1, 1, (.c (.int .i64 13))), (2, 1, (.c (.int .i64 1))), (3, 1, (.t 36))]⟩, ⟨(some 9), none, .alloc [(.int .i64 0), (.int .i64 0), (.int .i64 0), (.int .u64 0), (.bool false), (.bool false)]⟩, ⟨none, none, .store (some 6) (.t 9) (.t 37)⟩])
 (.seq (.seq (.line [⟨(some 38), none, .move (.t 8)⟩, ⟨(some 39), none, .move (.t 38)⟩, ⟨(some 40), (some (39, true)), .move (.t 6)⟩, ⟨(some 41), (some (39, true)), .un .not (.t 40)⟩, ⟨(some 42), (some (39, true)), .move (.t 41)⟩, ⟨(some 43), (some (42, false)), .move (.t 7)⟩, ⟨(some 44), (some (42, false)), .move (.t 5)⟩, ⟨(some 45), (some (42, false)), .bin .gtr none (.t 43) (.t 44)⟩, ⟨(some 46), (some (39, true)), .pick (.t 42) (.c (.bool true)) (.t 45)⟩, ⟨(some 47), none, .pick (.t 39) (.t 46) (.c (.bool false))⟩])
 (.cond (.t 47) (.line [⟨(some 48), none, .move (.t 7)⟩, ⟨(some 49), none, .fa 0 (.t 9)⟩, ⟨none, none, .store none (.t 49) (.c (.int .i64 1))⟩, ⟨(some 50), none, .fa 3 (.t 9)⟩, ⟨none, none, .store none (.t 50) (.t 48)⟩]) .skip))
 (.seq (.line [⟨(some 51), none, .load (some 5) (.t 1)⟩, ⟨(some 52), none, .fa 0 (.t 9)⟩, ⟨(some 53), none, .load none (.t 52)⟩, ⟨(some 54), none, .call (.c (.func (.func 47) #[] #[])) [(.t 51), (.t 53)]⟩, ⟨(some 10), none, .move (.t 54)⟩])
 (.seq (.line [⟨(some 11), none, .move (.c (.slice none 0 0))⟩])
 (.seq (.block 0 (.loop (.seq (.seq (.line [⟨(some 55), none, .move (.t 10)⟩, ⟨(some 56), none, .fa 1 (.t 9)⟩, ⟨(some 57), none, .load none (.t 56)⟩, ⟨(some 58), none, .ia none 1 (.t 55) (.t 57)⟩, ⟨(some 59), none, .load none (.t 58)⟩, ⟨(some 60), none, .bin .neq (some .int) (.t 59) (.c (.int .u8 0))⟩])
   (.cond (.t 60) .skip (.exit 0)))
   (.block 1 (.seq (.line [⟨(some 62), none, .move (.t 10)⟩, ⟨(some 63), none, .fa 1 (.t 9)⟩, ⟨(some 64), none, .load none (.t 63)⟩, ⟨(some 65), none, .fa 2 (.t 9)⟩, ⟨(some 66), none, .load none (.t 65)⟩, ⟨(some 67), none, .bin .sub none (.t 66) (.c (.int .i64 1))⟩, ⟨(some 68), none, .call (.c (.func (.func 48) #[] #[])) [(.t 62), (.t 64), (.t 67)]⟩, ⟨(some 61), none, .move (.t 68)⟩, ⟨(some 69), none, .ext (.t 61) 0⟩, ⟨(some 70), none, .ext (.t 61) 1⟩, ⟨(some 12), none, .alloc [(.int .i64 0), (.bool false), (.slice none 0 0)]⟩, ⟨none, none, .store (some 3) (.t 12) (.t 69)⟩, ⟨(some 13), none, .move (.t 70)⟩])
    (.seq (.seq (.line [⟨(some 71), none, .move (.t 13)⟩, ⟨(some 72), none, .un .not (.t 71)⟩])
    (.cond (.t 72) (.seq (.line [⟨(some 73), none, .fa 4 (.t 9)⟩, ⟨none, none, .store none (.t 73) (.c (.bool true))⟩])
     (.exit 0)) .skip))
    (.seq (.line [⟨(some 74), none, .move (.t 11)⟩, ⟨(some 75), none, .load (some 3) (.t 12)⟩, ⟨(some 76), none, .buildSl 3 1 [(.int .i64 0), (.bool false), (.slice none 0 0)] [(0, 3, (.t 75))]⟩, ⟨(some 77), none, .app 3 40 3 (.t 74) (.t 76)⟩, ⟨(some 11), none, .move (.t 77)⟩])
    (.seq (.line [⟨(some 78), none, .fa 0 (.t 12)⟩, ⟨(some 79), none, .load none (.t 78)⟩, ⟨(some 80), none, .bin .add none (.t 79) (.c (.int .i64 1))⟩, ⟨(some 81), none, .fa 2 (.t 9)⟩, ⟨none, none, .store none (.t 81) (.t 80)⟩])
    (.line [⟨(some 82), none, .fa 1 (.t 9)⟩, ⟨(some 83), none, .load none (.t 82)⟩, ⟨(some 84), none, .fa 2 (.t 12)⟩, ⟨(some 85), none, .load none (.t 84)⟩, ⟨(some 86), none, .len false (.t 85)⟩, ⟨(some 87), none, .bin .add none (.c (.int .i64 17)) (.t 86)⟩, ⟨(some 88), none, .bin .add none (.t 83) (.t 87)⟩, ⟨(some 89), none, .fa 1 (.t 9)⟩, ⟨none, none, .store none (.t 89) (.t 88)⟩])))))))))
 (.seq (.line [⟨(some 90), none, .load (some 6) (.t 9)⟩, ⟨(some 91), none, .move (.t 11)⟩, ⟨none, none, .store (some 6) (.t 2) (.t 90)⟩, ⟨(some 3), none, .move (.t 91)⟩, ⟨(some 4), none, .move (.c (.int .i64 0))⟩])
 .ret)))))))))))⟩
/-- captioner/captionerref55.Compact -/
def g28 : GFun := ⟨97, [.cell 6 (some 5), .cell 7 (some 6), .tmp 8, .tmp 9],
 (.seq (.line [⟨(some 3), none, .box (.t 0)⟩, ⟨(some 4), none, .box (.t 1)⟩, ⟨(some 6), none, .alloc [(.int .i64 0), (.slice none 0 0), (.bool false), (.int .i64 0), (.bool false)]⟩, ⟨(some 7), none, .alloc [(.int .i64 0), (.int .i64 0), (.int .i64 0), (.int .u64 0), (.bool false), (.bool false)]⟩, ⟨(some 8), none, .move (.c (.int .i64 0))⟩, ⟨(some 9), none, .move (.c (.int .i64 0))⟩])
 (.seq (.seq (.line [⟨(some 12), none, .load (some 5) (.t 3)⟩, ⟨(some 13), none, .load (some 6) (.t 4)⟩, ⟨(some 14), none, .move (.t 2)⟩, ⟨(some 15), none, .call (.c (.func (.func 49) #[] #[])) [(.t 12), (.t 13), (.c (.int .i64 13)), (.t 14)]⟩, ⟨(some 10), none, .move (.t 15)⟩])
 (.seq (.line [⟨(some 16), none, .move (.t 10)⟩, ⟨(some 17), none, .bin .neq (some .int) (.t 16) (.c (.int .i64 0))⟩])
 (.cond (.t 17) (.seq (.any [(.t 6)] [⟨(some 18), none, .load (some 5) (.t 3)⟩, ⟨(some 19), none, .load (some 6) (.t 4)⟩, ⟨(some 20), none, .move (.t 10)⟩] [(true, ⟨none, none, .store (some 5) (.t 6) (.t 18)⟩), (false, ⟨none, none, .store (some 6) (.t 7) (.t 19)⟩), (false, ⟨(some 8), none, .move (.c (.int .i64 0))⟩), (false, ⟨(some 9), none, .move (.t 20)⟩)])
  .ret) .skip)))
 (.seq (.line [⟨(some 21), none, .load (some 5) (.t 3)⟩, ⟨(some 22), none, .call (.c (.func (.func 50) #[] #[])) [(.t 21)]⟩, ⟨none, none, .store (some 5) (.t 3) (.t 22)⟩])
 (.seq (.line [⟨(some 23), none, .fa 0 (.t 4)⟩, ⟨(some 24), none, .load none (.t 23)⟩, ⟨(some 25), none, .bin .sub none (.c (.int .i64 1)) (.t 24)⟩, ⟨(some 26), none, .fa 0 (.t 3)⟩, ⟨(some 27), none, .load none (.t 26)⟩, ⟨(some 28), none, .bin .mul none (.t 25) (.t 27)⟩, ⟨(some 11), none, .move (.t 28)⟩])
 (.seq (.line [⟨(some 29), none, .load (some 5) (.t 3)⟩, ⟨(some 30), none, .move (.t 11)⟩, ⟨(some 31), none, .buildSl 257 1 [(.int .u8 0)] [(0, 1, (.c (.int .u8 0)))]⟩, ⟨(some 32), none, .call (.c (.func (.func 51) #[] #[])) [(.t 29), (.t 30), (.t 31)]⟩, ⟨none, none, .store (some 5) (.t 3) (.t 32)⟩])
 (.seq (.any [] [⟨(some 33), none, .load (some 5) (.t 3)⟩, ⟨(some 34), none, .move (.t 11)⟩, ⟨(some 35), none, .bin .add none (.t 34) (.c (.int .i64 1))⟩, ⟨(some 36), none, .fa 3 (.t 4)⟩, ⟨(some 37), none, .load none (.t 36)⟩, ⟨(some 38), none, .bin .add none (.t 37) (.c (.int .u64 1))⟩, ⟨(some 39), none, .call (.c (.func (.func 44) #[] #[])) [(.t 38), (.c (.int .i64 8))]⟩, ⟨(some 40), none, .call (.c (.func (.func 43) #[] #[])) [(.t 39)]⟩, ⟨(some 41), none, .call (.c (.func (.func 51) #[] #[])) [(.t 33), (.t 35), (.t 40)]⟩] [(false, ⟨none, none, .store (some 5) (.t 3) (.t 41)⟩)])
 (.seq (.line [⟨(some 42), none, .load (some 5) (.t 3)⟩, ⟨(some 43), none, .move (.t 11)⟩, ⟨(some 44), none, .bin .add none (.t 43) (.c (.int .i64 13))⟩, ⟨(some 45), none, .buildSl 257 1 [(.int .u8 0)] [(0, 1, (.c (.int .u8 0)))]⟩, ⟨(some 46), none, .call (.c (.func (.func 51) #[] #[])) [(.t 42), (.t 44), (.t 45)]⟩, ⟨none, none, .store (some 5) (.t 3) (.t 46)⟩])
 (.seq (.line [⟨(some 47), none, .load (some 5) (.t 3)⟩, ⟨(some 48), none, .move (.t 11)⟩, ⟨(some 49), none, .bin .add none (.t 48) (.c (.int .i64 13))⟩, ⟨(some 50), none, .bin .add none (.t 49) (.c (.int .i64 17))⟩, ⟨(some 51), none, .move (.t 2)⟩, ⟨(some 52), none, .len false (.t 51)⟩, ⟨(some 53), none, .bin .add none (.t 50) (.t 52)⟩, ⟨(some 54), none, .buildSl 257 1 [(.int .u8 0)] [(0, 1, (.c (.int .u8 0)))]⟩, ⟨(some 55), none, .call (.c (.func (.func 51) #[] #[])) [(.t 47), (.t 53), (.t 54)]⟩, ⟨none, none, .store (some 5) (.t 3) (.t 55)⟩])
 (.seq (.any [] [⟨(some 56), none, .load (some 5) (.t 3)⟩, ⟨(some 57), none, .move (.t 11)⟩, ⟨(some 58), none, .bin .add none (.t 57) (.c (.int .i64 13))⟩, ⟨(some 59), none, .bin .add none (.t 58) (.c (.int .i64 1))⟩, ⟨(some 60), none, .fa 2 (.t 4)⟩, ⟨(some 61), none, .load none (.t 60)⟩, ⟨(some 62), none, .move (.t 2)⟩, ⟨(some 63), none, .call (.c (.func (.func 52) #[] #[])) [(.t 61), (.t 62)]⟩, ⟨(some 64), none, .call (.c (.func (.func 51) #[] #[])) [(.t 56), (.t 59), (.t 63)]⟩] [(false, ⟨none, none, .store (some 5) (.t 3) (.t 64)⟩)])
 (.seq (.line [⟨(some 65), none, .load (some 5) (.t 3)⟩, ⟨(some 66), none, .move (.t 11)⟩, ⟨(some 67), none, .bin .add none (.t 66) (.c (.int .i64 13))⟩, ⟨(some 68), none, .buildSl 257 1 [(.int .u8 0)] [(0, 1, (.c (.int .u8 166)))]⟩, ⟨(some 69), none, .call (.c (.func (.func 51) #[] #[])) [(.t 65), (.t 67), (.t 68)]⟩, ⟨none, none, .store (some 5) (.t 3) (.t 69)⟩])
 (.seq (.line [⟨(some 70), none, .load (some 5) (.t 3)⟩, ⟨(some 71), none, .move (.t 11)⟩, ⟨(some 72), none, .buildSl 257 1 [(.int .u8 0)] [(0, 1, (.c (.int .u8 183)))]⟩, ⟨(some 73), none, .call (.c (.func (.func 51) #[] #[])) [(.t 70), (.t 71), (.t 72)]⟩, ⟨none, none, .store (some 5) (.t 3) (.t 73)⟩])
 (.seq (.seq (.line [⟨(some 74), none, .fa 4 (.t 3)⟩, ⟨(some 75), none, .load none (.t 74)⟩])
 (.cond (.t 75) (.seq (.line [⟨(some 76), none, .fa 5 (.t 4)⟩, ⟨none, none, .store none (.t 76) (.c (.bool true))⟩])
  (.seq (.any [(.t 6)] [⟨(some 77), none, .load (some 5) (.t 3)⟩, ⟨(some 78), none, .load (some 6) (.t 4)⟩] [(true, ⟨none, none, .store (some 5) (.t 6) (.t 77)⟩), (false, ⟨none, none, .store (some 6) (.t 7) (.t 78)⟩), (false, ⟨(some 8), none, .move (.c (.int .i64 0))⟩), (false, ⟨(some 9), none, .move (.c (.int .i64 21))⟩)])
  .ret)) .skip))
 (.seq (.line [⟨(some 79), none, .fa 0 (.t 4)⟩, ⟨(some 80), none, .load none (.t 79)⟩, ⟨(some 81), none, .bin .sub none (.c (.int .i64 1)) (.t 80)⟩, ⟨(some 82), none, .move (.t 2)⟩, ⟨(some 83), none, .len false (.t 82)⟩, ⟨(some 84), none, .bin .add none (.c (.int .i64 30)) (.t 83)⟩, ⟨(some 85), none, .fa 2 (.t 4)⟩, ⟨(some 86), none, .load none (.t 85)⟩, ⟨(some 87), none, .bin .add none (.t 86) (.c (.int .i64 1))⟩, ⟨(some 88), none, .fa 3 (.t 4)⟩, ⟨(some 89), none, .load none (.t 88)⟩, ⟨(some 90), none, .bin .add none (.t 89) (.c (.int .u64 1))⟩, ⟨(some 91), none, .build [(.int .i64 0), (.int .i64 0), (.int .i64 0), (.int .u64 0), (.bool false), (.bool false)] [(0, 1, (.t 81)), (1, 1, (.t 84)), (2, 1, (.t 87)), (3, 1, (.t 90))]⟩, ⟨none, none, .store (some 6) (.t 4) (.t 91)⟩])
 (.seq (.any [(.t 6), (.t 7)] [⟨(some 92), none, .load (some 5) (.t 3)⟩, ⟨(some 93), none, .load (some 6) (.t 4)⟩, ⟨(some 94), none, .fa 2 (.t 4)⟩, ⟨(some 95), none, .load none (.t 94)⟩, ⟨(some 96), none, .bin .sub none (.t 95) (.c (.int .i64 1))⟩] [(true, ⟨none, none, .store (some 5) (.t 6) (.t 92)⟩), (true, ⟨none, none, .store (some 6) (.t 7) (.t 93)⟩), (false, ⟨(some 8), none, .move (.t 96)⟩), (false, ⟨(some 9), none, .move (.c (.int .i64 0))⟩)])
 .ret))))))))))))))⟩
/-- captioner/captionerref55.Append -/
def g29 : GFun := ⟨78, [.cell 6 (some 5), .cell 7 (some 6), .tmp 8, .tmp 9],
 (.seq (.line [⟨(some 3), none, .box (.t 0)⟩, ⟨(some 4), none, .box (.t 1)⟩, ⟨(some 6), none, .alloc [(.int .i64 0), (.slice none 0 0), (.bool false), (.int .i64 0), (.bool false)]⟩, ⟨(some 7), none, .alloc [(.int .i64 0), (.int .i64 0), (.int .i64 0), (.int .u64 0), (.bool false), (.bool false)]⟩, ⟨(some 8), none, .move (.c (.int .i64 0))⟩, ⟨(some 9), none, .move (.c (.int .i64 0))⟩])
 (.seq (.seq (.line [⟨(some 12), none, .load (some 5) (.t 3)⟩, ⟨(some 13), none, .load (some 6) (.t 4)⟩, ⟨(some 14), none, .fa 1 (.t 4)⟩, ⟨(some 15), none, .load none (.t 14)⟩, ⟨(some 16), none, .move (.t 2)⟩, ⟨(some 17), none, .call (.c (.func (.func 49) #[] #[])) [(.t 12), (.t 13), (.t 15), (.t 16)]⟩, ⟨(some 10), none, .move (.t 17)⟩])
 (.seq (.line [⟨(some 18), none, .move (.t 10)⟩, ⟨(some 19), none, .bin .neq (some .int) (.t 18) (.c (.int .i64 0))⟩])
 (.cond (.t 19) (.seq (.any [(.t 6)] [⟨(some 20), none, .load (some 5) (.t 3)⟩, ⟨(some 21), none, .load (some 6) (.t 4)⟩, ⟨(some 22), none, .move (.t 10)⟩] [(true, ⟨none, none, .store (some 5) (.t 6) (.t 20)⟩), (false, ⟨none, none, .store (some 6) (.t 7) (.t 21)⟩), (false, ⟨(some 8), none, .move (.c (.int .i64 0))⟩), (false, ⟨(some 9), none, .move (.t 22)⟩)])
  .ret) .skip)))
 (.seq (.line [⟨(some 23), none, .load (some 5) (.t 3)⟩, ⟨(some 24), none, .call (.c (.func (.func 50) #[] #[])) [(.t 23)]⟩, ⟨none, none, .store (some 5) (.t 3) (.t 24)⟩])
 (.seq (.line [⟨(some 25), none, .fa 0 (.t 4)⟩, ⟨(some 26), none, .load none (.t 25)⟩, ⟨(some 27), none, .fa 0 (.t 3)⟩, ⟨(some 28), none, .load none (.t 27)⟩, ⟨(some 29), none, .bin .mul none (.t 26) (.t 28)⟩, ⟨(some 30), none, .fa 1 (.t 4)⟩, ⟨(some 31), none, .load none (.t 30)⟩, ⟨(some 32), none, .bin .add none (.t 29) (.t 31)⟩, ⟨(some 11), none, .move (.t 32)⟩])
 (.seq (.line [⟨(some 33), none, .load (some 5) (.t 3)⟩, ⟨(some 34), none, .move (.t 11)⟩, ⟨(some 35), none, .buildSl 257 1 [(.int .u8 0)] [(0, 1, (.c (.int .u8 0)))]⟩, ⟨(some 36), none, .call (.c (.func (.func 51) #[] #[])) [(.t 33), (.t 34), (.t 35)]⟩, ⟨none, none, .store (some 5) (.t 3) (.t 36)⟩])
 (.seq (.line [⟨(some 37), none, .load (some 5) (.t 3)⟩, ⟨(some 38), none, .move (.t 11)⟩, ⟨(some 39), none, .bin .add none (.t 38) (.c (.int .i64 17))⟩, ⟨(some 40), none, .move (.t 2)⟩, ⟨(some 41), none, .len false (.t 40)⟩, ⟨(some 42), none, .bin .add none (.t 39) (.t 41)⟩, ⟨(some 43), none, .buildSl 257 1 [(.int .u8 0)] [(0, 1, (.c (.int .u8 0)))]⟩, ⟨(some 44), none, .call (.c (.func (.func 51) #[] #[])) [(.t 37), (.t 42), (.t 43)]⟩, ⟨none, none, .store (some 5) (.t 3) (.t 44)⟩])
 (.seq (.any [] [⟨(some 45), none, .load (some 5) (.t 3)⟩, ⟨(some 46), none, .move (.t 11)⟩, ⟨(some 47), none, .bin .add none (.t 46) (.c (.int .i64 1))⟩, ⟨(some 48), none, .fa 2 (.t 4)⟩, ⟨(some 49), none, .load none (.t 48)⟩, ⟨(some 50), none, .move (.t 2)⟩, ⟨(some 51), none, .call (.c (.func (.func 52) #[] #[])) [(.t 49), (.t 50)]⟩, ⟨(some 52), none, .call (.c (.func (.func 51) #[] #[])) [(.t 45), (.t 47), (.t 51)]⟩] [(false, ⟨none, none, .store (some 5) (.t 3) (.t 52)⟩)])
 (.seq (.line [⟨(some 53), none, .load (some 5) (.t 3)⟩, ⟨(some 54), none, .move (.t 11)⟩, ⟨(some 55), none, .buildSl 257 1 [(.int .u8 0)] [(0, 1, (.c (.int .u8 165)))]⟩, ⟨(some 56), none, .call (.c (.func (.func 51) #[] #[])) [(.t 53), (.t 54), (.t 55)]⟩, ⟨none, none, .store (some 5) (.t 3) (.t 56)⟩])
 (.seq (.seq (.line [⟨(some 57), none, .fa 4 (.t 3)⟩, ⟨(some 58), none, .load none (.t 57)⟩])
 (.cond (.t 58) (.seq (.line [⟨(some 59), none, .fa 5 (.t 4)⟩, ⟨none, none, .store none (.t 59) (.c (.bool true))⟩])
  (.seq (.any [(.t 6)] [⟨(some 60), none, .load (some 5) (.t 3)⟩, ⟨(some 61), none, .load (some 6) (.t 4)⟩] [(true, ⟨none, none, .store (some 5) (.t 6) (.t 60)⟩), (false, ⟨none, none, .store (some 6) (.t 7) (.t 61)⟩), (false, ⟨(some 8), none, .move (.c (.int .i64 0))⟩), (false, ⟨(some 9), none, .move (.c (.int .i64 21))⟩)])
  .ret)) .skip))
 (.seq (.line [⟨(some 62), none, .fa 1 (.t 4)⟩, ⟨(some 63), none, .load none (.t 62)⟩, ⟨(some 64), none, .move (.t 2)⟩, ⟨(some 65), none, .len false (.t 64)⟩, ⟨(some 66), none, .bin .add none (.c (.int .i64 17)) (.t 65)⟩, ⟨(some 67), none, .bin .add none (.t 63) (.t 66)⟩, ⟨(some 68), none, .fa 1 (.t 4)⟩, ⟨none, none, .store none (.t 68) (.t 67)⟩])
 (.seq (.line [⟨(some 69), none, .fa 2 (.t 4)⟩, ⟨(some 70), none, .load none (.t 69)⟩, ⟨(some 71), none, .bin .add none (.t 70) (.c (.int .i64 1))⟩, ⟨(some 72), none, .fa 2 (.t 4)⟩, ⟨none, none, .store none (.t 72) (.t 71)⟩])
 (.seq (.any [(.t 6), (.t 7)] [⟨(some 73), none, .load (some 5) (.t 3)⟩, ⟨(some 74), none, .load (some 6) (.t 4)⟩, ⟨(some 75), none, .fa 2 (.t 4)⟩, ⟨(some 76), none, .load none (.t 75)⟩, ⟨(some 77), none, .bin .sub none (.t 76) (.c (.int .i64 1))⟩] [(true, ⟨none, none, .store (some 5) (.t 6) (.t 73)⟩), (true, ⟨none, none, .store (some 6) (.t 7) (.t 74)⟩), (false, ⟨(some 8), none, .move (.t 77)⟩), (false, ⟨(some 9), none, .move (.c (.int .i64 0))⟩)])
 .ret))))))))))))⟩
/-- captioner/captionerref55.Arm -/
def g30 : GFun := ⟨10, [.cell 4 (some 5)],
 (.seq (.line [⟨(some 2), none, .box (.t 0)⟩, ⟨(some 4), none, .alloc [(.int .i64 0), (.slice none 0 0), (.bool false), (.int .i64 0), (.bool false)]⟩])
 (.seq (.line [⟨(some 5), none, .move (.t 1)⟩, ⟨(some 6), none, .max (.t 5) [(.c (.int .i64 0))]⟩, ⟨(some 7), none, .fa 2 (.t 2)⟩, ⟨none, none, .store none (.t 7) (.c (.bool true))⟩, ⟨(some 8), none, .fa 3 (.t 2)⟩, ⟨none, none, .store none (.t 8) (.t 6)⟩])
 (.seq (.line [⟨(some 9), none, .load (some 5) (.t 2)⟩, ⟨none, none, .store (some 5) (.t 4) (.t 9)⟩])
 .ret)))⟩
/-- captioner/captionerref55.On -/
def g31 : GFun := ⟨7, [.cell 2 (some 5)],
 (.seq (.line [⟨(some 1), none, .box (.t 0)⟩, ⟨(some 2), none, .alloc [(.int .i64 0), (.slice none 0 0), (.bool false), (.int .i64 0), (.bool false)]⟩])
 (.seq (.line [⟨(some 3), none, .fa 2 (.t 1)⟩, ⟨none, none, .store none (.t 3) (.c (.bool false))⟩, ⟨(some 4), none, .fa 3 (.t 1)⟩, ⟨none, none, .store none (.t 4) (.c (.int .i64 0))⟩, ⟨(some 5), none, .fa 4 (.t 1)⟩, ⟨none, none, .store none (.t 5) (.c (.bool false))⟩])
 (.seq (.line [⟨(some 6), none, .load (some 5) (.t 1)⟩, ⟨none, none, .store (some 5) (.t 2) (.t 6)⟩])
 .ret)))⟩
/-- captioner/captionerref55.Flip -/
def g32 : GFun := ⟨34, [.cell 4 (some 5), .tmp 5],
 (.seq (.line [⟨(some 2), none, .box (.t 0)⟩, ⟨(some 4), none, .alloc [(.int .i64 0), (.slice none 0 0), (.bool false), (.int .i64 0), (.bool false)]⟩, ⟨(some 5), none, .move (.c (.int .i64 0))⟩])
 (.seq (.seq (.line [⟨(some 6), none, .move (.t 1)⟩, ⟨(some 7), none, .bin .lss none (.t 6) (.c (.int .i64 0))⟩, ⟨(some 8), none, .move (.t 7)⟩, ⟨(some 9), (some (8, false)), .move (.t 1)⟩, ⟨(some 10), (some (8, false)), .fa 1 (.t 2)⟩, ⟨(some 11), (some (8, false)), .load none (.t 10)⟩, ⟨(some 12), (some (8, false)), .len false (.t 11)⟩, ⟨(some 13), (some (8, false)), .bin .mul none (.c (.int .i64 8)) (.t 12)⟩, ⟨(some 14), (some (8, false)), .bin .geq none (.t 9) (.t 13)⟩, ⟨(some 15), none, .pick (.t 8) (.c (.bool true)) (.t 14)⟩])
 (.cond (.t 15) (.seq (.line [⟨(some 16), none, .load (some 5) (.t 2)⟩, ⟨none, none, .store (some 5) (.t 4) (.t 16)⟩, ⟨(some 5), none, .move (.c (.int .i64 2))⟩])
  .ret) .skip))
 (.seq (.line [⟨(some 17), none, .buildSl 257 0 [(.int .u8 0)] []⟩, ⟨(some 18), none, .fa 1 (.t 2)⟩, ⟨(some 19), none, .load none (.t 18)⟩, ⟨(some 20), none, .app 1 1 257 (.t 17) (.t 19)⟩, ⟨(some 21), none, .fa 1 (.t 2)⟩, ⟨none, none, .store none (.t 21) (.t 20)⟩])
 (.seq (.any [] [⟨(some 22), none, .fa 1 (.t 2)⟩, ⟨(some 23), none, .load none (.t 22)⟩, ⟨(some 24), none, .move (.t 1)⟩, ⟨(some 25), none, .bin .quo none (.t 24) (.c (.int .i64 8))⟩, ⟨(some 26), none, .ia none 1 (.t 23) (.t 25)⟩, ⟨(some 27), none, .load none (.t 26)⟩, ⟨(some 28), none, .move (.t 1)⟩, ⟨(some 29), none, .bin .rem none (.t 28) (.c (.int .i64 8))⟩, ⟨(some 30), none, .bin .shl none (.c (.int .u8 1)) (.t 29)⟩, ⟨(some 31), none, .bin .xor none (.t 27) (.t 30)⟩, ⟨(some 32), none, .ia none 1 (.t 23) (.t 25)⟩] [(false, ⟨none, none, .store none (.t 32) (.t 31)⟩)])
 (.seq (.line [⟨(some 33), none, .load (some 5) (.t 2)⟩, ⟨none, none, .store (some 5) (.t 4) (.t 33)⟩, ⟨(some 5), none, .move (.c (.int .i64 0))⟩])
 .ret)))))⟩
/-- captioner/captionerref55.Free -/
def g33 : GFun := ⟨12, [.tmp 4],
 (.seq (.line [⟨(some 2), none, .box (.t 0)⟩, ⟨(some 3), none, .box (.t 1)⟩, ⟨(some 4), none, .move (.c (.int .i64 0))⟩])
 (.seq (.line [⟨(some 5), none, .fa 0 (.t 2)⟩, ⟨(some 6), none, .load none (.t 5)⟩, ⟨(some 7), none, .fa 1 (.t 3)⟩, ⟨(some 8), none, .load none (.t 7)⟩, ⟨(some 9), none, .bin .sub none (.t 6) (.t 8)⟩, ⟨(some 10), none, .bin .sub none (.t 9) (.c (.int .i64 18))⟩, ⟨(some 11), none, .max (.t 10) [(.c (.int .i64 (-1)))]⟩, ⟨(some 4), none, .move (.t 11)⟩])
 .ret))⟩
/-- (*captioner/journal.Memory).Clone -/
def g34 : GFun := ⟨15, [.tmp 2],
 (.seq (.line [⟨(some 2), none, .move (.c (.pointer none))⟩])
 (.seq (.seq (.line [⟨(some 4), none, .move (.t 0)⟩, ⟨(some 5), none, .bin .eql (some .ptr) (.t 4) (.c (.pointer none))⟩])
 (.cond (.t 5) (.seq (.line [⟨(some 2), none, .move (.c (.pointer none))⟩])
  .ret) .skip))
 (.seq (.line [⟨(some 6), none, .move (.t 0)⟩, ⟨(some 7), none, .nilc (.t 6)⟩, ⟨(some 8), none, .load (some 4) (.t 7)⟩, ⟨(some 3), none, .alloc [(.slice none 0 0), (.bool false), (.int .i64 0), (.bool false)]⟩, ⟨none, none, .store (some 4) (.t 3) (.t 8)⟩])
 (.seq (.line [⟨(some 9), none, .move (.t 0)⟩, ⟨(some 10), none, .nilc (.t 9)⟩, ⟨(some 11), none, .fa 0 (.t 10)⟩, ⟨(some 12), none, .load none (.t 11)⟩, ⟨(some 13), none, .call (.c (.func (.func 45) #[] #[])) [(.t 12)]⟩, ⟨(some 14), none, .fa 0 (.t 3)⟩, ⟨none, none, .store none (.t 14) (.t 13)⟩])
 (.seq (.line [⟨(some 2), none, .move (.t 3)⟩])
 .ret)))))⟩
/-- captioner/crc.Seal -/
def g35 : GFun := ⟨23, [.tmp 2],
 (.seq (.line [⟨(some 2), none, .move (.c (.slice none 0 0))⟩])
 (.seq (.line [⟨(some 5), none, .move (.t 0)⟩, ⟨(some 6), none, .call (.c (.func (.func 53) #[] #[])) [(.t 5)]⟩, ⟨(some 3), none, .move (.t 6)⟩])
 (.seq (.line [⟨(some 7), none, .move (.t 0)⟩, ⟨(some 8), none, .app 1 1 257 (.c (.slice none 0 0)) (.t 7)⟩, ⟨(some 4), none, .move (.t 8)⟩])
 (.seq (.line [⟨(some 9), none, .move (.t 4)⟩, ⟨(some 10), none, .move (.t 3)⟩, ⟨(some 11), none, .conv (.int .u8) (.t 10)⟩, ⟨(some 12), none, .move (.t 3)⟩, ⟨(some 13), none, .bin .shr none (.t 12) (.c (.int .u64 8))⟩, ⟨(some 14), none, .conv (.int .u8) (.t 13)⟩, ⟨(some 15), none, .move (.t 3)⟩, ⟨(some 16), none, .bin .shr none (.t 15) (.c (.int .u64 16))⟩, ⟨(some 17), none, .conv (.int .u8) (.t 16)⟩, ⟨(some 18), none, .move (.t 3)⟩, ⟨(some 19), none, .bin .shr none (.t 18) (.c (.int .u64 24))⟩, ⟨(some 20), none, .conv (.int .u8) (.t 19)⟩, ⟨(some 21), none, .buildSl 257 4 [(.int .u8 0)] [(0, 1, (.t 11)), (1, 1, (.t 14)), (2, 1, (.t 17)), (3, 1, (.t 20))]⟩, ⟨(some 22), none, .app 1 1 257 (.t 9) (.t 21)⟩, ⟨(some 2), none, .move (.t 22)⟩])
 .ret))))⟩
/-- captioner/journal.low -/
def g36 : GFun := ⟨24, [.tmp 4],
 (.seq (.line [⟨(some 4), none, .move (.c (.slice none 0 0))⟩])
 (.seq (.line [⟨(some 7), none, .move (.t 1)⟩, ⟨(some 8), none, .mk [(.int .u8 0)] 1 257 (.t 7) (.t 7)⟩, ⟨(some 5), none, .move (.t 8)⟩])
 (.seq (.seq (.line [⟨(some 9), none, .move (.t 5)⟩, ⟨(some 10), none, .len false (.t 9)⟩, ⟨(some 11), none, .move (.c (.int .i64 0))⟩])
 (.block 0 (.loop (.seq (.line [⟨(some 12), none, .bin .lss none (.t 11) (.t 10)⟩])
   (.seq (.cond (.t 12) .skip (.exit 0))
   (.seq (.block 1 (.seq (.line [⟨(some 13), none, .move (.t 11)⟩, ⟨(some 6), none, .move (.t 13)⟩])
    (.line [⟨(some 14), none, .move (.t 5)⟩, ⟨(some 15), none, .move (.t 6)⟩, ⟨(some 16), none, .move (.t 0)⟩, ⟨(some 17), none, .move (.t 6)⟩, ⟨(some 18), none, .bin .mul none (.c (.int .i64 8)) (.t 17)⟩, ⟨(some 19), none, .bin .shr none (.t 16) (.t 18)⟩, ⟨(some 20), none, .conv (.int .u8) (.t 19)⟩, ⟨(some 21), none, .ia none 1 (.t 14) (.t 15)⟩, ⟨none, none, .store none (.t 21) (.t 20)⟩])))
   (.line [⟨(some 22), none, .bin .add none (.t 11) (.c (.int .i64 1))⟩, ⟨(some 11), none, .move (.t 22)⟩])))))))
 (.seq (.line [⟨(some 23), none, .move (.t 5)⟩, ⟨(some 4), none, .move (.t 23)⟩])
 .ret))))⟩
/-- captioner/journal.choose -/
def g37 : GFun := ⟨32, [.tmp 2, .tmp 3, .tmp 4],
 (.seq (.line [⟨(some 2), none, .move (.c (.int .i64 0))⟩, ⟨(some 3), none, .move (.c (.int .u64 0))⟩, ⟨(some 4), none, .move (.c (.bool false))⟩])
 (.seq (.line [⟨(some 10), none, .move (.t 0)⟩, ⟨(some 11), none, .call (.c (.func (.func 54) #[] #[])) [(.t 10), (.c (.int .i64 0))]⟩, ⟨(some 9), none, .move (.t 11)⟩, ⟨(some 12), none, .ext (.t 9) 0⟩, ⟨(some 13), none, .ext (.t 9) 1⟩, ⟨(some 5), none, .move (.t 12)⟩, ⟨(some 6), none, .move (.t 13)⟩])
 (.seq (.line [⟨(some 15), none, .move (.t 0)⟩, ⟨(some 16), none, .call (.c (.func (.func 54) #[] #[])) [(.t 15), (.c (.int .i64 1))]⟩, ⟨(some 14), none, .move (.t 16)⟩, ⟨(some 17), none, .ext (.t 14) 0⟩, ⟨(some 18), none, .ext (.t 14) 1⟩, ⟨(some 7), none, .move (.t 17)⟩, ⟨(some 8), none, .move (.t 18)⟩])
 (.seq (.seq (.line [⟨(some 19), none, .move (.t 8)⟩, ⟨(some 20), none, .move (.t 19)⟩, ⟨(some 21), (some (20, true)), .move (.t 6)⟩, ⟨(some 22), (some (20, true)), .un .not (.t 21)⟩, ⟨(some 23), (some (20, true)), .move (.t 22)⟩, ⟨(some 24), (some (23, false)), .move (.t 7)⟩, ⟨(some 25), (some (23, false)), .move (.t 5)⟩, ⟨(some 26), (some (23, false)), .bin .gtr none (.t 24) (.t 25)⟩, ⟨(some 27), (some (20, true)), .pick (.t 23) (.c (.bool true)) (.t 26)⟩, ⟨(some 28), none, .pick (.t 20) (.t 27) (.c (.bool false))⟩])
 (.cond (.t 28) (.seq (.line [⟨(some 29), none, .move (.t 7)⟩, ⟨(some 2), none, .move (.c (.int .i64 1))⟩, ⟨(some 3), none, .move (.t 29)⟩, ⟨(some 4), none, .move (.c (.bool true))⟩])
  .ret) .skip))
 (.seq (.line [⟨(some 30), none, .move (.t 5)⟩, ⟨(some 31), none, .move (.t 6)⟩, ⟨(some 2), none, .move (.c (.int .i64 0))⟩, ⟨(some 3), none, .move (.t 30)⟩, ⟨(some 4), none, .move (.t 31)⟩])
 .ret)))))⟩
/-- (*captioner/journal.Memory).bank -/
def g38 : GFun := ⟨19, [.tmp 4],
 (.seq (.line [⟨(some 4), none, .move (.c (.slice none 0 0))⟩])
 (.seq (.any [] [⟨(some 5), none, .move (.t 0)⟩, ⟨(some 6), none, .nilc (.t 5)⟩, ⟨(some 7), none, .fa 0 (.t 6)⟩, ⟨(some 8), none, .load none (.t 7)⟩, ⟨(some 9), none, .move (.t 1)⟩, ⟨(some 10), none, .move (.t 0)⟩, ⟨(some 11), none, .call (.c (.func (.func 24) #[] #[])) [(.t 10)]⟩, ⟨(some 12), none, .bin .mul none (.t 9) (.t 11)⟩, ⟨(some 13), none, .move (.t 1)⟩, ⟨(some 14), none, .bin .add none (.t 13) (.c (.int .i64 1))⟩, ⟨(some 15), none, .move (.t 0)⟩, ⟨(some 16), none, .call (.c (.func (.func 24) #[] #[])) [(.t 15)]⟩, ⟨(some 17), none, .bin .mul none (.t 14) (.t 16)⟩, ⟨(some 18), none, .slice (.sl 1) (.t 8) (some (.t 12)) (some (.t 17)) none⟩, ⟨(some 4), none, .move (.t 18)⟩] [])
 .ret))⟩
/-- captioner/journal.read -/
def g39 : GFun := ⟨103, [.cell 6 (some 3), .tmp 7],
 (.seq (.line [⟨(some 6), none, .alloc [(.int .i64 0), (.bool false), (.slice none 0 0)]⟩, ⟨(some 7), none, .move (.c (.bool false))⟩])
 (.seq (.seq (.line [⟨(some 12), none, .move (.t 0)⟩, ⟨(some 13), none, .move (.t 1)⟩, ⟨(some 14), none, .ia none 1 (.t 12) (.t 13)⟩, ⟨(some 15), none, .load none (.t 14)⟩, ⟨(some 16), none, .bin .neq (some .int) (.t 15) (.c (.int .u8 165))⟩, ⟨(some 17), none, .move (.t 16)⟩, ⟨(some 18), (some (17, true)), .move (.t 0)⟩, ⟨(some 19), (some (17, true)), .move (.t 1)⟩, ⟨(some 20), (some (17, true)), .ia none 1 (.t 18) (.t 19)⟩, ⟨(some 21), (some (17, true)), .load none (.t 20)⟩, ⟨(some 22), (some (17, true)), .bin .neq (some .int) (.t 21) (.c (.int .u8 166))⟩, ⟨(some 23), (some (17, true)), .move (.t 22)⟩, ⟨(some 24), (some (23, false)), .move (.t 2)⟩, ⟨(some 25), (some (23, false)), .bin .neq (some .int) (.t 24) (.c (.int .i64 0))⟩, ⟨(some 26), (some (17, true)), .pick (.t 23) (.c (.bool true)) (.t 25)⟩, ⟨(some 27), none, .pick (.t 17) (.t 26) (.c (.bool false))⟩, ⟨(some 28), none, .move (.t 27)⟩, ⟨(some 29), (some (28, false)), .move (.t 1)⟩, ⟨(some 30), (some (28, false)), .bin .add none (.t 29) (.c (.int .i64 17))⟩, ⟨(some 31), (some (28, false)), .move (.t 0)⟩, ⟨(some 32), (some (28, false)), .len false (.t 31)⟩, ⟨(some 33), (some (28, false)), .bin .geq none (.t 30) (.t 32)⟩, ⟨(some 34), none, .pick (.t 28) (.c (.bool true)) (.t 33)⟩])
 (.cond (.t 34) (.seq (.line [⟨(some 35), none, .build [(.int .i64 0), (.bool false), (.slice none 0 0)] []⟩, ⟨none, none, .store (some 3) (.t 6) (.t 35)⟩, ⟨(some 7), none, .move (.c (.bool false))⟩])
  .ret) .skip))
 (.seq (.line [⟨(some 36), none, .move (.t 0)⟩, ⟨(some 37), none, .move (.t 1)⟩, ⟨(some 38), none, .bin .add none (.t 37) (.c (.int .i64 1))⟩, ⟨(some 39), none, .move (.t 1)⟩, ⟨(some 40), none, .bin .add none (.t 39) (.c (.int .i64 5))⟩, ⟨(some 41), none, .slice (.sl 1) (.t 36) (some (.t 38)) (some (.t 40)) none⟩, ⟨(some 42), none, .call (.c (.func (.func 55) #[] #[])) [(.t 41)]⟩, ⟨(some 8), none, .move (.t 42)⟩])
 (.seq (.seq (.line [⟨(some 43), none, .move (.t 8)⟩, ⟨(some 44), none, .move (.t 0)⟩, ⟨(some 45), none, .len false (.t 44)⟩, ⟨(some 46), none, .move (.t 1)⟩, ⟨(some 47), none, .bin .sub none (.t 45) (.t 46)⟩, ⟨(some 48), none, .bin .sub none (.t 47) (.c (.int .i64 17))⟩, ⟨(some 49), none, .conv (.int .u64) (.t 48)⟩, ⟨(some 50), none, .bin .geq none (.t 43) (.t 49)⟩])
 (.cond (.t 50) (.seq (.line [⟨(some 51), none, .build [(.int .i64 0), (.bool false), (.slice none 0 0)] []⟩, ⟨none, none, .store (some 3) (.t 6) (.t 51)⟩, ⟨(some 7), none, .move (.c (.bool false))⟩])
  .ret) .skip))
 (.seq (.line [⟨(some 53), none, .move (.t 0)⟩, ⟨(some 54), none, .move (.t 1)⟩, ⟨(some 55), none, .bin .add none (.t 54) (.c (.int .i64 1))⟩, ⟨(some 56), none, .move (.t 1)⟩, ⟨(some 57), none, .bin .add none (.t 56) (.c (.int .i64 17))⟩, ⟨(some 58), none, .move (.t 8)⟩, ⟨(some 59), none, .conv (.int .i64) (.t 58)⟩, ⟨(some 60), none, .bin .add none (.t 57) (.t 59)⟩, ⟨(some 61), none, .slice (.sl 1) (.t 53) (some (.t 55)) (some (.t 60)) none⟩, ⟨(some 62), none, .call (.c (.func (.func 56) #[] #[])) [(.t 61)]⟩, ⟨(some 52), none, .move (.t 62)⟩, ⟨(some 63), none, .ext (.t 52) 0⟩, ⟨(some 64), none, .ext (.t 52) 1⟩, ⟨(some 9), none, .move (.t 63)⟩, ⟨(some 10), none, .move (.t 64)⟩])
 (.seq (.seq (.line [⟨(some 65), none, .move (.t 10)⟩, ⟨(some 66), none, .bin .neq (some .int) (.t 65) (.c (.int .i64 0))⟩])
 (.cond (.t 66) (.seq (.line [⟨(some 67), none, .build [(.int .i64 0), (.bool false), (.slice none 0 0)] []⟩, ⟨none, none, .store (some 3) (.t 6) (.t 67)⟩, ⟨(some 7), none, .move (.c (.bool false))⟩])
  .ret) .skip))
 (.seq (.line [⟨(some 68), none, .move (.t 9)⟩, ⟨(some 69), none, .slice (.sl 1) (.t 68) (some (.c (.int .i64 4))) (some (.c (.int .i64 12))) none⟩, ⟨(some 70), none, .call (.c (.func (.func 55) #[] #[])) [(.t 69)]⟩, ⟨(some 11), none, .move (.t 70)⟩])
 (.seq (.seq (.line [⟨(some 71), none, .move (.t 2)⟩, ⟨(some 72), none, .bin .eql (some .int) (.t 71) (.c (.int .i64 0))⟩, ⟨(some 73), none, .move (.t 72)⟩, ⟨(some 74), (some (73, true)), .move (.t 11)⟩, ⟨(some 75), (some (73, true)), .bin .lss none (.t 74) (.c (.int .u64 1))⟩, ⟨(some 76), (some (73, true)), .move (.t 75)⟩, ⟨(some 77), (some (76, false)), .move (.t 11)⟩, ⟨(some 78), (some (76, false)), .bin .gtr none (.t 77) (.c (.int .u64 1099511627776))⟩, ⟨(some 79), (some (73, true)), .pick (.t 76) (.c (.bool true)) (.t 78)⟩, ⟨(some 80), none, .pick (.t 73) (.t 79) (.c (.bool false))⟩, ⟨(some 81), none, .move (.t 80)⟩, ⟨(some 82), (some (81, false)), .move (.t 2)⟩, ⟨(some 83), (some (81, false)), .bin .neq (some .int) (.t 82) (.c (.int .i64 0))⟩, ⟨(some 84), (some (81, false)), .move (.t 83)⟩, ⟨(some 85), (some (84, true)), .move (.t 11)⟩, ⟨(some 86), (some (84, true)), .move (.t 2)⟩, ⟨(some 87), (some (84, true)), .conv (.int .u64) (.t 86)⟩, ⟨(some 88), (some (84, true)), .bin .add none (.t 87) (.c (.int .u64 1))⟩, ⟨(some 89), (some (84, true)), .bin .neq (some .int) (.t 85) (.t 88)⟩, ⟨(some 90), (some (81, false)), .pick (.t 84) (.t 89) (.c (.bool false))⟩, ⟨(some 91), none, .pick (.t 81) (.c (.bool true)) (.t 90)⟩])
 (.cond (.t 91) (.seq (.line [⟨(some 92), none, .build [(.int .i64 0), (.bool false), (.slice none 0 0)] []⟩, ⟨none, none, .store (some 3) (.t 6) (.t 92)⟩, ⟨(some 7), none, .move (.c (.bool false))⟩])
  .ret) .skip))
 (.seq (.any [] [⟨(some 93), none, .move (.t 11)⟩, ⟨(some 94), none, .conv (.int .i64) (.t 93)⟩, ⟨(some 95), none, .move (.t 0)⟩, ⟨(some 96), none, .move (.t 1)⟩, ⟨(some 97), none, .ia none 1 (.t 95) (.t 96)⟩, ⟨(some 98), none, .load none (.t 97)⟩, ⟨(some 99), none, .bin .eql (some .int) (.t 98) (.c (.int .u8 166))⟩, ⟨(some 100), none, .move (.t 9)⟩, ⟨(some 101), none, .slice (.sl 1) (.t 100) (some (.c (.int .i64 12))) none none⟩, ⟨(some 102), none, .build [(.int .i64 0), (.bool false), (.slice none 0 0)] [(0, 1, (.t 94)), (1, 1, (.t 99)), (2, 1, (.t 101))]⟩] [(false, ⟨none, none, .store (some 3) (.t 6) (.t 102)⟩), (false, ⟨(some 7), none, .move (.c (.bool true))⟩)])
 .ret)))))))))⟩
/-- (*captioner/journal.Log).refused -/
def g40 : GFun := ⟨41, [.tmp 6],
 (.seq (.line [⟨(some 6), none, .move (.c (.int .i64 0))⟩])
 (.seq (.block 0 (.seq (.line [⟨(some 8), none, .move (.t 0)⟩, ⟨(some 9), none, .nilc (.t 8)⟩, ⟨(some 10), none, .fa 4 (.t 9)⟩, ⟨(some 11), none, .load none (.t 10)⟩, ⟨(some 12), none, .bin .gtr none (.t 11) (.c (.int .i64 1099511627776))⟩, ⟨(some 7), none, .move (.t 12)⟩])
  (.cond (.t 7) (.seq (.line [⟨(some 6), none, .move (.c (.int .i64 9))⟩])
   .ret) (.seq (.line [⟨(some 14), none, .move (.t 2)⟩, ⟨(some 15), none, .move (.t 0)⟩, ⟨(some 16), none, .nilc (.t 15)⟩, ⟨(some 17), none, .fa 0 (.t 16)⟩, ⟨(some 18), none, .load none (.t 17)⟩, ⟨(some 19), none, .call (.c (.func (.func 24) #[] #[])) [(.t 18)]⟩, ⟨(some 20), none, .move (.t 1)⟩, ⟨(some 21), none, .bin .sub none (.t 19) (.t 20)⟩, ⟨(some 22), none, .bin .sub none (.t 21) (.c (.int .i64 17))⟩, ⟨(some 23), none, .bin .geq none (.t 14) (.t 22)⟩, ⟨(some 13), none, .move (.t 23)⟩])
   (.cond (.t 13) (.seq (.line [⟨(some 6), none, .move (.c (.int .i64 20))⟩])
    .ret) (.seq (.line [⟨(some 25), none, .move (.t 0)⟩, ⟨(some 26), none, .nilc (.t 25)⟩, ⟨(some 27), none, .fa 5 (.t 26)⟩, ⟨(some 28), none, .load none (.t 27)⟩, ⟨(some 29), none, .move (.t 28)⟩, ⟨(some 30), (some (29, false)), .move (.t 0)⟩, ⟨(some 31), (some (29, false)), .nilc (.t 30)⟩, ⟨(some 32), (some (29, false)), .fa 0 (.t 31)⟩, ⟨(some 33), (some (29, false)), .load none (.t 32)⟩, ⟨(some 34), (some (29, false)), .nilc (.t 33)⟩, ⟨(some 35), (some (29, false)), .fa 3 (.t 34)⟩, ⟨(some 36), (some (29, false)), .load none (.t 35)⟩, ⟨(some 37), none, .pick (.t 29) (.c (.bool true)) (.t 36)⟩, ⟨(some 24), none, .move (.t 37)⟩])
    (.cond (.t 24) (.seq (.line [⟨(some 38), none, .move (.t 0)⟩, ⟨(some 39), none, .nilc (.t 38)⟩, ⟨(some 40), none, .fa 5 (.t 39)⟩, ⟨none, none, .store none (.t 40) (.c (.bool true))⟩])
     (.seq (.line [⟨(some 6), none, .move (.c (.int .i64 21))⟩])
     .ret)) .skip)))))))
 (.seq (.line [⟨(some 6), none, .move (.c (.int .i64 0))⟩])
 .ret)))⟩
/-- (*captioner/journal.Memory).write -/
def g41 : GFun := ⟨56, [.tmp 6],
 (.seq (.line [⟨(some 6), none, .move (.c (.bool false))⟩])
 (.seq (.seq (.line [⟨(some 9), none, .move (.t 2)⟩, ⟨(some 10), none, .len false (.t 9)⟩, ⟨(some 11), none, .move (.c (.int .i64 0))⟩])
 (.block 0 (.loop (.seq (.line [⟨(some 12), none, .bin .lss none (.t 11) (.t 10)⟩])
   (.seq (.cond (.t 12) .skip (.exit 0))
   (.seq (.block 1 (.seq (.line [⟨(some 13), none, .move (.t 11)⟩, ⟨(some 14), none, .ia none 1 (.t 9) (.t 11)⟩, ⟨(some 15), none, .load none (.t 14)⟩, ⟨(some 7), none, .move (.t 13)⟩, ⟨(some 8), none, .move (.t 15)⟩])
    (.seq (.seq (.line [⟨(some 16), none, .move (.t 0)⟩, ⟨(some 17), none, .nilc (.t 16)⟩, ⟨(some 18), none, .fa 1 (.t 17)⟩, ⟨(some 19), none, .load none (.t 18)⟩, ⟨(some 20), none, .move (.t 19)⟩, ⟨(some 21), (some (20, true)), .move (.t 0)⟩, ⟨(some 22), (some (20, true)), .nilc (.t 21)⟩, ⟨(some 23), (some (20, true)), .fa 2 (.t 22)⟩, ⟨(some 24), (some (20, true)), .load none (.t 23)⟩, ⟨(some 25), (some (20, true)), .bin .eql (some .int) (.t 24) (.c (.int .i64 0))⟩, ⟨(some 26), none, .pick (.t 20) (.t 25) (.c (.bool false))⟩])
    (.cond (.t 26) (.line [⟨(some 27), none, .move (.t 0)⟩, ⟨(some 28), none, .nilc (.t 27)⟩, ⟨(some 29), none, .fa 3 (.t 28)⟩, ⟨none, none, .store none (.t 29) (.c (.bool true))⟩]) .skip))
    (.seq (.seq (.line [⟨(some 30), none, .move (.t 0)⟩, ⟨(some 31), none, .nilc (.t 30)⟩, ⟨(some 32), none, .fa 3 (.t 31)⟩, ⟨(some 33), none, .load none (.t 32)⟩])
    (.cond (.t 33) (.seq (.line [⟨(some 6), none, .move (.c (.bool false))⟩])
     .ret) .skip))
    (.seq (.line [⟨(some 34), none, .move (.t 0)⟩, ⟨(some 35), none, .nilc (.t 34)⟩, ⟨(some 36), none, .fa 2 (.t 35)⟩, ⟨(some 37), none, .load none (.t 36)⟩, ⟨(some 38), none, .bin .sub none (.t 37) (.c (.int .i64 1))⟩, ⟨(some 39), none, .nilc (.t 34)⟩, ⟨(some 40), none, .fa 2 (.t 39)⟩, ⟨none, none, .store none (.t 40) (.t 38)⟩])
    (.line [⟨(some 41), none, .move (.t 0)⟩, ⟨(some 42), none, .nilc (.t 41)⟩, ⟨(some 43), none, .fa 0 (.t 42)⟩, ⟨(some 44), none, .load none (.t 43)⟩, ⟨(some 45), none, .move (.t 1)⟩, ⟨(some 46), none, .move (.t 7)⟩, ⟨(some 47), none, .bin .add none (.t 45) (.t 46)⟩, ⟨(some 48), none, .move (.t 8)⟩, ⟨(some 49), none, .ia none 1 (.t 44) (.t 47)⟩, ⟨none, none, .store none (.t 49) (.t 48)⟩]))))))
   (.line [⟨(some 50), none, .bin .add none (.t 11) (.c (.int .i64 1))⟩, ⟨(some 11), none, .move (.t 50)⟩])))))))
 (.seq (.line [⟨(some 51), none, .move (.t 0)⟩, ⟨(some 52), none, .nilc (.t 51)⟩, ⟨(some 53), none, .fa 3 (.t 52)⟩, ⟨(some 54), none, .load none (.t 53)⟩, ⟨(some 55), none, .un .not (.t 54)⟩, ⟨(some 6), none, .move (.t 55)⟩])
 .ret)))⟩
/-- (*captioner/journal.Log).sealed -/
def g42 : GFun := ⟨19, [.tmp 4],
 (.seq (.line [⟨(some 4), none, .move (.c (.slice none 0 0))⟩])
 (.seq (.any [] [⟨(some 5), none, .move (.t 1)⟩, ⟨(some 6), none, .len false (.t 5)⟩, ⟨(some 7), none, .conv (.int .u64) (.t 6)⟩, ⟨(some 8), none, .call (.c (.func (.func 36) #[] #[])) [(.t 7), (.c (.int .i64 4))]⟩, ⟨(some 9), none, .move (.t 0)⟩, ⟨(some 10), none, .nilc (.t 9)⟩, ⟨(some 11), none, .fa 4 (.t 10)⟩, ⟨(some 12), none, .load none (.t 11)⟩, ⟨(some 13), none, .conv (.int .u64) (.t 12)⟩, ⟨(some 14), none, .call (.c (.func (.func 36) #[] #[])) [(.t 13), (.c (.int .i64 8))]⟩, ⟨(some 15), none, .move (.t 1)⟩, ⟨(some 16), none, .buildSl 1 3 [(.slice none 0 0)] [(0, 1, (.t 8)), (1, 1, (.t 14)), (2, 1, (.t 15))]⟩, ⟨(some 17), none, .call (.c (.func (.func 57) #[] #[])) [(.t 16)]⟩, ⟨(some 18), none, .call (.c (.func (.func 35) #[] #[])) [(.t 17)]⟩, ⟨(some 4), none, .move (.t 18)⟩] [])
 .ret))⟩
/-- captioner/captionerref54.Seal -/
def g43 : GFun := ⟨22, [.tmp 2],
 (.seq (.line [⟨(some 2), none, .move (.c (.slice none 0 0))⟩])
 (.seq (.line [⟨(some 4), none, .move (.t 0)⟩, ⟨(some 5), none, .call (.c (.func (.func 58) #[] #[])) [(.t 4)]⟩, ⟨(some 3), none, .move (.t 5)⟩])
 (.seq (.line [⟨(some 6), none, .buildSl 257 0 [(.int .u8 0)] []⟩, ⟨(some 7), none, .move (.t 0)⟩, ⟨(some 8), none, .app 1 1 257 (.t 6) (.t 7)⟩, ⟨(some 9), none, .move (.t 3)⟩, ⟨(some 10), none, .conv (.int .u8) (.t 9)⟩, ⟨(some 11), none, .move (.t 3)⟩, ⟨(some 12), none, .bin .shr none (.t 11) (.c (.int .u64 8))⟩, ⟨(some 13), none, .conv (.int .u8) (.t 12)⟩, ⟨(some 14), none, .move (.t 3)⟩, ⟨(some 15), none, .bin .shr none (.t 14) (.c (.int .u64 16))⟩, ⟨(some 16), none, .conv (.int .u8) (.t 15)⟩, ⟨(some 17), none, .move (.t 3)⟩, ⟨(some 18), none, .bin .shr none (.t 17) (.c (.int .u64 24))⟩, ⟨(some 19), none, .conv (.int .u8) (.t 18)⟩, ⟨(some 20), none, .buildSl 257 4 [(.int .u8 0)] [(0, 1, (.t 10)), (1, 1, (.t 13)), (2, 1, (.t 16)), (3, 1, (.t 19))]⟩, ⟨(some 21), none, .app 1 1 257 (.t 8) (.t 20)⟩, ⟨(some 2), none, .move (.t 21)⟩])
 .ret)))⟩
/-- captioner/captionerref55.low -/
def g44 : GFun := ⟨21, [.tmp 4],
 (.seq (.line [⟨(some 4), none, .move (.c (.slice none 0 0))⟩])
 (.seq (.line [⟨(some 5), none, .move (.c (.slice none 0 0))⟩])
 (.seq (.seq (.line [⟨(some 7), none, .move (.t 1)⟩, ⟨(some 8), none, .move (.c (.int .i64 0))⟩])
 (.block 0 (.loop (.seq (.line [⟨(some 9), none, .bin .lss none (.t 8) (.t 7)⟩])
   (.seq (.cond (.t 9) .skip (.exit 0))
   (.seq (.block 1 (.seq (.line [⟨(some 10), none, .move (.t 8)⟩, ⟨(some 6), none, .move (.t 10)⟩])
    (.line [⟨(some 11), none, .move (.t 5)⟩, ⟨(some 12), none, .move (.t 0)⟩, ⟨(some 13), none, .move (.t 6)⟩, ⟨(some 14), none, .bin .mul none (.c (.int .i64 8)) (.t 13)⟩, ⟨(some 15), none, .bin .shr none (.t 12) (.t 14)⟩, ⟨(some 16), none, .conv (.int .u8) (.t 15)⟩, ⟨(some 17), none, .buildSl 257 1 [(.int .u8 0)] [(0, 1, (.t 16))]⟩, ⟨(some 18), none, .app 1 1 257 (.t 11) (.t 17)⟩, ⟨(some 5), none, .move (.t 18)⟩])))
   (.line [⟨(some 19), none, .bin .add none (.t 8) (.c (.int .i64 1))⟩, ⟨(some 8), none, .move (.t 19)⟩])))))))
 (.seq (.line [⟨(some 20), none, .move (.t 5)⟩, ⟨(some 4), none, .move (.t 20)⟩])
 .ret))))⟩
/-- slices.Clone[[]byte,byte] -/
def g45 : GFun := ⟨8, [.tmp 2],
 (.seq (.line [⟨(some 2), none, .move (.c (.slice none 0 0))⟩])
 (.seq (.seq (.line [⟨(some 3), none, .move (.t 0)⟩, ⟨(some 4), none, .bin .eql (some .sl) (.t 3) (.c (.slice none 0 0))⟩])
 (.cond (.t 4) (.seq (.line [⟨(some 2), none, .move (.c (.slice none 0 0))⟩])
  .ret) .skip))
 (.seq (.line [⟨(some 5), none, .buildSl 257 0 [(.int .u8 0)] []⟩, ⟨(some 6), none, .move (.t 0)⟩, ⟨(some 7), none, .app 1 1 257 (.t 5) (.t 6)⟩, ⟨(some 2), none, .move (.t 7)⟩])
 .ret)))⟩
/-- captioner/captionerref55.generation -/
def g46 : GFun := ⟨22, [.tmp 2, .tmp 3],
 (.seq (.line [⟨(some 2), none, .move (.c (.int .u64 0))⟩, ⟨(some 3), none, .move (.c (.bool false))⟩])
 (.seq (.line [⟨(some 7), none, .move (.t 0)⟩, ⟨(some 8), none, .slice (.sl 1) (.t 7) (some (.c (.int .i64 1))) (some (.c (.int .i64 13))) none⟩, ⟨(some 9), none, .call (.c (.func (.func 59) #[] #[])) [(.t 8)]⟩, ⟨(some 6), none, .move (.t 9)⟩, ⟨(some 10), none, .ext (.t 6) 0⟩, ⟨(some 11), none, .ext (.t 6) 1⟩, ⟨(some 4), none, .move (.t 10)⟩, ⟨(some 5), none, .move (.t 11)⟩])
 (.seq (.seq (.line [⟨(some 12), none, .move (.t 0)⟩, ⟨(some 13), none, .ia none 1 (.t 12) (.c (.int .i64 0))⟩, ⟨(some 14), none, .load none (.t 13)⟩, ⟨(some 15), none, .bin .neq (some .int) (.t 14) (.c (.int .u8 183))⟩, ⟨(some 16), none, .move (.t 15)⟩, ⟨(some 17), (some (16, false)), .move (.t 5)⟩, ⟨(some 18), (some (16, false)), .bin .neq (some .int) (.t 17) (.c (.int .i64 0))⟩, ⟨(some 19), none, .pick (.t 16) (.c (.bool true)) (.t 18)⟩])
 (.cond (.t 19) (.seq (.line [⟨(some 2), none, .move (.c (.int .u64 0))⟩, ⟨(some 3), none, .move (.c (.bool false))⟩])
  .ret) .skip))
 (.seq (.line [⟨(some 20), none, .move (.t 4)⟩, ⟨(some 21), none, .call (.c (.func (.func 60) #[] #[])) [(.t 20)]⟩, ⟨(some 2), none, .move (.t 21)⟩, ⟨(some 3), none, .move (.c (.bool true))⟩])
 .ret))))⟩
/-- captioner/captionerref55.bank -/
def g47 : GFun := ⟨17, [.tmp 4],
 (.seq (.line [⟨(some 2), none, .box (.t 0)⟩, ⟨(some 4), none, .move (.c (.slice none 0 0))⟩])
 (.seq (.line [⟨(some 5), none, .fa 1 (.t 2)⟩, ⟨(some 6), none, .load none (.t 5)⟩, ⟨(some 7), none, .move (.t 1)⟩, ⟨(some 8), none, .fa 0 (.t 2)⟩, ⟨(some 9), none, .load none (.t 8)⟩, ⟨(some 10), none, .bin .mul none (.t 7) (.t 9)⟩, ⟨(some 11), none, .move (.t 1)⟩, ⟨(some 12), none, .bin .add none (.t 11) (.c (.int .i64 1))⟩, ⟨(some 13), none, .fa 0 (.t 2)⟩, ⟨(some 14), none, .load none (.t 13)⟩, ⟨(some 15), none, .bin .mul none (.t 12) (.t 14)⟩, ⟨(some 16), none, .slice (.sl 1) (.t 6) (some (.t 10)) (some (.t 15)) none⟩, ⟨(some 4), none, .move (.t 16)⟩])
 .ret))⟩
/-- captioner/captionerref55.read -/
def g48 : GFun := ⟨111, [.cell 6 (some 3), .tmp 7],
 (.seq (.line [⟨(some 6), none, .alloc [(.int .i64 0), (.bool false), (.slice none 0 0)]⟩, ⟨(some 7), none, .move (.c (.bool false))⟩])
 (.seq (.seq (.line [⟨(some 12), none, .move (.t 0)⟩, ⟨(some 13), none, .move (.t 1)⟩, ⟨(some 14), none, .ia none 1 (.t 12) (.t 13)⟩, ⟨(some 15), none, .load none (.t 14)⟩, ⟨(some 16), none, .bin .neq (some .int) (.t 15) (.c (.int .u8 165))⟩, ⟨(some 17), none, .move (.t 16)⟩, ⟨(some 18), (some (17, true)), .move (.t 0)⟩, ⟨(some 19), (some (17, true)), .move (.t 1)⟩, ⟨(some 20), (some (17, true)), .ia none 1 (.t 18) (.t 19)⟩, ⟨(some 21), (some (17, true)), .load none (.t 20)⟩, ⟨(some 22), (some (17, true)), .bin .neq (some .int) (.t 21) (.c (.int .u8 166))⟩, ⟨(some 23), none, .pick (.t 17) (.t 22) (.c (.bool false))⟩, ⟨(some 24), none, .move (.t 23)⟩, ⟨(some 25), (some (24, false)), .move (.t 0)⟩, ⟨(some 26), (some (24, false)), .move (.t 1)⟩, ⟨(some 27), (some (24, false)), .ia none 1 (.t 25) (.t 26)⟩, ⟨(some 28), (some (24, false)), .load none (.t 27)⟩, ⟨(some 29), (some (24, false)), .bin .eql (some .int) (.t 28) (.c (.int .u8 166))⟩, ⟨(some 30), (some (24, false)), .move (.t 29)⟩, ⟨(some 31), (some (30, true)), .move (.t 1)⟩, ⟨(some 32), (some (30, true)), .bin .neq (some .int) (.t 31) (.c (.int .i64 13))⟩, ⟨(some 33), (some (24, false)), .pick (.t 30) (.t 32) (.c (.bool false))⟩, ⟨(some 34), none, .pick (.t 24) (.c (.bool true)) (.t 33)⟩, ⟨(some 35), none, .move (.t 34)⟩, ⟨(some 36), (some (35, false)), .move (.t 1)⟩, ⟨(some 37), (some (35, false)), .bin .add none (.t 36) (.c (.int .i64 17))⟩, ⟨(some 38), (some (35, false)), .move (.t 0)⟩, ⟨(some 39), (some (35, false)), .len false (.t 38)⟩, ⟨(some 40), (some (35, false)), .bin .geq none (.t 37) (.t 39)⟩, ⟨(some 41), none, .pick (.t 35) (.c (.bool true)) (.t 40)⟩])
 (.cond (.t 41) (.seq (.line [⟨(some 42), none, .build [(.int .i64 0), (.bool false), (.slice none 0 0)] []⟩, ⟨none, none, .store (some 3) (.t 6) (.t 42)⟩, ⟨(some 7), none, .move (.c (.bool false))⟩])
  .ret) .skip))
 (.seq (.line [⟨(some 43), none, .move (.t 0)⟩, ⟨(some 44), none, .move (.t 1)⟩, ⟨(some 45), none, .bin .add none (.t 44) (.c (.int .i64 1))⟩, ⟨(some 46), none, .move (.t 1)⟩, ⟨(some 47), none, .bin .add none (.t 46) (.c (.int .i64 5))⟩, ⟨(some 48), none, .slice (.sl 1) (.t 43) (some (.t 45)) (some (.t 47)) none⟩, ⟨(some 49), none, .call (.c (.func (.func 60) #[] #[])) [(.t 48)]⟩, ⟨(some 50), none, .conv (.int .i64) (.t 49)⟩, ⟨(some 8), none, .move (.t 50)⟩])
 (.seq (.seq (.line [⟨(some 51), none, .move (.t 1)⟩, ⟨(some 52), none, .bin .add none (.t 51) (.c (.int .i64 17))⟩, ⟨(some 53), none, .move (.t 8)⟩, ⟨(some 54), none, .bin .add none (.t 52) (.t 53)⟩, ⟨(some 55), none, .move (.t 0)⟩, ⟨(some 56), none, .len false (.t 55)⟩, ⟨(some 57), none, .bin .geq none (.t 54) (.t 56)⟩])
 (.cond (.t 57) (.seq (.line [⟨(some 58), none, .build [(.int .i64 0), (.bool false), (.slice none 0 0)] []⟩, ⟨none, none, .store (some 3) (.t 6) (.t 58)⟩, ⟨(some 7), none, .move (.c (.bool false))⟩])
  .ret) .skip))
 (.seq (.line [⟨(some 60), none, .move (.t 0)⟩, ⟨(some 61), none, .move (.t 1)⟩, ⟨(some 62), none, .bin .add none (.t 61) (.c (.int .i64 1))⟩, ⟨(some 63), none, .move (.t 1)⟩, ⟨(some 64), none, .bin .add none (.t 63) (.c (.int .i64 17))⟩, ⟨(some 65), none, .move (.t 8)⟩, ⟨(some 66), none, .bin .add none (.t 64) (.t 65)⟩, ⟨(some 67), none, .slice (.sl 1) (.t 60) (some (.t 62)) (some (.t 66)) none⟩, ⟨(some 68), none, .call (.c (.func (.func 59) #[] #[])) [(.t 67)]⟩, ⟨(some 59), none, .move (.t 68)⟩, ⟨(some 69), none, .ext (.t 59) 0⟩, ⟨(some 70), none, .ext (.t 59) 1⟩, ⟨(some 9), none, .move (.t 69)⟩, ⟨(some 10), none, .move (.t 70)⟩])
 (.seq (.seq (.line [⟨(some 71), none, .move (.t 10)⟩, ⟨(some 72), none, .bin .neq (some .int) (.t 71) (.c (.int .i64 0))⟩])
 (.cond (.t 72) (.seq (.line [⟨(some 73), none, .build [(.int .i64 0), (.bool false), (.slice none 0 0)] []⟩, ⟨none, none, .store (some 3) (.t 6) (.t 73)⟩, ⟨(some 7), none, .move (.c (.bool false))⟩])
  .ret) .skip))
 (.seq (.line [⟨(some 74), none, .move (.t 9)⟩, ⟨(some 75), none, .slice (.sl 1) (.t 74) (some (.c (.int .i64 4))) (some (.c (.int .i64 12))) none⟩, ⟨(some 76), none, .call (.c (.func (.func 60) #[] #[])) [(.t 75)]⟩, ⟨(some 11), none, .move (.t 76)⟩])
 (.seq (.seq (.line [⟨(some 77), none, .move (.t 11)⟩, ⟨(some 78), none, .bin .lss none (.t 77) (.c (.int .u64 1))⟩, ⟨(some 79), none, .move (.t 78)⟩, ⟨(some 80), (some (79, false)), .move (.t 1)⟩, ⟨(some 81), (some (79, false)), .bin .eql (some .int) (.t 80) (.c (.int .i64 13))⟩, ⟨(some 82), (some (79, false)), .move (.t 81)⟩, ⟨(some 83), (some (82, true)), .move (.t 11)⟩, ⟨(some 84), (some (82, true)), .bin .gtr none (.t 83) (.c (.int .u64 1099511627776))⟩, ⟨(some 85), (some (79, false)), .pick (.t 82) (.t 84) (.c (.bool false))⟩, ⟨(some 86), none, .pick (.t 79) (.c (.bool true)) (.t 85)⟩, ⟨(some 87), none, .move (.t 86)⟩, ⟨(some 88), (some (87, false)), .move (.t 1)⟩, ⟨(some 89), (some (87, false)), .bin .neq (some .int) (.t 88) (.c (.int .i64 13))⟩, ⟨(some 90), (some (87, false)), .move (.t 89)⟩, ⟨(some 91), (some (90, true)), .move (.t 11)⟩, ⟨(some 92), (some (90, true)), .move (.t 2)⟩, ⟨(some 93), (some (90, true)), .bin .add none (.t 92) (.c (.int .i64 1))⟩, ⟨(some 94), (some (90, true)), .conv (.int .u64) (.t 93)⟩, ⟨(some 95), (some (90, true)), .bin .neq (some .int) (.t 91) (.t 94)⟩, ⟨(some 96), (some (87, false)), .pick (.t 90) (.t 95) (.c (.bool false))⟩, ⟨(some 97), none, .pick (.t 87) (.c (.bool true)) (.t 96)⟩])
 (.cond (.t 97) (.seq (.line [⟨(some 98), none, .build [(.int .i64 0), (.bool false), (.slice none 0 0)] []⟩, ⟨none, none, .store (some 3) (.t 6) (.t 98)⟩, ⟨(some 7), none, .move (.c (.bool false))⟩])
  .ret) .skip))
 (.seq (.any [] [⟨(some 99), none, .move (.t 11)⟩, ⟨(some 100), none, .conv (.int .i64) (.t 99)⟩, ⟨(some 101), none, .move (.t 0)⟩, ⟨(some 102), none, .move (.t 1)⟩, ⟨(some 103), none, .ia none 1 (.t 101) (.t 102)⟩, ⟨(some 104), none, .load none (.t 103)⟩, ⟨(some 105), none, .bin .eql (some .int) (.t 104) (.c (.int .u8 166))⟩, ⟨(some 106), none, .buildSl 257 0 [(.int .u8 0)] []⟩, ⟨(some 107), none, .move (.t 9)⟩, ⟨(some 108), none, .slice (.sl 1) (.t 107) (some (.c (.int .i64 12))) none none⟩, ⟨(some 109), none, .appM 1 1 257 (.t 106) (.t 108)⟩, ⟨(some 110), none, .build [(.int .i64 0), (.bool false), (.slice none 0 0)] [(0, 1, (.t 100)), (1, 1, (.t 105)), (2, 1, (.t 109))]⟩] [(false, ⟨none, none, .store (some 3) (.t 6) (.t 110)⟩), (false, ⟨(some 7), none, .move (.c (.bool true))⟩)])
 .ret)))))))))⟩
/-- captioner/captionerref55.refused -/
def g49 : GFun := ⟨25, [.tmp 8],
 (.seq (.line [⟨(some 4), none, .box (.t 0)⟩, ⟨(some 5), none, .box (.t 1)⟩, ⟨(some 8), none, .move (.c (.int .i64 0))⟩])
 (.seq (.block 0 (.seq (.line [⟨(some 10), none, .fa 2 (.t 5)⟩, ⟨(some 11), none, .load none (.t 10)⟩, ⟨(some 12), none, .bin .gtr none (.t 11) (.c (.int .i64 1099511627776))⟩, ⟨(some 9), none, .move (.t 12)⟩])
  (.cond (.t 9) (.seq (.line [⟨(some 8), none, .move (.c (.int .i64 9))⟩])
   .ret) (.seq (.line [⟨(some 14), none, .move (.t 2)⟩, ⟨(some 15), none, .bin .add none (.t 14) (.c (.int .i64 17))⟩, ⟨(some 16), none, .move (.t 3)⟩, ⟨(some 17), none, .len false (.t 16)⟩, ⟨(some 18), none, .bin .add none (.t 15) (.t 17)⟩, ⟨(some 19), none, .fa 0 (.t 4)⟩, ⟨(some 20), none, .load none (.t 19)⟩, ⟨(some 21), none, .bin .geq none (.t 18) (.t 20)⟩, ⟨(some 13), none, .move (.t 21)⟩])
   (.cond (.t 13) (.seq (.line [⟨(some 8), none, .move (.c (.int .i64 20))⟩])
    .ret) (.seq (.line [⟨(some 23), none, .fa 5 (.t 5)⟩, ⟨(some 24), none, .load none (.t 23)⟩, ⟨(some 22), none, .move (.t 24)⟩])
    (.cond (.t 22) (.seq (.line [⟨(some 8), none, .move (.c (.int .i64 21))⟩])
     .ret) .skip)))))))
 (.seq (.line [⟨(some 8), none, .move (.c (.int .i64 0))⟩])
 .ret)))⟩
/-- captioner/captionerref55.copied -/
def g50 : GFun := ⟨9, [.cell 2 (some 5)],
 (.seq (.line [⟨(some 1), none, .box (.t 0)⟩, ⟨(some 2), none, .alloc [(.int .i64 0), (.slice none 0 0), (.bool false), (.int .i64 0), (.bool false)]⟩])
 (.seq (.line [⟨(some 3), none, .buildSl 257 0 [(.int .u8 0)] []⟩, ⟨(some 4), none, .fa 1 (.t 1)⟩, ⟨(some 5), none, .load none (.t 4)⟩, ⟨(some 6), none, .app 1 1 257 (.t 3) (.t 5)⟩, ⟨(some 7), none, .fa 1 (.t 1)⟩, ⟨none, none, .store none (.t 7) (.t 6)⟩])
 (.seq (.line [⟨(some 8), none, .load (some 5) (.t 1)⟩, ⟨none, none, .store (some 5) (.t 2) (.t 8)⟩])
 .ret)))⟩
/-- captioner/captionerref55.write -/
def g51 : GFun := ⟨47, [.cell 6 (some 5)],
 (.seq (.line [⟨(some 3), none, .box (.t 0)⟩, ⟨(some 6), none, .alloc [(.int .i64 0), (.slice none 0 0), (.bool false), (.int .i64 0), (.bool false)]⟩])
 (.seq (.seq (.line [⟨(some 9), none, .move (.t 2)⟩, ⟨(some 10), none, .len false (.t 9)⟩, ⟨(some 11), none, .move (.c (.int .i64 0))⟩])
 (.block 0 (.loop (.seq (.line [⟨(some 12), none, .bin .lss none (.t 11) (.t 10)⟩])
   (.seq (.cond (.t 12) .skip (.exit 0))
   (.seq (.block 1 (.seq (.line [⟨(some 13), none, .move (.t 11)⟩, ⟨(some 14), none, .ia none 1 (.t 9) (.t 11)⟩, ⟨(some 15), none, .load none (.t 14)⟩, ⟨(some 7), none, .move (.t 13)⟩, ⟨(some 8), none, .move (.t 15)⟩])
    (.seq (.seq (.line [⟨(some 16), none, .fa 4 (.t 3)⟩, ⟨(some 17), none, .load none (.t 16)⟩, ⟨(some 18), none, .un .not (.t 17)⟩, ⟨(some 19), none, .move (.t 18)⟩, ⟨(some 20), (some (19, true)), .fa 2 (.t 3)⟩, ⟨(some 21), (some (19, true)), .load none (.t 20)⟩, ⟨(some 22), none, .pick (.t 19) (.t 21) (.c (.bool false))⟩, ⟨(some 23), none, .move (.t 22)⟩, ⟨(some 24), (some (23, true)), .fa 3 (.t 3)⟩, ⟨(some 25), (some (23, true)), .load none (.t 24)⟩, ⟨(some 26), (some (23, true)), .bin .eql (some .int) (.t 25) (.c (.int .i64 0))⟩, ⟨(some 27), none, .pick (.t 23) (.t 26) (.c (.bool false))⟩])
    (.cond (.t 27) (.line [⟨(some 28), none, .fa 4 (.t 3)⟩, ⟨none, none, .store none (.t 28) (.c (.bool true))⟩]) .skip))
    (.seq (.seq (.line [⟨(some 29), none, .fa 4 (.t 3)⟩, ⟨(some 30), none, .load none (.t 29)⟩])
    (.cond (.t 30) (.seq (.line [⟨(some 31), none, .load (some 5) (.t 3)⟩, ⟨none, none, .store (some 5) (.t 6) (.t 31)⟩])
     .ret) .skip))
    (.seq (.seq (.line [⟨(some 32), none, .fa 2 (.t 3)⟩, ⟨(some 33), none, .load none (.t 32)⟩])
    (.cond (.t 33) (.line [⟨(some 34), none, .fa 3 (.t 3)⟩, ⟨(some 35), none, .load none (.t 34)⟩, ⟨(some 36), none, .bin .sub none (.t 35) (.c (.int .i64 1))⟩, ⟨(some 37), none, .fa 3 (.t 3)⟩, ⟨none, none, .store none (.t 37) (.t 36)⟩]) .skip))
    (.line [⟨(some 38), none, .fa 1 (.t 3)⟩, ⟨(some 39), none, .load none (.t 38)⟩, ⟨(some 40), none, .move (.t 1)⟩, ⟨(some 41), none, .move (.t 7)⟩, ⟨(some 42), none, .bin .add none (.t 40) (.t 41)⟩, ⟨(some 43), none, .move (.t 8)⟩, ⟨(some 44), none, .ia none 1 (.t 39) (.t 42)⟩, ⟨none, none, .store none (.t 44) (.t 43)⟩]))))))
   (.line [⟨(some 45), none, .bin .add none (.t 11) (.c (.int .i64 1))⟩, ⟨(some 11), none, .move (.t 45)⟩])))))))
 (.seq (.line [⟨(some 46), none, .load (some 5) (.t 3)⟩, ⟨none, none, .store (some 5) (.t 6) (.t 46)⟩])
 .ret)))⟩
/-- captioner/captionerref55.record -/
def g52 : GFun := ⟨16, [.tmp 4],
 (.seq (.line [⟨(some 4), none, .move (.c (.slice none 0 0))⟩])
 (.seq (.line [⟨(some 5), none, .move (.t 1)⟩, ⟨(some 6), none, .len false (.t 5)⟩, ⟨(some 7), none, .conv (.int .u64) (.t 6)⟩, ⟨(some 8), none, .call (.c (.func (.func 44) #[] #[])) [(.t 7), (.c (.int .i64 4))]⟩, ⟨(some 9), none, .move (.t 0)⟩, ⟨(some 10), none, .conv (.int .u64) (.t 9)⟩, ⟨(some 11), none, .call (.c (.func (.func 44) #[] #[])) [(.t 10), (.c (.int .i64 8))]⟩, ⟨(some 12), none, .app 1 1 257 (.t 8) (.t 11)⟩, ⟨(some 13), none, .move (.t 1)⟩, ⟨(some 14), none, .app 1 1 257 (.t 12) (.t 13)⟩, ⟨(some 15), none, .call (.c (.func (.func 43) #[] #[])) [(.t 14)]⟩, ⟨(some 4), none, .move (.t 15)⟩])
 .ret))⟩
/-- captioner/crc.Sum -/
def g53 : GFun := ⟨5, [.tmp 2],
 (.seq (.line [⟨(some 2), none, .move (.c (.int .u32 0))⟩])
 (.seq (.line [⟨(some 3), none, .move (.t 0)⟩, ⟨(some 4), none, .call (.c (.func (.func 61) #[] #[])) [(.c (.int .u32 0)), (.t 3)]⟩, ⟨(some 2), none, .move (.t 4)⟩])
 .ret))⟩
/-- (*captioner/journal.Memory).generation -/
def g54 : GFun := ⟨26, [.tmp 4, .tmp 5],
 (.seq (.line [⟨(some 4), none, .move (.c (.int .u64 0))⟩, ⟨(some 5), none, .move (.c (.bool false))⟩])
 (.seq (.line [⟨(some 9), none, .move (.t 0)⟩, ⟨(some 10), none, .move (.t 1)⟩, ⟨(some 11), none, .call (.c (.func (.func 38) #[] #[])) [(.t 9), (.t 10)]⟩, ⟨(some 6), none, .move (.t 11)⟩])
 (.seq (.seq (.line [⟨(some 12), none, .move (.t 6)⟩, ⟨(some 13), none, .ia none 1 (.t 12) (.c (.int .i64 0))⟩, ⟨(some 14), none, .load none (.t 13)⟩, ⟨(some 15), none, .bin .neq (some .int) (.t 14) (.c (.int .u8 183))⟩])
 (.cond (.t 15) (.seq (.line [⟨(some 4), none, .move (.c (.int .u64 0))⟩, ⟨(some 5), none, .move (.c (.bool false))⟩])
  .ret) .skip))
 (.seq (.line [⟨(some 17), none, .move (.t 6)⟩, ⟨(some 18), none, .slice (.sl 1) (.t 17) (some (.c (.int .i64 1))) (some (.c (.int .i64 13))) none⟩, ⟨(some 19), none, .call (.c (.func (.func 56) #[] #[])) [(.t 18)]⟩, ⟨(some 16), none, .move (.t 19)⟩, ⟨(some 20), none, .ext (.t 16) 0⟩, ⟨(some 21), none, .ext (.t 16) 1⟩, ⟨(some 7), none, .move (.t 20)⟩, ⟨(some 8), none, .move (.t 21)⟩])
 (.seq (.line [⟨(some 22), none, .move (.t 7)⟩, ⟨(some 23), none, .call (.c (.func (.func 55) #[] #[])) [(.t 22)]⟩, ⟨(some 24), none, .move (.t 8)⟩, ⟨(some 25), none, .bin .eql (some .int) (.t 24) (.c (.int .i64 0))⟩, ⟨(some 4), none, .move (.t 23)⟩, ⟨(some 5), none, .move (.t 25)⟩])
 .ret)))))⟩
/-- captioner/journal.number -/
def g55 : GFun := ⟨22, [.tmp 2],
 (.seq (.line [⟨(some 2), none, .move (.c (.int .u64 0))⟩])
 (.seq (.line [⟨(some 3), none, .move (.c (.int .u64 0))⟩])
 (.seq (.seq (.line [⟨(some 6), none, .move (.t 0)⟩, ⟨(some 7), none, .len false (.t 6)⟩, ⟨(some 8), none, .move (.c (.int .i64 0))⟩])
 (.block 0 (.loop (.seq (.line [⟨(some 9), none, .bin .lss none (.t 8) (.t 7)⟩])
   (.seq (.cond (.t 9) .skip (.exit 0))
   (.seq (.block 1 (.seq (.line [⟨(some 10), none, .move (.t 8)⟩, ⟨(some 11), none, .ia none 1 (.t 6) (.t 8)⟩, ⟨(some 12), none, .load none (.t 11)⟩, ⟨(some 4), none, .move (.t 10)⟩, ⟨(some 5), none, .move (.t 12)⟩])
    (.line [⟨(some 13), none, .move (.t 3)⟩, ⟨(some 14), none, .move (.t 5)⟩, ⟨(some 15), none, .conv (.int .u64) (.t 14)⟩, ⟨(some 16), none, .move (.t 4)⟩, ⟨(some 17), none, .bin .mul none (.c (.int .i64 8)) (.t 16)⟩, ⟨(some 18), none, .bin .shl none (.t 15) (.t 17)⟩, ⟨(some 19), none, .bin .or none (.t 13) (.t 18)⟩, ⟨(some 3), none, .move (.t 19)⟩])))
   (.line [⟨(some 20), none, .bin .add none (.t 8) (.c (.int .i64 1))⟩, ⟨(some 8), none, .move (.t 20)⟩])))))))
 (.seq (.line [⟨(some 21), none, .move (.t 3)⟩, ⟨(some 2), none, .move (.t 21)⟩])
 .ret))))⟩
/-- captioner/crc.Open -/
def g56 : GFun := ⟨59, [.tmp 2, .tmp 3],
 (.seq (.line [⟨(some 2), none, .move (.c (.slice none 0 0))⟩, ⟨(some 3), none, .move (.c (.int .i64 0))⟩])
 (.seq (.line [⟨(some 6), none, .move (.t 0)⟩, ⟨(some 7), none, .len false (.t 6)⟩, ⟨(some 8), none, .bin .sub none (.t 7) (.c (.int .i64 4))⟩, ⟨(some 4), none, .move (.t 8)⟩])
 (.seq (.seq (.line [⟨(some 9), none, .move (.t 4)⟩, ⟨(some 10), none, .bin .lss none (.t 9) (.c (.int .i64 0))⟩])
 (.cond (.t 10) (.seq (.line [⟨(some 2), none, .move (.c (.slice none 0 0))⟩, ⟨(some 3), none, .move (.c (.int .i64 4))⟩])
  .ret) .skip))
 (.seq (.line [⟨(some 11), none, .move (.t 0)⟩, ⟨(some 12), none, .move (.t 4)⟩, ⟨(some 13), none, .slice (.sl 1) (.t 11) none (some (.t 12)) none⟩, ⟨(some 14), none, .call (.c (.func (.func 53) #[] #[])) [(.t 13)]⟩, ⟨(some 5), none, .move (.t 14)⟩])
 (.seq (.seq (.line [⟨(some 15), none, .move (.t 0)⟩, ⟨(some 16), none, .move (.t 4)⟩, ⟨(some 17), none, .ia none 1 (.t 15) (.t 16)⟩, ⟨(some 18), none, .load none (.t 17)⟩, ⟨(some 19), none, .move (.t 5)⟩, ⟨(some 20), none, .conv (.int .u8) (.t 19)⟩, ⟨(some 21), none, .bin .neq (some .int) (.t 18) (.t 20)⟩, ⟨(some 22), none, .move (.t 21)⟩, ⟨(some 23), (some (22, false)), .move (.t 0)⟩, ⟨(some 24), (some (22, false)), .move (.t 4)⟩, ⟨(some 25), (some (22, false)), .bin .add none (.t 24) (.c (.int .i64 1))⟩, ⟨(some 26), (some (22, false)), .ia none 1 (.t 23) (.t 25)⟩, ⟨(some 27), (some (22, false)), .load none (.t 26)⟩, ⟨(some 28), (some (22, false)), .move (.t 5)⟩, ⟨(some 29), (some (22, false)), .bin .shr none (.t 28) (.c (.int .u64 8))⟩, ⟨(some 30), (some (22, false)), .conv (.int .u8) (.t 29)⟩, ⟨(some 31), (some (22, false)), .bin .neq (some .int) (.t 27) (.t 30)⟩, ⟨(some 32), none, .pick (.t 22) (.c (.bool true)) (.t 31)⟩, ⟨(some 33), none, .move (.t 32)⟩, ⟨(some 34), (some (33, false)), .move (.t 0)⟩, ⟨(some 35), (some (33, false)), .move (.t 4)⟩, ⟨(some 36), (some (33, false)), .bin .add none (.t 35) (.c (.int .i64 2))⟩, ⟨(some 37), (some (33, false)), .ia none 1 (.t 34) (.t 36)⟩, ⟨(some 38), (some (33, false)), .load none (.t 37)⟩, ⟨(some 39), (some (33, false)), .move (.t 5)⟩, ⟨(some 40), (some (33, false)), .bin .shr none (.t 39) (.c (.int .u64 16))⟩, ⟨(some 41), (some (33, false)), .conv (.int .u8) (.t 40)⟩, ⟨(some 42), (some (33, false)), .bin .neq (some .int) (.t 38) (.t 41)⟩, ⟨(some 43), none, .pick (.t 33) (.c (.bool true)) (.t 42)⟩, ⟨(some 44), none, .move (.t 43)⟩, ⟨(some 45), (some (44, false)), .move (.t 0)⟩, ⟨(some 46), (some (44, false)), .move (.t 4)⟩, ⟨(some 47), (some (44, false)), .bin .add none (.t 46) (.c (.int .i64 3))⟩, ⟨(some 48), (some (44, false)), .ia none 1 (.t 45) (.t 47)⟩, ⟨(some 49), (some (44, false)), .load none (.t 48)⟩, ⟨(some 50), (some (44, false)), .move (.t 5)⟩, ⟨(some 51), (some (44, false)), .bin .shr none (.t 50) (.c (.int .u64 24))⟩, ⟨(some 52), (some (44, false)), .conv (.int .u8) (.t 51)⟩, ⟨(some 53), (some (44, false)), .bin .neq (some .int) (.t 49) (.t 52)⟩, ⟨(some 54), none, .pick (.t 44) (.c (.bool true)) (.t 53)⟩])
 (.cond (.t 54) (.seq (.line [⟨(some 2), none, .move (.c (.slice none 0 0))⟩, ⟨(some 3), none, .move (.c (.int .i64 19))⟩])
  .ret) .skip))
 (.seq (.line [⟨(some 55), none, .move (.t 0)⟩, ⟨(some 56), none, .move (.t 4)⟩, ⟨(some 57), none, .slice (.sl 1) (.t 55) none (some (.t 56)) none⟩, ⟨(some 58), none, .app 1 1 257 (.c (.slice none 0 0)) (.t 57)⟩, ⟨(some 2), none, .move (.t 58)⟩, ⟨(some 3), none, .move (.c (.int .i64 0))⟩])
 .ret))))))⟩
-- 57 slices.Concat[[]byte,byte]: NOT COVERED: region 7, slices.go:496: makeInterface
-- 57 slices.Concat[[]byte,byte]: NOT COVERED: region 7, slices.go:496: panic
/-- slices.Concat[[]byte,byte] -/
def g57 : GFun := ⟨36, [.tmp 2],
 (.seq (.line [⟨(some 2), none, .move (.c (.slice none 0 0))⟩])
 (.seq (.line [⟨(some 3), none, .move (.c (.int .i64 0))⟩])
 (.seq (.seq (.line [⟨(some 9), none, .move (.t 0)⟩, ⟨(some 10), none, .len false (.t 9)⟩, ⟨(some 11), none, .move (.c (.int .i64 0))⟩])
 (.block 0 (.loop (.seq (.line [⟨(some 12), none, .bin .lss none (.t 11) (.t 10)⟩])
   (.seq (.cond (.t 12) .skip (.exit 0))
   (.seq (.block 1 (.seq (.line [⟨(some 13), none, .ia none 1 (.t 9) (.t 11)⟩, ⟨(some 14), none, .load none (.t 13)⟩, ⟨(some 5), none, .move (.t 14)⟩])
    (.seq (.line [⟨(some 15), none, .move (.t 3)⟩, ⟨(some 16), none, .move (.t 5)⟩, ⟨(some 17), none, .len false (.t 16)⟩, ⟨(some 18), none, .bin .add none (.t 15) (.t 17)⟩, ⟨(some 3), none, .move (.t 18)⟩])
    (.seq (.line [⟨(some 19), none, .move (.t 3)⟩, ⟨(some 20), none, .bin .lss none (.t 19) (.c (.int .i64 0))⟩])
    (.cond (.t 20) (.line [⟨(some 21), none, .bad⟩, ⟨none, none, .bad⟩]) .skip)))))
   (.line [⟨(some 22), none, .bin .add none (.t 11) (.c (.int .i64 1))⟩, ⟨(some 11), none, .move (.t 22)⟩])))))))
 (.seq (.line [⟨(some 23), none, .move (.t 3)⟩, ⟨(some 24), none, .call (.c (.func (.func 62) #[] #[])) [(.c (.slice none 0 0)), (.t 23)]⟩, ⟨(some 6), none, .move (.t 24)⟩])
 (.seq (.seq (.line [⟨(some 25), none, .move (.t 0)⟩, ⟨(some 26), none, .len false (.t 25)⟩, ⟨(some 27), none, .move (.c (.int .i64 0))⟩])
 (.block 2 (.loop (.seq (.line [⟨(some 28), none, .bin .lss none (.t 27) (.t 26)⟩])
   (.seq (.cond (.t 28) .skip (.exit 2))
   (.seq (.block 3 (.seq (.line [⟨(some 29), none, .ia none 1 (.t 25) (.t 27)⟩, ⟨(some 30), none, .load none (.t 29)⟩, ⟨(some 8), none, .move (.t 30)⟩])
    (.line [⟨(some 31), none, .move (.t 6)⟩, ⟨(some 32), none, .move (.t 8)⟩, ⟨(some 33), none, .app 1 1 257 (.t 31) (.t 32)⟩, ⟨(some 6), none, .move (.t 33)⟩])))
   (.line [⟨(some 34), none, .bin .add none (.t 27) (.c (.int .i64 1))⟩, ⟨(some 27), none, .move (.t 34)⟩])))))))
 (.seq (.line [⟨(some 35), none, .move (.t 6)⟩, ⟨(some 2), none, .move (.t 35)⟩])
 .ret))))))⟩
/-- captioner/captionerref54.Sum -/
def g58 : GFun := ⟨5, [.tmp 2],
 (.seq (.line [⟨(some 2), none, .move (.c (.int .u32 0))⟩])
 (.seq (.line [⟨(some 3), none, .move (.t 0)⟩, ⟨(some 4), none, .call (.c (.func (.func 63) #[] #[])) [(.c (.int .u32 0)), (.t 3)]⟩, ⟨(some 2), none, .move (.t 4)⟩])
 .ret))⟩
/-- captioner/captionerref54.Open -/
def g59 : GFun := ⟨23, [.tmp 2, .tmp 3],
 (.seq (.line [⟨(some 2), none, .move (.c (.slice none 0 0))⟩, ⟨(some 3), none, .move (.c (.int .i64 0))⟩])
 (.seq (.line [⟨(some 5), none, .move (.t 0)⟩, ⟨(some 6), none, .len false (.t 5)⟩, ⟨(some 7), none, .bin .sub none (.t 6) (.c (.int .i64 4))⟩, ⟨(some 4), none, .move (.t 7)⟩])
 (.seq (.seq (.line [⟨(some 8), none, .move (.t 4)⟩, ⟨(some 9), none, .bin .lss none (.t 8) (.c (.int .i64 0))⟩])
 (.cond (.t 9) (.seq (.line [⟨(some 2), none, .move (.c (.slice none 0 0))⟩, ⟨(some 3), none, .move (.c (.int .i64 4))⟩])
  .ret) .skip))
 (.seq (.seq (.any [] [⟨(some 10), none, .move (.t 0)⟩, ⟨(some 11), none, .move (.t 4)⟩, ⟨(some 12), none, .slice (.sl 1) (.t 10) none (some (.t 11)) none⟩, ⟨(some 13), none, .call (.c (.func (.func 43) #[] #[])) [(.t 12)]⟩, ⟨(some 14), none, .conv .ofBytes (.t 13)⟩, ⟨(some 15), none, .move (.t 0)⟩, ⟨(some 16), none, .conv .ofBytes (.t 15)⟩, ⟨(some 17), none, .bin .neq (some .str) (.t 14) (.t 16)⟩] [])
 (.cond (.t 17) (.seq (.line [⟨(some 2), none, .move (.c (.slice none 0 0))⟩, ⟨(some 3), none, .move (.c (.int .i64 19))⟩])
  .ret) .skip))
 (.seq (.line [⟨(some 18), none, .buildSl 257 0 [(.int .u8 0)] []⟩, ⟨(some 19), none, .move (.t 0)⟩, ⟨(some 20), none, .move (.t 4)⟩, ⟨(some 21), none, .slice (.sl 1) (.t 19) none (some (.t 20)) none⟩, ⟨(some 22), none, .app 1 1 257 (.t 18) (.t 21)⟩, ⟨(some 2), none, .move (.t 22)⟩, ⟨(some 3), none, .move (.c (.int .i64 0))⟩])
 .ret)))))⟩
/-- captioner/captionerref55.number -/
def g60 : GFun := ⟨22, [.tmp 2],
 (.seq (.line [⟨(some 2), none, .move (.c (.int .u64 0))⟩])
 (.seq (.line [⟨(some 3), none, .move (.c (.int .u64 0))⟩])
 (.seq (.seq (.line [⟨(some 6), none, .move (.t 0)⟩, ⟨(some 7), none, .len false (.t 6)⟩, ⟨(some 8), none, .move (.c (.int .i64 0))⟩])
 (.block 0 (.loop (.seq (.line [⟨(some 9), none, .bin .lss none (.t 8) (.t 7)⟩])
   (.seq (.cond (.t 9) .skip (.exit 0))
   (.seq (.block 1 (.seq (.line [⟨(some 10), none, .move (.t 8)⟩, ⟨(some 11), none, .ia none 1 (.t 6) (.t 8)⟩, ⟨(some 12), none, .load none (.t 11)⟩, ⟨(some 4), none, .move (.t 10)⟩, ⟨(some 5), none, .move (.t 12)⟩])
    (.line [⟨(some 13), none, .move (.t 3)⟩, ⟨(some 14), none, .move (.t 5)⟩, ⟨(some 15), none, .conv (.int .u64) (.t 14)⟩, ⟨(some 16), none, .move (.t 4)⟩, ⟨(some 17), none, .bin .mul none (.c (.int .i64 8)) (.t 16)⟩, ⟨(some 18), none, .bin .shl none (.t 15) (.t 17)⟩, ⟨(some 19), none, .bin .or none (.t 13) (.t 18)⟩, ⟨(some 3), none, .move (.t 19)⟩])))
   (.line [⟨(some 20), none, .bin .add none (.t 8) (.c (.int .i64 1))⟩, ⟨(some 8), none, .move (.t 20)⟩])))))))
 (.seq (.line [⟨(some 21), none, .move (.t 3)⟩, ⟨(some 2), none, .move (.t 21)⟩])
 .ret))))⟩
/-- captioner/crc.Update -/
def g61 : GFun := ⟨35, [.tmp 4],
 (.seq (.line [⟨(some 4), none, .move (.c (.int .u32 0))⟩])
 (.seq (.line [⟨(some 9), none, .move (.t 0)⟩, ⟨(some 10), none, .un .xor (.t 9)⟩, ⟨(some 5), none, .move (.t 10)⟩])
 (.seq (.seq (.line [⟨(some 11), none, .move (.t 1)⟩, ⟨(some 12), none, .len false (.t 11)⟩, ⟨(some 13), none, .move (.c (.int .i64 0))⟩])
 (.block 0 (.loop (.seq (.line [⟨(some 14), none, .bin .lss none (.t 13) (.t 12)⟩])
   (.seq (.cond (.t 14) .skip (.exit 0))
   (.seq (.block 1 (.seq (.line [⟨(some 15), none, .ia none 1 (.t 11) (.t 13)⟩, ⟨(some 16), none, .load none (.t 15)⟩, ⟨(some 7), none, .move (.t 16)⟩])
    (.seq (.line [⟨(some 17), none, .move (.t 5)⟩, ⟨(some 18), none, .move (.t 7)⟩, ⟨(some 19), none, .conv (.int .u32) (.t 18)⟩, ⟨(some 20), none, .bin .xor none (.t 17) (.t 19)⟩, ⟨(some 5), none, .move (.t 20)⟩])
    (.seq (.line [⟨(some 21), none, .move (.c (.int .i64 0))⟩])
    (.block 2 (.loop (.seq (.line [⟨(some 22), none, .bin .lss none (.t 21) (.c (.int .i64 8))⟩])
      (.seq (.cond (.t 22) .skip (.exit 2))
      (.seq (.block 3 (.seq (.line [⟨(some 23), none, .move (.t 5)⟩, ⟨(some 24), none, .bin .and none (.t 23) (.c (.int .u32 1))⟩, ⟨(some 8), none, .move (.t 24)⟩])
       (.seq (.line [⟨(some 25), none, .move (.t 5)⟩, ⟨(some 26), none, .bin .shr none (.t 25) (.c (.int .u64 1))⟩, ⟨(some 5), none, .move (.t 26)⟩])
       (.seq (.line [⟨(some 27), none, .move (.t 8)⟩, ⟨(some 28), none, .bin .eql (some .int) (.t 27) (.c (.int .u32 1))⟩])
       (.cond (.t 28) (.line [⟨(some 29), none, .move (.t 5)⟩, ⟨(some 30), none, .bin .xor none (.t 29) (.c (.int .u32 2197175160))⟩, ⟨(some 5), none, .move (.t 30)⟩]) .skip)))))
      (.line [⟨(some 31), none, .bin .add none (.t 21) (.c (.int .i64 1))⟩, ⟨(some 21), none, .move (.t 31)⟩]))))))))))
   (.line [⟨(some 32), none, .bin .add none (.t 13) (.c (.int .i64 1))⟩, ⟨(some 13), none, .move (.t 32)⟩])))))))
 (.seq (.line [⟨(some 33), none, .move (.t 5)⟩, ⟨(some 34), none, .un .xor (.t 33)⟩, ⟨(some 4), none, .move (.t 34)⟩])
 .ret))))⟩
-- 62 slices.Grow[[]byte,byte]: NOT COVERED: region 2, slices.go:424: makeInterface
-- 62 slices.Grow[[]byte,byte]: NOT COVERED: region 2, slices.go:424: panic
/-- slices.Grow[[]byte,byte] -/
def g62 : GFun := ⟨27, [.tmp 4],
 (.seq (.line [⟨(some 4), none, .move (.c (.slice none 0 0))⟩])
 (.seq (.seq (.line [⟨(some 5), none, .move (.t 1)⟩, ⟨(some 6), none, .bin .lss none (.t 5) (.c (.int .i64 0))⟩])
 (.cond (.t 6) (.line [⟨(some 7), none, .bad⟩, ⟨none, none, .bad⟩]) .skip))
 (.seq (.seq (.line [⟨(some 8), none, .move (.t 1)⟩, ⟨(some 9), none, .move (.t 0)⟩, ⟨(some 10), none, .cap (.t 9)⟩, ⟨(some 11), none, .move (.t 0)⟩, ⟨(some 12), none, .len false (.t 11)⟩, ⟨(some 13), none, .bin .sub none (.t 10) (.t 12)⟩, ⟨(some 14), none, .bin .sub none (.t 8) (.t 13)⟩, ⟨(some 1), none, .move (.t 14)⟩])
 (.seq (.line [⟨(some 15), none, .move (.t 1)⟩, ⟨(some 16), none, .bin .gtr none (.t 15) (.c (.int .i64 0))⟩])
 (.cond (.t 16) (.line [⟨(some 17), none, .move (.t 0)⟩, ⟨(some 18), none, .move (.t 0)⟩, ⟨(some 19), none, .cap (.t 18)⟩, ⟨(some 20), none, .slice (.sl 1) (.t 17) none (some (.t 19)) none⟩, ⟨(some 21), none, .move (.t 1)⟩, ⟨(some 22), none, .appZ 1 1 257 [(.int .u8 0)] (.t 20) (.t 21)⟩, ⟨(some 23), none, .move (.t 0)⟩, ⟨(some 24), none, .len false (.t 23)⟩, ⟨(some 25), none, .slice (.sl 1) (.t 22) none (some (.t 24)) none⟩, ⟨(some 0), none, .move (.t 25)⟩]) .skip)))
 (.seq (.line [⟨(some 26), none, .move (.t 0)⟩, ⟨(some 4), none, .move (.t 26)⟩])
 .ret))))⟩
/-- captioner/captionerref54.Update -/
def g63 : GFun := ⟨35, [.tmp 4],
 (.seq (.line [⟨(some 4), none, .move (.c (.int .u32 0))⟩])
 (.seq (.line [⟨(some 9), none, .move (.t 0)⟩, ⟨(some 10), none, .un .xor (.t 9)⟩, ⟨(some 5), none, .move (.t 10)⟩])
 (.seq (.seq (.line [⟨(some 11), none, .move (.t 1)⟩, ⟨(some 12), none, .len false (.t 11)⟩, ⟨(some 13), none, .move (.c (.int .i64 0))⟩])
 (.block 0 (.loop (.seq (.line [⟨(some 14), none, .bin .lss none (.t 13) (.t 12)⟩])
   (.seq (.cond (.t 14) .skip (.exit 0))
   (.seq (.block 1 (.seq (.line [⟨(some 15), none, .ia none 1 (.t 11) (.t 13)⟩, ⟨(some 16), none, .load none (.t 15)⟩, ⟨(some 7), none, .move (.t 16)⟩])
    (.seq (.line [⟨(some 17), none, .move (.t 5)⟩, ⟨(some 18), none, .move (.t 7)⟩, ⟨(some 19), none, .conv (.int .u32) (.t 18)⟩, ⟨(some 20), none, .bin .xor none (.t 17) (.t 19)⟩, ⟨(some 5), none, .move (.t 20)⟩])
    (.seq (.line [⟨(some 21), none, .move (.c (.int .i64 0))⟩])
    (.block 2 (.loop (.seq (.line [⟨(some 22), none, .bin .lss none (.t 21) (.c (.int .i64 8))⟩])
      (.seq (.cond (.t 22) .skip (.exit 2))
      (.seq (.block 3 (.seq (.line [⟨(some 23), none, .move (.t 5)⟩, ⟨(some 24), none, .bin .and none (.t 23) (.c (.int .u32 1))⟩, ⟨(some 8), none, .move (.t 24)⟩])
       (.seq (.line [⟨(some 25), none, .move (.t 5)⟩, ⟨(some 26), none, .bin .shr none (.t 25) (.c (.int .u64 1))⟩, ⟨(some 5), none, .move (.t 26)⟩])
       (.seq (.line [⟨(some 27), none, .move (.t 8)⟩, ⟨(some 28), none, .bin .eql (some .int) (.t 27) (.c (.int .u32 1))⟩])
       (.cond (.t 28) (.line [⟨(some 29), none, .move (.t 5)⟩, ⟨(some 30), none, .bin .xor none (.t 29) (.c (.int .u32 2197175160))⟩, ⟨(some 5), none, .move (.t 30)⟩]) .skip)))))
      (.line [⟨(some 31), none, .bin .add none (.t 21) (.c (.int .i64 1))⟩, ⟨(some 21), none, .move (.t 31)⟩]))))))))))
   (.line [⟨(some 32), none, .bin .add none (.t 13) (.c (.int .i64 1))⟩, ⟨(some 13), none, .move (.t 32)⟩])))))))
 (.seq (.line [⟨(some 33), none, .move (.t 5)⟩, ⟨(some 34), none, .un .xor (.t 33)⟩, ⟨(some 4), none, .move (.t 34)⟩])
 .ret))))⟩
-- 64 (runtime.boundsError).Error: no text
-- 65 (runtime.boundsError).RuntimeError: no text
-- 66 (runtime.errorString).Error: no text
-- 67 (runtime.errorString).RuntimeError: no text
-- 68 (runtime.plainError).Error: no text
-- 69 (runtime.plainError).RuntimeError: no text
-- 70 (runtime.errorAddressString).Error: no text
-- 71 (runtime.errorAddressString).RuntimeError: no text
-- 72 (*runtime.TypeAssertionError).Error: no text
-- 73 (*runtime.TypeAssertionError).RuntimeError: no text
-- 74 (*runtime.PanicNilError).Error: no text
-- 75 (*runtime.PanicNilError).RuntimeError: no text
-- 76 (*internal/abi.Type).Align: no text
-- 77 (internal/runtime/maps.unhashableTypeError).Error: no text
-- 78 (internal/runtime/maps.unhashableTypeError).RuntimeError: no text
-- 79 (internal/abi.Kind).String: no text

def G : FuncId → Option GEnt
  | 2 => some (.fn g2)
  | 3 => some (.fn g3)
  | 4 => some (.fn g4)
  | 5 => some (.fn g5)
  | 6 => some (.fn g6)
  | 7 => some (.fn g7)
  | 8 => some (.fn g8)
  | 9 => some (.fn g9)
  | 10 => some (.pure g10)
  | 11 => some (.fn g11)
  | 12 => some (.fn g12)
  | 13 => some (.fn g13)
  | 14 => some (.fn g14)
  | 15 => some (.fn g15)
  | 16 => some (.fn g16)
  | 17 => some (.fn g17)
  | 18 => some (.fn g18)
  | 19 => some (.fn g19)
  | 20 => some (.fn g20)
  | 21 => some (.fn g21)
  | 22 => some (.fn g22)
  | 23 => some (.fn g23)
  | 24 => some (.fn g24)
  | 25 => some (.fn g25)
  | 26 => some (.fn g26)
  | 27 => some (.fn g27)
  | 28 => some (.fn g28)
  | 29 => some (.fn g29)
  | 30 => some (.fn g30)
  | 31 => some (.fn g31)
  | 32 => some (.fn g32)
  | 33 => some (.fn g33)
  | 34 => some (.fn g34)
  | 35 => some (.fn g35)
  | 36 => some (.fn g36)
  | 37 => some (.fn g37)
  | 38 => some (.fn g38)
  | 39 => some (.fn g39)
  | 40 => some (.fn g40)
  | 41 => some (.fn g41)
  | 42 => some (.fn g42)
  | 43 => some (.fn g43)
  | 44 => some (.fn g44)
  | 45 => some (.fn g45)
  | 46 => some (.fn g46)
  | 47 => some (.fn g47)
  | 48 => some (.fn g48)
  | 49 => some (.fn g49)
  | 50 => some (.fn g50)
  | 51 => some (.fn g51)
  | 52 => some (.fn g52)
  | 53 => some (.fn g53)
  | 54 => some (.fn g54)
  | 55 => some (.fn g55)
  | 56 => some (.fn g56)
  | 57 => some (.fn g57)
  | 58 => some (.fn g58)
  | 59 => some (.fn g59)
  | 60 => some (.fn g60)
  | 61 => some (.fn g61)
  | 62 => some (.fn g62)
  | 63 => some (.fn g63)
  | _ => none
theorem awake_run : (gbody (gcall G 30 11) 30 g10 [] ⟨.nil, 0, 0⟩).map (·.1) = some (.bool true) := by kernel_rfl
theorem awake_gev (H : GHeap) : gev G 10 [] H = some (.bool true, H) := by
  have h := awake_run
  simp only [Option.map_eq_some_iff] at h
  obtain ⟨⟨v, H'⟩, h1, h2⟩ := h
  simp only at h2
  subst h2
  refine gev_pure (m := 30) (H' := H') (g := g10) rfl rfl rfl ?_
  exact gbody_mono (fun f args H r h => gev_of_gcall h) (Nat.le_refl _) h1
end Go.Gh
