/-
  The ghost functions of this seat.
-/
import Derived.Test.YtbhgpiakeimmlaaDoorLb
import Derived.Test.YtbhgpiakeimmlaaDoorRbJ
import Derived.KernelRfl
namespace Go.Gh
open Go.RowKit
set_option maxRecDepth 100000


/-- captioner/captionerlaw36.RowbreakBreaks -/
def g4 : GFun := ⟨45, [.tmp 2],
 (.seq (.line [⟨(some 1), none, .box (.t 0)⟩, ⟨(some 2), none, .move (.c (.bool false))⟩])
 (.seq (.seq (.line [⟨(some 7), none, .call (.c (.func (.func 10) #[] #[])) []⟩, ⟨(some 8), none, .un .not (.t 7)⟩])
 (.cond (.t 8) (.seq (.line [⟨(some 2), none, .move (.c (.bool false))⟩])
  .ret) .skip))
 (.seq (.line [⟨(some 9), none, .load (some 15) (.t 1)⟩, ⟨(some 10), none, .call (.c (.func (.func 11) #[] #[])) [(.t 9)]⟩, ⟨none, none, .store (some 15) (.t 1) (.t 10)⟩])
 (.seq (.line [⟨(some 12), none, .load (some 15) (.t 1)⟩, ⟨(some 13), none, .call (.c (.func (.func 19) #[] #[])) [(.t 12)]⟩, ⟨(some 11), none, .move (.t 13)⟩, ⟨(some 14), none, .ext (.t 11) 0⟩, ⟨(some 15), none, .ext (.t 11) 1⟩, ⟨(some 3), none, .alloc 0 [(.slice none 0 0), (.int .i64 0), (.slice none 0 0)]⟩, ⟨none, none, .store (some 3) (.t 3) (.t 14)⟩, ⟨(some 4), none, .move (.t 15)⟩])
 (.seq (.line [⟨(some 17), none, .load (some 15) (.t 1)⟩, ⟨(some 18), none, .call (.c (.func (.func 20) #[] #[])) [(.t 17)]⟩, ⟨(some 16), none, .move (.t 18)⟩, ⟨(some 19), none, .ext (.t 16) 0⟩, ⟨(some 20), none, .ext (.t 16) 1⟩, ⟨(some 5), none, .alloc 0 [(.slice none 0 0), (.int .i64 0), (.slice none 0 0)]⟩, ⟨none, none, .store (some 3) (.t 5) (.t 19)⟩, ⟨(some 6), none, .move (.t 20)⟩])
 (.seq (.line [⟨(some 21), none, .move (.t 4)⟩, ⟨(some 22), none, .move (.t 6)⟩, ⟨(some 23), none, .bin .eql (some .int) (.t 21) (.t 22)⟩, ⟨(some 24), none, .move (.t 23)⟩, ⟨(some 25), (some (24, true)), .fa 1 (.t 3)⟩, ⟨(some 26), (some (24, true)), .load none (.t 25)⟩, ⟨(some 27), (some (24, true)), .fa 1 (.t 5)⟩, ⟨(some 28), (some (24, true)), .load none (.t 27)⟩, ⟨(some 29), (some (24, true)), .bin .eql (some .int) (.t 26) (.t 28)⟩, ⟨(some 30), none, .pick (.t 24) (.t 29) (.c (.bool false))⟩, ⟨(some 31), none, .move (.t 30)⟩, ⟨(some 32), (some (31, true)), .fa 0 (.t 3)⟩, ⟨(some 33), (some (31, true)), .load none (.t 32)⟩, ⟨(some 34), (some (31, true)), .fa 0 (.t 5)⟩, ⟨(some 35), (some (31, true)), .load none (.t 34)⟩, ⟨(some 36), (some (31, true)), .call (.c (.func (.func 21) #[] #[])) [(.t 33), (.t 35)]⟩, ⟨(some 37), none, .pick (.t 31) (.t 36) (.c (.bool false))⟩, ⟨(some 38), none, .move (.t 37)⟩, ⟨(some 39), (some (38, true)), .fa 2 (.t 3)⟩, ⟨(some 40), (some (38, true)), .load none (.t 39)⟩, ⟨(some 41), (some (38, true)), .fa 2 (.t 5)⟩, ⟨(some 42), (some (38, true)), .load none (.t 41)⟩, ⟨(some 43), (some (38, true)), .call (.c (.func (.func 22) #[] #[])) [(.t 40), (.t 42)]⟩, ⟨(some 44), none, .pick (.t 38) (.t 43) (.c (.bool false))⟩, ⟨(some 2), none, .move (.t 44)⟩])
 .ret))))))⟩

/-- captioner/captionerlaw36.awake -/
def g10 : GFun := ⟨62, [.tmp 0],
 (.seq (.line [⟨(some 0), none, .move (.c (.bool false))⟩])
 (.seq (.line [⟨(some 8), none, .build [(.string ⟨#[]⟩), (.int .i64 0)] [(0, 1, (.c (.string ⟨#[97]⟩))), (1, 1, (.c (.int .i64 0)))]⟩, ⟨(some 9), none, .build [(.string ⟨#[]⟩), (.int .i64 0)] [(0, 1, (.c (.string ⟨#[98, 98]⟩))), (1, 1, (.c (.int .i64 3)))]⟩, ⟨(some 10), none, .build [(.string ⟨#[]⟩), (.int .i64 0)] [(0, 1, (.c (.string ⟨#[99, 99]⟩))), (1, 1, (.c (.int .i64 5)))]⟩, ⟨(some 11), none, .buildSl 2 3 [(.string ⟨#[]⟩), (.int .i64 0)] [(0, 2, (.t 8)), (2, 2, (.t 9)), (4, 2, (.t 10))]⟩, ⟨(some 12), none, .build [(.int .i64 0), (.int .i64 0), (.int .i64 0), (.int .i64 0), (.int .i64 0), (.int .i64 0)] [(0, 1, (.c (.int .i64 4000))), (1, 1, (.c (.int .i64 1200))), (2, 1, (.c (.int .i64 600))), (3, 1, (.c (.int .i64 300))), (4, 1, (.c (.int .i64 100))), (5, 1, (.c (.int .i64 0)))]⟩, ⟨(some 13), none, .build [(.int .i64 0), (.int .i64 0), (.int .i64 0), (.int .i64 0), (.int .i64 0), (.int .i64 0), (.int .i64 0), (.int .i64 0), (.int .i64 0), (.int .i64 0), (.int .i64 0), (.int .i64 0)] [(0, 6, (.t 12)), (6, 1, (.c (.int .i64 20))), (7, 1, (.c (.int .i64 50)))]⟩, ⟨(some 14), none, .build [(.slice none 0 0), (.int .i64 0), (.int .i64 0), (.int .i64 0), (.int .i64 0), (.int .i64 0), (.int .i64 0), (.int .i64 0), (.int .i64 0), (.int .i64 0), (.int .i64 0), (.int .i64 0), (.int .i64 0), (.int .i64 0), (.int .i64 0)] [(0, 1, (.t 11)), (1, 1, (.c (.int .i64 5))), (2, 1, (.c (.int .i64 2))), (3, 12, (.t 13))]⟩, ⟨(some 1), none, .alloc 0 [(.slice none 0 0), (.int .i64 0), (.int .i64 0), (.int .i64 0), (.int .i64 0), (.int .i64 0), (.int .i64 0), (.int .i64 0), (.int .i64 0), (.int .i64 0), (.int .i64 0), (.int .i64 0), (.int .i64 0), (.int .i64 0), (.int .i64 0)]⟩, ⟨none, none, .store (some 15) (.t 1) (.t 14)⟩])
 (.seq (.line [⟨(some 16), none, .load (some 15) (.t 1)⟩, ⟨(some 17), none, .call (.c (.func (.func 19) #[] #[])) [(.t 16)]⟩, ⟨(some 15), none, .move (.t 17)⟩, ⟨(some 18), none, .ext (.t 15) 0⟩, ⟨(some 19), none, .ext (.t 15) 1⟩, ⟨(some 2), none, .alloc 0 [(.slice none 0 0), (.int .i64 0), (.slice none 0 0)]⟩, ⟨none, none, .store (some 3) (.t 2) (.t 18)⟩, ⟨(some 3), none, .move (.t 19)⟩])
 (.seq (.line [⟨(some 21), none, .load (some 15) (.t 1)⟩, ⟨(some 22), none, .buildSl 1 2 [(.int .i64 0)] [(0, 1, (.c (.int .i64 1))), (1, 1, (.c (.int .i64 3)))]⟩, ⟨(some 23), none, .call (.c (.func (.func 12) #[] #[])) [(.t 21), (.t 22)]⟩, ⟨(some 20), none, .move (.t 23)⟩, ⟨(some 24), none, .ext (.t 20) 0⟩, ⟨(some 25), none, .ext (.t 20) 1⟩, ⟨(some 4), none, .move (.t 24)⟩, ⟨(some 5), none, .move (.t 25)⟩])
 (.seq (.line [⟨(some 27), none, .load (some 15) (.t 1)⟩, ⟨(some 28), none, .buildSl 1 2 [(.int .i64 0)] [(0, 1, (.c (.int .i64 2))), (1, 1, (.c (.int .i64 3)))]⟩, ⟨(some 29), none, .call (.c (.func (.func 14) #[] #[])) [(.t 27), (.t 28)]⟩, ⟨(some 26), none, .move (.t 29)⟩, ⟨(some 30), none, .ext (.t 26) 0⟩, ⟨(some 31), none, .ext (.t 26) 1⟩, ⟨(some 6), none, .move (.t 30)⟩, ⟨(some 7), none, .move (.t 31)⟩])
 (.seq (.line [⟨(some 32), none, .move (.t 3)⟩, ⟨(some 33), none, .bin .eql (some .int) (.t 32) (.c (.int .i64 0))⟩, ⟨(some 34), none, .move (.t 33)⟩, ⟨(some 35), (some (34, true)), .move (.t 5)⟩, ⟨(some 36), (some (34, true)), .bin .eql (some .int) (.t 35) (.c (.int .i64 0))⟩, ⟨(some 37), none, .pick (.t 34) (.t 36) (.c (.bool false))⟩, ⟨(some 38), none, .move (.t 37)⟩, ⟨(some 39), (some (38, true)), .move (.t 7)⟩, ⟨(some 40), (some (38, true)), .bin .eql (some .int) (.t 39) (.c (.int .i64 0))⟩, ⟨(some 41), none, .pick (.t 38) (.t 40) (.c (.bool false))⟩, ⟨(some 42), none, .move (.t 41)⟩, ⟨(some 43), (some (42, true)), .fa 0 (.t 2)⟩, ⟨(some 44), (some (42, true)), .load none (.t 43)⟩, ⟨(some 45), (some (42, true)), .buildSl 1 2 [(.int .i64 0)] [(0, 1, (.c (.int .i64 2))), (1, 1, (.c (.int .i64 3)))]⟩, ⟨(some 46), (some (42, true)), .call (.c (.func (.func 21) #[] #[])) [(.t 44), (.t 45)]⟩, ⟨(some 47), none, .pick (.t 42) (.t 46) (.c (.bool false))⟩, ⟨(some 48), none, .move (.t 47)⟩, ⟨(some 49), (some (48, true)), .fa 1 (.t 2)⟩, ⟨(some 50), (some (48, true)), .load none (.t 49)⟩, ⟨(some 51), (some (48, true)), .bin .eql (some .int) (.t 50) (.c (.int .i64 440))⟩, ⟨(some 52), none, .pick (.t 48) (.t 51) (.c (.bool false))⟩, ⟨(some 53), none, .move (.t 52)⟩, ⟨(some 54), (some (53, true)), .move (.t 4)⟩, ⟨(some 55), (some (53, true)), .bin .eql (some .int) (.t 54) (.c (.int .i64 4180))⟩, ⟨(some 56), none, .pick (.t 53) (.t 55) (.c (.bool false))⟩, ⟨(some 57), none, .move (.t 56)⟩, ⟨(some 58), (some (57, true)), .move (.t 6)⟩, ⟨(some 59), (some (57, true)), .buildSl 1 2 [(.string ⟨#[]⟩)] [(0, 1, (.c (.string ⟨#[97, 32, 98, 98]⟩))), (1, 1, (.c (.string ⟨#[99, 99]⟩)))]⟩, ⟨(some 60), (some (57, true)), .call (.c (.func (.func 16) #[] #[])) [(.t 58), (.t 59)]⟩, ⟨(some 61), none, .pick (.t 57) (.t 60) (.c (.bool false))⟩, ⟨(some 0), none, .move (.t 61)⟩])
 .ret))))))⟩
/-- captioner/captionerlaw36.few -/
def g11 : GFun := ⟨12, [.cell 2 (some 15)],
 (.seq (.line [⟨(some 1), none, .box (.t 0)⟩, ⟨(some 2), none, .alloc 0 [(.slice none 0 0), (.int .i64 0), (.int .i64 0), (.int .i64 0), (.int .i64 0), (.int .i64 0), (.int .i64 0), (.int .i64 0), (.int .i64 0), (.int .i64 0), (.int .i64 0), (.int .i64 0), (.int .i64 0), (.int .i64 0), (.int .i64 0)]⟩])
 (.seq (.line [⟨(some 3), none, .fa 0 (.t 1)⟩, ⟨(some 4), none, .load none (.t 3)⟩, ⟨(some 5), none, .fa 0 (.t 1)⟩, ⟨(some 6), none, .load none (.t 5)⟩, ⟨(some 7), none, .len false (.t 6)⟩, ⟨(some 8), none, .min (.t 7) [(.c (.int .i64 16))]⟩, ⟨(some 9), none, .slice (.sl 2) (.t 4) none (some (.t 8)) none⟩, ⟨(some 10), none, .fa 0 (.t 1)⟩, ⟨none, none, .store none (.t 10) (.t 9)⟩])
 (.seq (.line [⟨(some 11), none, .load (some 15) (.t 1)⟩, ⟨none, none, .store (some 15) (.t 2) (.t 11)⟩])
 .ret)))⟩
/-- captioner/rowbreak.Cost -/
def g12 : GFun := ⟨18, [.tmp 4, .tmp 5],
 (.seq (.line [⟨(some 2), none, .box (.t 0)⟩, ⟨(some 4), none, .move (.c (.int .i64 0))⟩, ⟨(some 5), none, .move (.c (.int .i64 0))⟩])
 (.seq (.seq (.line [⟨(some 7), none, .load (some 15) (.t 2)⟩, ⟨(some 8), none, .call (.c (.func (.func 17) #[] #[])) [(.t 7)]⟩, ⟨(some 6), none, .move (.t 8)⟩])
 (.seq (.line [⟨(some 9), none, .move (.t 6)⟩, ⟨(some 10), none, .bin .neq (some .int) (.t 9) (.c (.int .i64 0))⟩])
 (.cond (.t 10) (.seq (.line [⟨(some 11), none, .move (.t 6)⟩, ⟨(some 4), none, .move (.c (.int .i64 0))⟩, ⟨(some 5), none, .move (.t 11)⟩])
  .ret) .skip)))
 (.seq (.line [⟨(some 12), none, .load (some 15) (.t 2)⟩, ⟨(some 13), none, .call (.c (.func (.func 27) #[] #[])) [(.t 12)]⟩, ⟨(some 14), none, .move (.t 1)⟩, ⟨(some 15), none, .call (.c (.func (.func 28) #[] #[])) [(.t 13), (.t 14)]⟩, ⟨(some 16), none, .ext (.t 15) 0⟩, ⟨(some 17), none, .ext (.t 15) 1⟩, ⟨(some 4), none, .move (.t 16)⟩, ⟨(some 5), none, .move (.t 17)⟩])
 .ret)))⟩

/-- captioner/rowbreak.Rows -/
def g14 : GFun := ⟨39, [.tmp 4, .tmp 5],
 (.seq (.line [⟨(some 2), none, .box (.t 0)⟩, ⟨(some 4), none, .move (.c (.slice none 0 0))⟩, ⟨(some 5), none, .move (.c (.int .i64 0))⟩])
 (.seq (.seq (.line [⟨(some 13), none, .load (some 15) (.t 2)⟩, ⟨(some 14), none, .move (.t 1)⟩, ⟨(some 15), none, .call (.c (.func (.func 12) #[] #[])) [(.t 13), (.t 14)]⟩, ⟨(some 12), none, .move (.t 15)⟩, ⟨(some 16), none, .ext (.t 12) 0⟩, ⟨(some 17), none, .ext (.t 12) 1⟩, ⟨(some 6), none, .move (.t 16)⟩, ⟨(some 7), none, .move (.t 17)⟩])
 (.seq (.line [⟨(some 18), none, .move (.t 7)⟩, ⟨(some 19), none, .bin .neq (some .int) (.t 18) (.c (.int .i64 0))⟩])
 (.cond (.t 19) (.seq (.line [⟨(some 20), none, .move (.t 7)⟩, ⟨(some 4), none, .move (.c (.slice none 0 0))⟩, ⟨(some 5), none, .move (.t 20)⟩])
  .ret) .skip)))
 (.seq (.line [⟨(some 8), none, .move (.c (.slice none 0 0))⟩])
 (.seq (.line [⟨(some 9), none, .move (.c (.int .i64 0))⟩])
 (.seq (.seq (.line [⟨(some 21), none, .move (.t 1)⟩, ⟨(some 22), none, .len false (.t 21)⟩, ⟨(some 23), none, .move (.c (.int .i64 0))⟩])
 (.block 0 (.loop (.seq (.line [⟨(some 24), none, .bin .lss none (.t 23) (.t 22)⟩])
   (.seq (.cond (.t 24) .skip (.exit 0))
   (.seq (.block 1 (.seq (.line [⟨(some 25), none, .ia none 1 (.t 21) (.t 23)⟩, ⟨(some 26), none, .load none (.t 25)⟩, ⟨(some 11), none, .move (.t 26)⟩])
    (.seq (.line [⟨(some 27), none, .move (.t 8)⟩, ⟨(some 28), none, .fa 0 (.t 2)⟩, ⟨(some 29), none, .load none (.t 28)⟩, ⟨(some 30), none, .move (.t 9)⟩, ⟨(some 31), none, .move (.t 11)⟩, ⟨(some 32), none, .slice (.sl 2) (.t 29) (some (.t 30)) (some (.t 31)) none⟩, ⟨(some 33), none, .call (.c (.func (.func 24) #[] #[])) [(.t 32)]⟩, ⟨(some 34), none, .buildSl 1 1 [(.string ⟨#[]⟩)] [(0, 1, (.t 33))]⟩, ⟨(some 35), none, .app 1 16 1 (.t 27) (.t 34)⟩, ⟨(some 8), none, .move (.t 35)⟩])
    (.line [⟨(some 36), none, .move (.t 11)⟩, ⟨(some 9), none, .move (.t 36)⟩]))))
   (.line [⟨(some 37), none, .bin .add none (.t 23) (.c (.int .i64 1))⟩, ⟨(some 23), none, .move (.t 37)⟩])))))))
 (.seq (.line [⟨(some 38), none, .move (.t 8)⟩, ⟨(some 4), none, .move (.t 38)⟩, ⟨(some 5), none, .move (.c (.int .i64 0))⟩])
 .ret))))))⟩

/-- slices.Equal[[]string,string] -/
def g16 : GFun := ⟨26, [.tmp 4],
 (.seq (.line [⟨(some 4), none, .move (.c (.bool false))⟩])
 (.seq (.seq (.line [⟨(some 6), none, .move (.t 0)⟩, ⟨(some 7), none, .len false (.t 6)⟩, ⟨(some 8), none, .move (.t 1)⟩, ⟨(some 9), none, .len false (.t 8)⟩, ⟨(some 10), none, .bin .neq (some .int) (.t 7) (.t 9)⟩])
 (.cond (.t 10) (.seq (.line [⟨(some 4), none, .move (.c (.bool false))⟩])
  .ret) .skip))
 (.seq (.seq (.line [⟨(some 11), none, .move (.t 0)⟩, ⟨(some 12), none, .len false (.t 11)⟩, ⟨(some 13), none, .move (.c (.int .i64 0))⟩])
 (.block 0 (.loop (.seq (.line [⟨(some 14), none, .bin .lss none (.t 13) (.t 12)⟩])
   (.seq (.cond (.t 14) .skip (.exit 0))
   (.seq (.block 1 (.seq (.line [⟨(some 15), none, .move (.t 13)⟩, ⟨(some 5), none, .move (.t 15)⟩])
    (.seq (.any [] [⟨(some 16), none, .move (.t 0)⟩, ⟨(some 17), none, .move (.t 5)⟩, ⟨(some 18), none, .ia none 1 (.t 16) (.t 17)⟩, ⟨(some 19), none, .load none (.t 18)⟩, ⟨(some 20), none, .move (.t 1)⟩, ⟨(some 21), none, .move (.t 5)⟩, ⟨(some 22), none, .ia none 1 (.t 20) (.t 21)⟩, ⟨(some 23), none, .load none (.t 22)⟩, ⟨(some 24), none, .bin .neq (some .str) (.t 19) (.t 23)⟩] [])
    (.cond (.t 24) (.seq (.line [⟨(some 4), none, .move (.c (.bool false))⟩])
     .ret) .skip))))
   (.line [⟨(some 25), none, .bin .add none (.t 13) (.c (.int .i64 1))⟩, ⟨(some 13), none, .move (.t 25)⟩])))))))
 (.seq (.line [⟨(some 4), none, .move (.c (.bool true))⟩])
 .ret))))⟩
/-- captioner/rowbreak.Check -/
def g17 : GFun := ⟨37, [.tmp 2],
 (.seq (.line [⟨(some 1), none, .box (.t 0)⟩, ⟨(some 2), none, .move (.c (.int .i64 0))⟩])
 (.seq (.seq (.line [⟨(some 4), none, .fa 0 (.t 1)⟩, ⟨(some 5), none, .load none (.t 4)⟩, ⟨(some 6), none, .call (.c (.func (.func 32) #[] #[])) [(.t 5)]⟩, ⟨(some 3), none, .move (.t 6)⟩])
 (.seq (.line [⟨(some 7), none, .move (.t 3)⟩, ⟨(some 8), none, .bin .neq (some .int) (.t 7) (.c (.int .i64 0))⟩])
 (.cond (.t 8) (.seq (.line [⟨(some 9), none, .move (.t 3)⟩, ⟨(some 2), none, .move (.t 9)⟩])
  .ret) .skip)))
 (.seq (.block 0 (.seq (.line [⟨(some 11), none, .fa 0 (.t 1)⟩, ⟨(some 12), none, .load none (.t 11)⟩, ⟨(some 13), none, .len false (.t 12)⟩, ⟨(some 14), none, .bin .eql (some .int) (.t 13) (.c (.int .i64 0))⟩, ⟨(some 10), none, .move (.t 14)⟩])
  (.cond (.t 10) (.seq (.line [⟨(some 2), none, .move (.c (.int .i64 6))⟩])
   .ret) (.seq (.line [⟨(some 16), none, .fa 1 (.t 1)⟩, ⟨(some 17), none, .load none (.t 16)⟩, ⟨(some 18), none, .bin .lss none (.t 17) (.c (.int .i64 1))⟩, ⟨(some 19), none, .move (.t 18)⟩, ⟨(some 20), (some (19, false)), .fa 1 (.t 1)⟩, ⟨(some 21), (some (19, false)), .load none (.t 20)⟩, ⟨(some 22), (some (19, false)), .bin .gtr none (.t 21) (.c (.int .i64 32))⟩, ⟨(some 23), none, .pick (.t 19) (.c (.bool true)) (.t 22)⟩, ⟨(some 24), none, .move (.t 23)⟩, ⟨(some 25), (some (24, false)), .fa 2 (.t 1)⟩, ⟨(some 26), (some (24, false)), .load none (.t 25)⟩, ⟨(some 27), (some (24, false)), .bin .lss none (.t 26) (.c (.int .i64 1))⟩, ⟨(some 28), none, .pick (.t 24) (.c (.bool true)) (.t 27)⟩, ⟨(some 29), none, .move (.t 28)⟩, ⟨(some 30), (some (29, false)), .fa 2 (.t 1)⟩, ⟨(some 31), (some (29, false)), .load none (.t 30)⟩, ⟨(some 32), (some (29, false)), .bin .gtr none (.t 31) (.c (.int .i64 4))⟩, ⟨(some 33), none, .pick (.t 29) (.c (.bool true)) (.t 32)⟩, ⟨(some 15), none, .move (.t 33)⟩])
   (.cond (.t 15) (.seq (.line [⟨(some 2), none, .move (.c (.int .i64 2))⟩])
    .ret) .skip)))))
 (.seq (.line [⟨(some 34), none, .fa 3 (.t 1)⟩, ⟨(some 35), none, .load (some 12) (.t 34)⟩, ⟨(some 36), none, .call (.c (.func (.func 33) #[] #[])) [(.t 35)]⟩, ⟨(some 2), none, .move (.t 36)⟩])
 .ret))))⟩
/-- captioner/captionerref36.Check -/
def g18 : GFun := ⟨37, [.tmp 2],
 (.seq (.line [⟨(some 1), none, .box (.t 0)⟩, ⟨(some 2), none, .move (.c (.int .i64 0))⟩])
 (.seq (.seq (.line [⟨(some 4), none, .fa 0 (.t 1)⟩, ⟨(some 5), none, .load none (.t 4)⟩, ⟨(some 6), none, .call (.c (.func (.func 34) #[] #[])) [(.t 5)]⟩, ⟨(some 3), none, .move (.t 6)⟩])
 (.seq (.line [⟨(some 7), none, .move (.t 3)⟩, ⟨(some 8), none, .bin .neq (some .int) (.t 7) (.c (.int .i64 0))⟩])
 (.cond (.t 8) (.seq (.line [⟨(some 9), none, .move (.t 3)⟩, ⟨(some 2), none, .move (.t 9)⟩])
  .ret) .skip)))
 (.seq (.block 0 (.seq (.line [⟨(some 11), none, .fa 0 (.t 1)⟩, ⟨(some 12), none, .load none (.t 11)⟩, ⟨(some 13), none, .len false (.t 12)⟩, ⟨(some 14), none, .bin .eql (some .int) (.t 13) (.c (.int .i64 0))⟩, ⟨(some 10), none, .move (.t 14)⟩])
  (.cond (.t 10) (.seq (.line [⟨(some 2), none, .move (.c (.int .i64 6))⟩])
   .ret) (.seq (.line [⟨(some 16), none, .fa 1 (.t 1)⟩, ⟨(some 17), none, .load none (.t 16)⟩, ⟨(some 18), none, .bin .lss none (.t 17) (.c (.int .i64 1))⟩, ⟨(some 19), none, .move (.t 18)⟩, ⟨(some 20), (some (19, false)), .fa 1 (.t 1)⟩, ⟨(some 21), (some (19, false)), .load none (.t 20)⟩, ⟨(some 22), (some (19, false)), .bin .gtr none (.t 21) (.c (.int .i64 32))⟩, ⟨(some 23), none, .pick (.t 19) (.c (.bool true)) (.t 22)⟩, ⟨(some 24), none, .move (.t 23)⟩, ⟨(some 25), (some (24, false)), .fa 2 (.t 1)⟩, ⟨(some 26), (some (24, false)), .load none (.t 25)⟩, ⟨(some 27), (some (24, false)), .bin .lss none (.t 26) (.c (.int .i64 1))⟩, ⟨(some 28), none, .pick (.t 24) (.c (.bool true)) (.t 27)⟩, ⟨(some 29), none, .move (.t 28)⟩, ⟨(some 30), (some (29, false)), .fa 2 (.t 1)⟩, ⟨(some 31), (some (29, false)), .load none (.t 30)⟩, ⟨(some 32), (some (29, false)), .bin .gtr none (.t 31) (.c (.int .i64 4))⟩, ⟨(some 33), none, .pick (.t 29) (.c (.bool true)) (.t 32)⟩, ⟨(some 15), none, .move (.t 33)⟩])
   (.cond (.t 15) (.seq (.line [⟨(some 2), none, .move (.c (.int .i64 2))⟩])
    .ret) .skip)))))
 (.seq (.line [⟨(some 34), none, .fa 3 (.t 1)⟩, ⟨(some 35), none, .load (some 12) (.t 34)⟩, ⟨(some 36), none, .call (.c (.func (.func 35) #[] #[])) [(.t 35)]⟩, ⟨(some 2), none, .move (.t 36)⟩])
 .ret))))⟩
/-- captioner/rowbreak.Break -/
def g19 : GFun := ⟨152, [.cell 2 (some 3), .tmp 3],
 (.seq (.line [⟨(some 1), none, .box (.t 0)⟩, ⟨(some 2), none, .alloc 0 [(.slice none 0 0), (.int .i64 0), (.slice none 0 0)]⟩, ⟨(some 3), none, .move (.c (.int .i64 0))⟩])
 (.seq (.seq (.line [⟨(some 17), none, .load (some 15) (.t 1)⟩, ⟨(some 18), none, .call (.c (.func (.func 17) #[] #[])) [(.t 17)]⟩, ⟨(some 4), none, .move (.t 18)⟩])
 (.seq (.line [⟨(some 19), none, .move (.t 4)⟩, ⟨(some 20), none, .bin .neq (some .int) (.t 19) (.c (.int .i64 0))⟩])
 (.cond (.t 20) (.seq (.line [⟨(some 21), none, .build [(.slice none 0 0), (.int .i64 0), (.slice none 0 0)] []⟩, ⟨(some 22), none, .move (.t 4)⟩, ⟨none, none, .store (some 3) (.t 2) (.t 21)⟩, ⟨(some 3), none, .move (.t 22)⟩])
  .ret) .skip)))
 (.seq (.line [⟨(some 23), none, .load (some 15) (.t 1)⟩, ⟨(some 24), none, .call (.c (.func (.func 27) #[] #[])) [(.t 23)]⟩, ⟨(some 5), none, .move (.t 24)⟩])
 (.seq (.line [⟨(some 25), none, .move (.t 5)⟩, ⟨(some 26), none, .call (.c (.func (.func 36) #[] #[])) [(.t 25)]⟩, ⟨(some 6), none, .move (.t 26)⟩])
 (.seq (.line [⟨(some 27), none, .build [(.slice none 0 0), (.int .i64 0), (.slice none 0 0)] [(1, 1, (.c (.int .i64 (-1))))]⟩, ⟨(some 7), none, .alloc 0 [(.slice none 0 0), (.int .i64 0), (.slice none 0 0)]⟩, ⟨none, none, .store (some 3) (.t 7) (.t 27)⟩])
 (.seq (.seq (.line [⟨(some 28), none, .move (.t 6)⟩, ⟨(some 29), none, .len false (.t 28)⟩, ⟨(some 30), none, .move (.c (.int .i64 0))⟩])
 (.block 0 (.loop (.seq (.line [⟨(some 31), none, .bin .lss none (.t 30) (.t 29)⟩])
   (.seq (.cond (.t 31) .skip (.exit 0))
   (.seq (.block 1 (.seq (.line [⟨(some 32), none, .move (.t 30)⟩, ⟨(some 8), none, .move (.t 32)⟩])
    (.seq (.line [⟨(some 33), none, .move (.t 6)⟩, ⟨(some 34), none, .ia none 1 (.t 33) (.c (.int .i64 0))⟩, ⟨(some 35), none, .load none (.t 34)⟩, ⟨(some 36), none, .len false (.t 35)⟩, ⟨(some 37), none, .move (.c (.int .i64 0))⟩])
    (.block 2 (.loop (.seq (.line [⟨(some 38), none, .bin .lss none (.t 37) (.t 36)⟩])
      (.seq (.cond (.t 38) .skip (.exit 2))
      (.seq (.block 3 (.seq (.line [⟨(some 39), none, .move (.t 37)⟩, ⟨(some 9), none, .move (.t 39)⟩])
       (.seq (.line [⟨(some 10), none, .move (.c (.int .i64 (-1)))⟩])
       (.seq (.seq (.line [⟨(some 40), none, .move (.t 6)⟩, ⟨(some 41), none, .fa 2 (.t 1)⟩, ⟨(some 42), none, .load none (.t 41)⟩, ⟨(some 43), none, .move (.t 8)⟩, ⟨(some 44), none, .bin .sub none (.t 42) (.t 43)⟩, ⟨(some 45), none, .bin .add none (.t 44) (.c (.int .i64 1))⟩, ⟨(some 46), none, .slice (.sl 1) (.t 40) none (some (.t 45)) none⟩, ⟨(some 47), none, .len false (.t 46)⟩, ⟨(some 48), none, .move (.c (.int .i64 0))⟩])
       (.block 4 (.loop (.seq (.line [⟨(some 49), none, .bin .lss none (.t 48) (.t 47)⟩])
         (.seq (.cond (.t 49) .skip (.exit 4))
         (.seq (.block 5 (.seq (.line [⟨(some 50), none, .ia none 1 (.t 46) (.t 48)⟩, ⟨(some 51), none, .load none (.t 50)⟩, ⟨(some 12), none, .move (.t 51)⟩])
          (.seq (.line [⟨(some 52), none, .move (.t 12)⟩, ⟨(some 53), none, .move (.t 9)⟩, ⟨(some 54), none, .ia none 1 (.t 52) (.t 53)⟩, ⟨(some 55), none, .load none (.t 54)⟩, ⟨(some 13), none, .move (.t 55)⟩])
          (.seq (.line [⟨(some 56), none, .move (.t 13)⟩, ⟨(some 57), none, .bin .neq (some .int) (.t 56) (.c (.int .i64 (-1)))⟩, ⟨(some 58), none, .move (.t 57)⟩, ⟨(some 59), (some (58, true)), .move (.t 10)⟩, ⟨(some 60), (some (58, true)), .bin .eql (some .int) (.t 59) (.c (.int .i64 (-1)))⟩, ⟨(some 61), (some (58, true)), .move (.t 60)⟩, ⟨(some 62), (some (61, false)), .move (.t 13)⟩, ⟨(some 63), (some (61, false)), .move (.t 10)⟩, ⟨(some 64), (some (61, false)), .bin .lss none (.t 62) (.t 63)⟩, ⟨(some 65), (some (58, true)), .pick (.t 61) (.c (.bool true)) (.t 64)⟩, ⟨(some 66), none, .pick (.t 58) (.t 65) (.c (.bool false))⟩])
          (.cond (.t 66) (.line [⟨(some 67), none, .move (.t 13)⟩, ⟨(some 10), none, .move (.t 67)⟩]) .skip)))))
         (.line [⟨(some 68), none, .bin .add none (.t 48) (.c (.int .i64 1))⟩, ⟨(some 48), none, .move (.t 68)⟩])))))))
       (.line [⟨(some 69), none, .fa 2 (.t 7)⟩, ⟨(some 70), none, .load none (.t 69)⟩, ⟨(some 71), none, .move (.t 10)⟩, ⟨(some 72), none, .buildSl 1 1 [(.int .i64 0)] [(0, 1, (.t 71))]⟩, ⟨(some 73), none, .app 1 8 1 (.t 70) (.t 72)⟩, ⟨(some 74), none, .fa 2 (.t 7)⟩, ⟨none, none, .store none (.t 74) (.t 73)⟩])))))
      (.line [⟨(some 75), none, .bin .add none (.t 37) (.c (.int .i64 1))⟩, ⟨(some 37), none, .move (.t 75)⟩])))))))))
   (.line [⟨(some 76), none, .bin .add none (.t 30) (.c (.int .i64 1))⟩, ⟨(some 30), none, .move (.t 76)⟩])))))))
 (.seq (.seq (.line [⟨(some 77), none, .fa 2 (.t 7)⟩, ⟨(some 78), none, .load none (.t 77)⟩, ⟨(some 79), none, .ia none 1 (.t 78) (.c (.int .i64 0))⟩, ⟨(some 80), none, .load none (.t 79)⟩, ⟨(some 81), none, .fa 1 (.t 7)⟩, ⟨none, none, .store none (.t 81) (.t 80)⟩])
 (.seq (.line [⟨(some 82), none, .fa 1 (.t 7)⟩, ⟨(some 83), none, .load none (.t 82)⟩, ⟨(some 84), none, .bin .eql (some .int) (.t 83) (.c (.int .i64 (-1)))⟩])
 (.cond (.t 84) (.seq (.line [⟨(some 85), none, .build [(.slice none 0 0), (.int .i64 0), (.slice none 0 0)] []⟩, ⟨none, none, .store (some 3) (.t 2) (.t 85)⟩, ⟨(some 3), none, .move (.c (.int .i64 11))⟩])
  .ret) .skip)))
 (.seq (.line [⟨(some 14), none, .move (.c (.int .i64 0))⟩])
 (.seq (.block 6 (.loop (.seq (.seq (.any [] [⟨(some 86), none, .move (.t 6)⟩, ⟨(some 87), none, .move (.t 14)⟩, ⟨(some 88), none, .ia none 1 (.t 86) (.t 87)⟩, ⟨(some 89), none, .load none (.t 88)⟩, ⟨(some 90), none, .ia none 1 (.t 89) (.c (.int .i64 0))⟩, ⟨(some 91), none, .load none (.t 90)⟩, ⟨(some 92), none, .fa 1 (.t 7)⟩, ⟨(some 93), none, .load none (.t 92)⟩, ⟨(some 94), none, .bin .neq (some .int) (.t 91) (.t 93)⟩] [])
   (.cond (.t 94) .skip (.exit 6)))
   (.block 7 (.line [⟨(some 95), none, .move (.t 14)⟩, ⟨(some 96), none, .bin .add none (.t 95) (.c (.int .i64 1))⟩, ⟨(some 14), none, .move (.t 96)⟩])))))
 (.seq (.seq (.line [⟨(some 15), none, .move (.c (.int .i64 0))⟩])
 (.block 8 (.loop (.seq (.seq (.line [⟨(some 97), none, .move (.t 14)⟩, ⟨(some 98), none, .bin .gtr none (.t 97) (.c (.int .i64 0))⟩])
   (.cond (.t 98) .skip (.exit 8)))
   (.seq (.block 9 (.seq (.line [⟨(some 101), none, .move (.t 15)⟩, ⟨(some 102), none, .bin .add none (.t 101) (.c (.int .i64 1))⟩, ⟨(some 16), none, .move (.t 102)⟩])
    (.seq (.block 10 (.loop (.seq (.seq (.any [] [⟨(some 103), none, .move (.t 5)⟩, ⟨(some 104), none, .move (.t 15)⟩, ⟨(some 105), none, .move (.t 16)⟩, ⟨(some 106), none, .call (.c (.func (.func 37) #[] #[])) [(.t 103), (.t 104), (.t 105)]⟩, ⟨(some 107), none, .un .not (.t 106)⟩, ⟨(some 108), none, .move (.t 107)⟩, ⟨(some 109), (some (108, false)), .move (.t 6)⟩, ⟨(some 110), (some (108, false)), .move (.t 14)⟩, ⟨(some 111), (some (108, false)), .bin .sub none (.t 110) (.c (.int .i64 1))⟩, ⟨(some 112), (some (108, false)), .ia none 1 (.t 109) (.t 111)⟩, ⟨(some 113), (some (108, false)), .load none (.t 112)⟩, ⟨(some 114), (some (108, false)), .move (.t 16)⟩, ⟨(some 115), (some (108, false)), .ia none 1 (.t 113) (.t 114)⟩, ⟨(some 116), (some (108, false)), .load none (.t 115)⟩, ⟨(some 117), (some (108, false)), .bin .eql (some .int) (.t 116) (.c (.int .i64 (-1)))⟩, ⟨(some 118), none, .pick (.t 108) (.c (.bool true)) (.t 117)⟩, ⟨(some 119), none, .move (.t 118)⟩, ⟨(some 120), (some (119, false)), .move (.t 5)⟩, ⟨(some 121), (some (119, false)), .move (.t 15)⟩, ⟨(some 122), (some (119, false)), .move (.t 16)⟩, ⟨(some 123), (some (119, false)), .call (.c (.func (.func 38) #[] #[])) [(.t 120), (.t 121), (.t 122)]⟩, ⟨(some 124), (some (119, false)), .move (.t 6)⟩, ⟨(some 125), (some (119, false)), .move (.t 14)⟩, ⟨(some 126), (some (119, false)), .bin .sub none (.t 125) (.c (.int .i64 1))⟩, ⟨(some 127), (some (119, false)), .ia none 1 (.t 124) (.t 126)⟩, ⟨(some 128), (some (119, false)), .load none (.t 127)⟩, ⟨(some 129), (some (119, false)), .move (.t 16)⟩, ⟨(some 130), (some (119, false)), .ia none 1 (.t 128) (.t 129)⟩, ⟨(some 131), (some (119, false)), .load none (.t 130)⟩, ⟨(some 132), (some (119, false)), .bin .add none (.t 123) (.t 131)⟩, ⟨(some 133), (some (119, false)), .move (.t 6)⟩, ⟨(some 134), (some (119, false)), .move (.t 14)⟩, ⟨(some 135), (some (119, false)), .ia none 1 (.t 133) (.t 134)⟩, ⟨(some 136), (some (119, false)), .load none (.t 135)⟩, ⟨(some 137), (some (119, false)), .move (.t 15)⟩, ⟨(some 138), (some (119, false)), .ia none 1 (.t 136) (.t 137)⟩, ⟨(some 139), (some (119, false)), .load none (.t 138)⟩, ⟨(some 140), (some (119, false)), .bin .neq (some .int) (.t 132) (.t 139)⟩, ⟨(some 141), none, .pick (.t 119) (.c (.bool true)) (.t 140)⟩] [])
      (.cond (.t 141) .skip (.exit 10)))
      (.block 11 (.line [⟨(some 142), none, .move (.t 16)⟩, ⟨(some 143), none, .bin .add none (.t 142) (.c (.int .i64 1))⟩, ⟨(some 16), none, .move (.t 143)⟩])))))
    (.seq (.line [⟨(some 144), none, .fa 0 (.t 7)⟩, ⟨(some 145), none, .load none (.t 144)⟩, ⟨(some 146), none, .move (.t 16)⟩, ⟨(some 147), none, .buildSl 1 1 [(.int .i64 0)] [(0, 1, (.t 146))]⟩, ⟨(some 148), none, .app 1 8 1 (.t 145) (.t 147)⟩, ⟨(some 149), none, .fa 0 (.t 7)⟩, ⟨none, none, .store none (.t 149) (.t 148)⟩])
    (.line [⟨(some 150), none, .move (.t 16)⟩, ⟨(some 15), none, .move (.t 150)⟩])))))
   (.line [⟨(some 99), none, .move (.t 14)⟩, ⟨(some 100), none, .bin .sub none (.t 99) (.c (.int .i64 1))⟩, ⟨(some 14), none, .move (.t 100)⟩]))))))
 (.seq (.line [⟨(some 151), none, .load (some 3) (.t 7)⟩, ⟨none, none, .store (some 3) (.t 2) (.t 151)⟩, ⟨(some 3), none, .move (.c (.int .i64 0))⟩])
 .ret)))))))))))⟩
/-- captioner/captionerref36.Break -/
def g20 : GFun := ⟨111, [.cell 2 (some 3), .tmp 3],
 (.seq (.line [⟨(some 1), none, .box (.t 0)⟩, ⟨(some 2), none, .alloc 0 [(.slice none 0 0), (.int .i64 0), (.slice none 0 0)]⟩, ⟨(some 3), none, .move (.c (.int .i64 0))⟩])
 (.seq (.seq (.line [⟨(some 16), none, .load (some 15) (.t 1)⟩, ⟨(some 17), none, .call (.c (.func (.func 18) #[] #[])) [(.t 16)]⟩, ⟨(some 4), none, .move (.t 17)⟩])
 (.seq (.line [⟨(some 18), none, .move (.t 4)⟩, ⟨(some 19), none, .bin .neq (some .int) (.t 18) (.c (.int .i64 0))⟩])
 (.cond (.t 19) (.seq (.line [⟨(some 20), none, .build [(.slice none 0 0), (.int .i64 0), (.slice none 0 0)] []⟩, ⟨(some 21), none, .move (.t 4)⟩, ⟨none, none, .store (some 3) (.t 2) (.t 20)⟩, ⟨(some 3), none, .move (.t 21)⟩])
  .ret) .skip)))
 (.seq (.line [⟨(some 22), none, .fa 0 (.t 1)⟩, ⟨(some 23), none, .load none (.t 22)⟩, ⟨(some 24), none, .len false (.t 23)⟩, ⟨(some 5), none, .move (.t 24)⟩])
 (.seq (.line [⟨(some 25), none, .load (some 15) (.t 1)⟩, ⟨(some 26), none, .call (.c (.func (.func 39) #[] #[])) [(.t 25)]⟩, ⟨(some 6), none, .move (.t 26)⟩])
 (.seq (.seq (.line [⟨(some 27), none, .move (.t 6)⟩, ⟨(some 28), none, .ia none 1 (.t 27) (.c (.int .i64 0))⟩, ⟨(some 29), none, .load none (.t 28)⟩, ⟨(some 30), none, .bin .lss none (.t 29) (.c (.int .i64 0))⟩])
 (.cond (.t 30) (.seq (.line [⟨(some 31), none, .build [(.slice none 0 0), (.int .i64 0), (.slice none 0 0)] []⟩, ⟨none, none, .store (some 3) (.t 2) (.t 31)⟩, ⟨(some 3), none, .move (.c (.int .i64 11))⟩])
  .ret) .skip))
 (.seq (.line [⟨(some 7), none, .move (.c (.int .i64 1))⟩])
 (.seq (.block 0 (.loop (.block 1 (.seq (.line [⟨(some 32), none, .load (some 15) (.t 1)⟩, ⟨(some 8), none, .alloc 0 [(.slice none 0 0), (.int .i64 0), (.int .i64 0), (.int .i64 0), (.int .i64 0), (.int .i64 0), (.int .i64 0), (.int .i64 0), (.int .i64 0), (.int .i64 0), (.int .i64 0), (.int .i64 0), (.int .i64 0), (.int .i64 0), (.int .i64 0)]⟩, ⟨none, none, .store (some 15) (.t 8) (.t 32)⟩])
    (.seq (.line [⟨(some 33), none, .move (.t 7)⟩, ⟨(some 34), none, .fa 2 (.t 8)⟩, ⟨none, none, .store none (.t 34) (.t 33)⟩])
    (.seq (.seq (.any [] [⟨(some 35), none, .load (some 15) (.t 8)⟩, ⟨(some 36), none, .call (.c (.func (.func 39) #[] #[])) [(.t 35)]⟩, ⟨(some 37), none, .ia none 1 (.t 36) (.c (.int .i64 0))⟩, ⟨(some 38), none, .load none (.t 37)⟩, ⟨(some 39), none, .move (.t 6)⟩, ⟨(some 40), none, .ia none 1 (.t 39) (.c (.int .i64 0))⟩, ⟨(some 41), none, .load none (.t 40)⟩, ⟨(some 42), none, .bin .eql (some .int) (.t 38) (.t 41)⟩] [])
    (.cond (.t 42) (.exit 0) .skip))
    (.line [⟨(some 43), none, .move (.t 7)⟩, ⟨(some 44), none, .bin .add none (.t 43) (.c (.int .i64 1))⟩, ⟨(some 7), none, .move (.t 44)⟩])))))))
 (.seq (.line [⟨(some 45), none, .load (some 15) (.t 1)⟩, ⟨(some 9), none, .alloc 0 [(.slice none 0 0), (.int .i64 0), (.int .i64 0), (.int .i64 0), (.int .i64 0), (.int .i64 0), (.int .i64 0), (.int .i64 0), (.int .i64 0), (.int .i64 0), (.int .i64 0), (.int .i64 0), (.int .i64 0), (.int .i64 0), (.int .i64 0)]⟩, ⟨none, none, .store (some 15) (.t 9) (.t 45)⟩])
 (.seq (.line [⟨(some 46), none, .move (.t 7)⟩, ⟨(some 47), none, .fa 2 (.t 9)⟩, ⟨none, none, .store none (.t 47) (.t 46)⟩])
 (.seq (.line [⟨(some 48), none, .load (some 15) (.t 9)⟩, ⟨(some 49), none, .call (.c (.func (.func 39) #[] #[])) [(.t 48)]⟩, ⟨(some 10), none, .move (.t 49)⟩])
 (.seq (.line [⟨(some 50), none, .move (.t 6)⟩, ⟨(some 51), none, .ia none 1 (.t 50) (.c (.int .i64 0))⟩, ⟨(some 52), none, .load none (.t 51)⟩, ⟨(some 53), none, .move (.t 6)⟩, ⟨(some 54), none, .build [(.slice none 0 0), (.int .i64 0), (.slice none 0 0)] [(1, 1, (.t 52)), (2, 1, (.t 53))]⟩, ⟨(some 11), none, .alloc 0 [(.slice none 0 0), (.int .i64 0), (.slice none 0 0)]⟩, ⟨none, none, .store (some 3) (.t 11) (.t 54)⟩])
 (.seq (.line [⟨(some 12), none, .move (.c (.int .i64 0))⟩])
 (.seq (.seq (.line [⟨(some 13), none, .move (.c (.int .i64 0))⟩])
 (.block 2 (.loop (.seq (.seq (.line [⟨(some 55), none, .move (.t 12)⟩, ⟨(some 56), none, .move (.t 5)⟩, ⟨(some 57), none, .bin .lss none (.t 55) (.t 56)⟩])
   (.cond (.t 57) .skip (.exit 2)))
   (.seq (.block 3 (.seq (.line [⟨(some 60), none, .move (.t 12)⟩, ⟨(some 61), none, .bin .add none (.t 60) (.c (.int .i64 1))⟩, ⟨(some 14), none, .move (.t 61)⟩])
    (.block 4 (.loop (.seq (.seq (.line [⟨(some 62), none, .move (.t 14)⟩, ⟨(some 63), none, .move (.t 5)⟩, ⟨(some 64), none, .bin .leq none (.t 62) (.t 63)⟩])
      (.cond (.t 64) .skip (.exit 4)))
      (.seq (.block 5 (.seq (.line [⟨(some 67), none, .move (.t 10)⟩, ⟨(some 68), none, .move (.t 13)⟩, ⟨(some 69), none, .bin .add none (.t 68) (.c (.int .i64 1))⟩, ⟨(some 70), none, .move (.t 5)⟩, ⟨(some 71), none, .bin .add none (.t 70) (.c (.int .i64 1))⟩, ⟨(some 72), none, .bin .mul none (.t 69) (.t 71)⟩, ⟨(some 73), none, .move (.t 14)⟩, ⟨(some 74), none, .bin .add none (.t 72) (.t 73)⟩, ⟨(some 75), none, .ia none 1 (.t 67) (.t 74)⟩, ⟨(some 76), none, .load none (.t 75)⟩, ⟨(some 15), none, .move (.t 76)⟩])
       (.seq (.any [] [⟨(some 77), none, .load (some 15) (.t 1)⟩, ⟨(some 78), none, .move (.t 12)⟩, ⟨(some 79), none, .move (.t 14)⟩, ⟨(some 80), none, .call (.c (.func (.func 29) #[] #[])) [(.t 77), (.t 78), (.t 79)]⟩, ⟨(some 81), none, .move (.t 80)⟩, ⟨(some 82), (some (81, true)), .move (.t 15)⟩, ⟨(some 83), (some (81, true)), .bin .geq none (.t 82) (.c (.int .i64 0))⟩, ⟨(some 84), none, .pick (.t 81) (.t 83) (.c (.bool false))⟩, ⟨(some 85), none, .move (.t 84)⟩, ⟨(some 86), (some (85, true)), .load (some 15) (.t 1)⟩, ⟨(some 87), (some (85, true)), .move (.t 12)⟩, ⟨(some 88), (some (85, true)), .move (.t 14)⟩, ⟨(some 89), (some (85, true)), .call (.c (.func (.func 30) #[] #[])) [(.t 86), (.t 87), (.t 88)]⟩, ⟨(some 90), (some (85, true)), .move (.t 15)⟩, ⟨(some 91), (some (85, true)), .bin .add none (.t 89) (.t 90)⟩, ⟨(some 92), (some (85, true)), .move (.t 10)⟩, ⟨(some 93), (some (85, true)), .move (.t 13)⟩, ⟨(some 94), (some (85, true)), .move (.t 5)⟩, ⟨(some 95), (some (85, true)), .bin .add none (.t 94) (.c (.int .i64 1))⟩, ⟨(some 96), (some (85, true)), .bin .mul none (.t 93) (.t 95)⟩, ⟨(some 97), (some (85, true)), .move (.t 12)⟩, ⟨(some 98), (some (85, true)), .bin .add none (.t 96) (.t 97)⟩, ⟨(some 99), (some (85, true)), .ia none 1 (.t 92) (.t 98)⟩, ⟨(some 100), (some (85, true)), .load none (.t 99)⟩, ⟨(some 101), (some (85, true)), .bin .eql (some .int) (.t 91) (.t 100)⟩, ⟨(some 102), none, .pick (.t 85) (.t 101) (.c (.bool false))⟩] [])
       (.cond (.t 102) (.seq (.line [⟨(some 103), none, .fa 0 (.t 11)⟩, ⟨(some 104), none, .load none (.t 103)⟩, ⟨(some 105), none, .move (.t 14)⟩, ⟨(some 106), none, .buildSl 1 1 [(.int .i64 0)] [(0, 1, (.t 105))]⟩, ⟨(some 107), none, .app 1 8 1 (.t 104) (.t 106)⟩, ⟨(some 108), none, .fa 0 (.t 11)⟩, ⟨none, none, .store none (.t 108) (.t 107)⟩])
        (.seq (.line [⟨(some 109), none, .move (.t 14)⟩, ⟨(some 12), none, .move (.t 109)⟩])
        (.exit 4))) .skip))))
      (.line [⟨(some 65), none, .move (.t 14)⟩, ⟨(some 66), none, .bin .add none (.t 65) (.c (.int .i64 1))⟩, ⟨(some 14), none, .move (.t 66)⟩])))))))
   (.line [⟨(some 58), none, .move (.t 13)⟩, ⟨(some 59), none, .bin .add none (.t 58) (.c (.int .i64 1))⟩, ⟨(some 13), none, .move (.t 59)⟩]))))))
 (.seq (.line [⟨(some 110), none, .load (some 3) (.t 11)⟩, ⟨none, none, .store (some 3) (.t 2) (.t 110)⟩, ⟨(some 3), none, .move (.c (.int .i64 0))⟩])
 .ret))))))))))))))⟩
/-- slices.Equal[[]int,int] -/
def g21 : GFun := ⟨26, [.tmp 4],
 (.seq (.line [⟨(some 4), none, .move (.c (.bool false))⟩])
 (.seq (.seq (.line [⟨(some 6), none, .move (.t 0)⟩, ⟨(some 7), none, .len false (.t 6)⟩, ⟨(some 8), none, .move (.t 1)⟩, ⟨(some 9), none, .len false (.t 8)⟩, ⟨(some 10), none, .bin .neq (some .int) (.t 7) (.t 9)⟩])
 (.cond (.t 10) (.seq (.line [⟨(some 4), none, .move (.c (.bool false))⟩])
  .ret) .skip))
 (.seq (.seq (.line [⟨(some 11), none, .move (.t 0)⟩, ⟨(some 12), none, .len false (.t 11)⟩, ⟨(some 13), none, .move (.c (.int .i64 0))⟩])
 (.block 0 (.loop (.seq (.line [⟨(some 14), none, .bin .lss none (.t 13) (.t 12)⟩])
   (.seq (.cond (.t 14) .skip (.exit 0))
   (.seq (.block 1 (.seq (.line [⟨(some 15), none, .move (.t 13)⟩, ⟨(some 5), none, .move (.t 15)⟩])
    (.seq (.any [] [⟨(some 16), none, .move (.t 0)⟩, ⟨(some 17), none, .move (.t 5)⟩, ⟨(some 18), none, .ia none 1 (.t 16) (.t 17)⟩, ⟨(some 19), none, .load none (.t 18)⟩, ⟨(some 20), none, .move (.t 1)⟩, ⟨(some 21), none, .move (.t 5)⟩, ⟨(some 22), none, .ia none 1 (.t 20) (.t 21)⟩, ⟨(some 23), none, .load none (.t 22)⟩, ⟨(some 24), none, .bin .neq (some .int) (.t 19) (.t 23)⟩] [])
    (.cond (.t 24) (.seq (.line [⟨(some 4), none, .move (.c (.bool false))⟩])
     .ret) .skip))))
   (.line [⟨(some 25), none, .bin .add none (.t 13) (.c (.int .i64 1))⟩, ⟨(some 13), none, .move (.t 25)⟩])))))))
 (.seq (.line [⟨(some 4), none, .move (.c (.bool true))⟩])
 .ret))))⟩
/-- slices.Equal[[]int64,int64] -/
def g22 : GFun := ⟨26, [.tmp 4],
 (.seq (.line [⟨(some 4), none, .move (.c (.bool false))⟩])
 (.seq (.seq (.line [⟨(some 6), none, .move (.t 0)⟩, ⟨(some 7), none, .len false (.t 6)⟩, ⟨(some 8), none, .move (.t 1)⟩, ⟨(some 9), none, .len false (.t 8)⟩, ⟨(some 10), none, .bin .neq (some .int) (.t 7) (.t 9)⟩])
 (.cond (.t 10) (.seq (.line [⟨(some 4), none, .move (.c (.bool false))⟩])
  .ret) .skip))
 (.seq (.seq (.line [⟨(some 11), none, .move (.t 0)⟩, ⟨(some 12), none, .len false (.t 11)⟩, ⟨(some 13), none, .move (.c (.int .i64 0))⟩])
 (.block 0 (.loop (.seq (.line [⟨(some 14), none, .bin .lss none (.t 13) (.t 12)⟩])
   (.seq (.cond (.t 14) .skip (.exit 0))
   (.seq (.block 1 (.seq (.line [⟨(some 15), none, .move (.t 13)⟩, ⟨(some 5), none, .move (.t 15)⟩])
    (.seq (.any [] [⟨(some 16), none, .move (.t 0)⟩, ⟨(some 17), none, .move (.t 5)⟩, ⟨(some 18), none, .ia none 1 (.t 16) (.t 17)⟩, ⟨(some 19), none, .load none (.t 18)⟩, ⟨(some 20), none, .move (.t 1)⟩, ⟨(some 21), none, .move (.t 5)⟩, ⟨(some 22), none, .ia none 1 (.t 20) (.t 21)⟩, ⟨(some 23), none, .load none (.t 22)⟩, ⟨(some 24), none, .bin .neq (some .int) (.t 19) (.t 23)⟩] [])
    (.cond (.t 24) (.seq (.line [⟨(some 4), none, .move (.c (.bool false))⟩])
     .ret) .skip))))
   (.line [⟨(some 25), none, .bin .add none (.t 13) (.c (.int .i64 1))⟩, ⟨(some 13), none, .move (.t 25)⟩])))))))
 (.seq (.line [⟨(some 4), none, .move (.c (.bool true))⟩])
 .ret))))⟩

/-- captioner/token.Join -/
def g24 : GFun := ⟨24, [.tmp 2],
 (.seq (.line [⟨(some 2), none, .move (.c (.string ⟨#[]⟩))⟩])
 (.seq (.line [⟨(some 6), none, .move (.t 0)⟩, ⟨(some 7), none, .len false (.t 6)⟩, ⟨(some 8), none, .mk [(.string ⟨#[]⟩)] 16 1 (.t 7) (.t 7)⟩, ⟨(some 3), none, .move (.t 8)⟩])
 (.seq (.seq (.line [⟨(some 9), none, .move (.t 0)⟩, ⟨(some 10), none, .len false (.t 9)⟩, ⟨(some 11), none, .move (.c (.int .i64 0))⟩])
 (.block 0 (.loop (.seq (.line [⟨(some 12), none, .bin .lss none (.t 11) (.t 10)⟩])
   (.seq (.cond (.t 12) .skip (.exit 0))
   (.seq (.block 1 (.seq (.line [⟨(some 13), none, .move (.t 11)⟩, ⟨(some 14), none, .ia none 2 (.t 9) (.t 11)⟩, ⟨(some 15), none, .load (some 2) (.t 14)⟩, ⟨(some 5), none, .alloc 0 [(.string ⟨#[]⟩), (.int .i64 0)]⟩, ⟨(some 4), none, .move (.t 13)⟩, ⟨none, none, .store (some 2) (.t 5) (.t 15)⟩])
    (.line [⟨(some 16), none, .move (.t 3)⟩, ⟨(some 17), none, .move (.t 4)⟩, ⟨(some 18), none, .fa 0 (.t 5)⟩, ⟨(some 19), none, .load none (.t 18)⟩, ⟨(some 20), none, .ia none 1 (.t 16) (.t 17)⟩, ⟨none, none, .store none (.t 20) (.t 19)⟩])))
   (.line [⟨(some 21), none, .bin .add none (.t 11) (.c (.int .i64 1))⟩, ⟨(some 11), none, .move (.t 21)⟩])))))))
 (.seq (.line [⟨(some 22), none, .move (.t 3)⟩, ⟨(some 23), none, .call (.c (.func (.func 41) #[] #[])) [(.t 22), (.c (.string ⟨#[32]⟩))]⟩, ⟨(some 2), none, .move (.t 23)⟩])
 .ret))))⟩

/-- captioner/rowbreak.open -/
def g27 : GFun := ⟨53, [.tmp 2],
 (.seq (.line [⟨(some 1), none, .box (.t 0)⟩, ⟨(some 2), none, .move (.c (.pointer none))⟩])
 (.seq (.line [⟨(some 6), none, .load (some 15) (.t 1)⟩, ⟨(some 7), none, .buildSl 1 1 [(.int .i64 0)] [(0, 1, (.c (.int .i64 0)))]⟩, ⟨(some 8), none, .build [(.slice none 0 0), (.int .i64 0), (.int .i64 0), (.int .i64 0), (.int .i64 0), (.int .i64 0), (.int .i64 0), (.int .i64 0), (.int .i64 0), (.int .i64 0), (.int .i64 0), (.int .i64 0), (.int .i64 0), (.int .i64 0), (.int .i64 0), (.slice none 0 0), (.int .i64 0)] [(0, 15, (.t 6)), (15, 1, (.t 7))]⟩, ⟨(some 9), none, .box (.t 8)⟩, ⟨(some 3), none, .move (.t 9)⟩])
 (.seq (.seq (.line [⟨(some 10), none, .fa 0 (.t 1)⟩, ⟨(some 11), none, .load none (.t 10)⟩, ⟨(some 12), none, .len false (.t 11)⟩, ⟨(some 13), none, .move (.c (.int .i64 0))⟩])
 (.block 0 (.loop (.seq (.line [⟨(some 14), none, .bin .lss none (.t 13) (.t 12)⟩])
   (.seq (.cond (.t 14) .skip (.exit 0))
   (.seq (.block 1 (.seq (.line [⟨(some 15), none, .move (.t 13)⟩, ⟨(some 16), none, .ia none 2 (.t 11) (.t 13)⟩, ⟨(some 17), none, .load (some 2) (.t 16)⟩, ⟨(some 5), none, .alloc 0 [(.string ⟨#[]⟩), (.int .i64 0)]⟩, ⟨(some 4), none, .move (.t 15)⟩, ⟨none, none, .store (some 2) (.t 5) (.t 17)⟩])
    (.any [] [⟨(some 18), none, .move (.t 3)⟩, ⟨(some 19), none, .move (.t 3)⟩, ⟨(some 20), none, .nilc (.t 19)⟩, ⟨(some 21), none, .fa 15 (.t 20)⟩, ⟨(some 22), none, .load none (.t 21)⟩, ⟨(some 23), none, .move (.t 3)⟩, ⟨(some 24), none, .nilc (.t 23)⟩, ⟨(some 25), none, .fa 15 (.t 24)⟩, ⟨(some 26), none, .load none (.t 25)⟩, ⟨(some 27), none, .move (.t 4)⟩, ⟨(some 28), none, .ia none 1 (.t 26) (.t 27)⟩, ⟨(some 29), none, .load none (.t 28)⟩, ⟨(some 30), none, .fa 0 (.t 5)⟩, ⟨(some 31), none, .load none (.t 30)⟩, ⟨(some 32), none, .call (.c (.func (.func 40) #[] #[])) [(.t 31)]⟩, ⟨(some 33), none, .bin .add none (.t 29) (.t 32)⟩, ⟨(some 34), none, .buildSl 1 1 [(.int .i64 0)] [(0, 1, (.t 33))]⟩] [(false, ⟨(some 35), none, .app 1 8 1 (.t 22) (.t 34)⟩), (false, ⟨(some 36), none, .nilc (.t 18)⟩), (false, ⟨(some 37), none, .fa 15 (.t 36)⟩), (false, ⟨none, none, .store none (.t 37) (.t 35)⟩)])))
   (.line [⟨(some 38), none, .bin .add none (.t 13) (.c (.int .i64 1))⟩, ⟨(some 13), none, .move (.t 38)⟩])))))))
 (.seq (.any [] [⟨(some 40), none, .move (.t 3)⟩, ⟨(some 41), none, .move (.t 3)⟩, ⟨(some 42), none, .move (.t 3)⟩, ⟨(some 43), none, .call (.c (.func (.func 43) #[] #[])) [(.t 42)]⟩, ⟨(some 44), none, .call (.c (.func (.func 46) #[] #[])) [(.t 41), (.c (.int .i64 0)), (.t 43)]⟩, ⟨(some 45), none, .fa 1 (.t 1)⟩, ⟨(some 46), none, .load none (.t 45)⟩, ⟨(some 47), none, .call (.c (.func (.func 45) #[] #[])) [(.t 44), (.t 46)]⟩, ⟨(some 39), none, .move (.t 47)⟩, ⟨(some 48), none, .ext (.t 39) 0⟩, ⟨(some 49), none, .ext (.t 39) 1⟩, ⟨(some 50), none, .nilc (.t 40)⟩, ⟨(some 51), none, .fa 16 (.t 50)⟩] [(false, ⟨none, none, .store none (.t 51) (.t 48)⟩)])
 (.seq (.line [⟨(some 52), none, .move (.t 3)⟩, ⟨(some 2), none, .move (.t 52)⟩])
 .ret)))))⟩
/-- (*captioner/rowbreak.sheet).total -/
def g28 : GFun := ⟨65, [.tmp 4, .tmp 5],
 (.seq (.line [⟨(some 4), none, .move (.c (.int .i64 0))⟩, ⟨(some 5), none, .move (.c (.int .i64 0))⟩])
 (.seq (.seq (.any [] [⟨(some 12), none, .move (.t 1)⟩, ⟨(some 13), none, .len false (.t 12)⟩, ⟨(some 14), none, .bin .eql (some .int) (.t 13) (.c (.int .i64 0))⟩, ⟨(some 15), none, .move (.t 14)⟩, ⟨(some 16), (some (15, false)), .move (.t 1)⟩, ⟨(some 17), (some (15, false)), .move (.t 1)⟩, ⟨(some 18), (some (15, false)), .len false (.t 17)⟩, ⟨(some 19), (some (15, false)), .bin .sub none (.t 18) (.c (.int .i64 1))⟩, ⟨(some 20), (some (15, false)), .ia none 1 (.t 16) (.t 19)⟩, ⟨(some 21), (some (15, false)), .load none (.t 20)⟩, ⟨(some 22), (some (15, false)), .move (.t 0)⟩, ⟨(some 23), (some (15, false)), .call (.c (.func (.func 43) #[] #[])) [(.t 22)]⟩, ⟨(some 24), (some (15, false)), .bin .neq (some .int) (.t 21) (.t 23)⟩, ⟨(some 25), none, .pick (.t 15) (.c (.bool true)) (.t 24)⟩] [])
 (.cond (.t 25) (.seq (.line [⟨(some 4), none, .move (.c (.int .i64 0))⟩, ⟨(some 5), none, .move (.c (.int .i64 1))⟩])
  .ret) .skip))
 (.seq (.line [⟨(some 6), none, .move (.c (.int .i64 0))⟩])
 (.seq (.seq (.line [⟨(some 26), none, .move (.t 1)⟩, ⟨(some 27), none, .len false (.t 26)⟩, ⟨(some 28), none, .move (.c (.int .i64 0))⟩])
 (.block 0 (.loop (.seq (.line [⟨(some 29), none, .bin .lss none (.t 28) (.t 27)⟩])
   (.seq (.cond (.t 29) .skip (.exit 0))
   (.seq (.block 1 (.seq (.line [⟨(some 30), none, .ia none 1 (.t 26) (.t 28)⟩, ⟨(some 31), none, .load none (.t 30)⟩, ⟨(some 8), none, .move (.t 31)⟩])
    (.seq (.seq (.line [⟨(some 32), none, .move (.t 8)⟩, ⟨(some 33), none, .move (.t 6)⟩, ⟨(some 34), none, .bin .leq none (.t 32) (.t 33)⟩])
    (.cond (.t 34) (.seq (.line [⟨(some 4), none, .move (.c (.int .i64 0))⟩, ⟨(some 5), none, .move (.c (.int .i64 1))⟩])
     .ret) .skip))
    (.line [⟨(some 35), none, .move (.t 8)⟩, ⟨(some 6), none, .move (.t 35)⟩]))))
   (.line [⟨(some 36), none, .bin .add none (.t 28) (.c (.int .i64 1))⟩, ⟨(some 28), none, .move (.t 36)⟩])))))))
 (.seq (.seq (.line [⟨(some 37), none, .move (.t 1)⟩, ⟨(some 38), none, .len false (.t 37)⟩, ⟨(some 39), none, .move (.t 0)⟩, ⟨(some 40), none, .nilc (.t 39)⟩, ⟨(some 41), none, .fa 0 (.t 40)⟩, ⟨(some 42), none, .fa 2 (.t 41)⟩, ⟨(some 43), none, .load none (.t 42)⟩, ⟨(some 44), none, .bin .gtr none (.t 38) (.t 43)⟩])
 (.cond (.t 44) (.seq (.line [⟨(some 4), none, .move (.c (.int .i64 0))⟩, ⟨(some 5), none, .move (.c (.int .i64 9))⟩])
  .ret) .skip))
 (.seq (.line [⟨(some 6), none, .move (.c (.int .i64 0))⟩])
 (.seq (.line [⟨(some 9), none, .move (.c (.int .i64 0))⟩])
 (.seq (.seq (.line [⟨(some 45), none, .move (.t 1)⟩, ⟨(some 46), none, .len false (.t 45)⟩, ⟨(some 47), none, .move (.c (.int .i64 0))⟩])
 (.block 2 (.loop (.seq (.line [⟨(some 48), none, .bin .lss none (.t 47) (.t 46)⟩])
   (.seq (.cond (.t 48) .skip (.exit 2))
   (.seq (.block 3 (.seq (.line [⟨(some 49), none, .ia none 1 (.t 45) (.t 47)⟩, ⟨(some 50), none, .load none (.t 49)⟩, ⟨(some 11), none, .move (.t 50)⟩])
    (.seq (.seq (.line [⟨(some 51), none, .move (.t 0)⟩, ⟨(some 52), none, .move (.t 6)⟩, ⟨(some 53), none, .move (.t 11)⟩, ⟨(some 54), none, .call (.c (.func (.func 37) #[] #[])) [(.t 51), (.t 52), (.t 53)]⟩, ⟨(some 55), none, .un .not (.t 54)⟩])
    (.cond (.t 55) (.seq (.line [⟨(some 4), none, .move (.c (.int .i64 0))⟩, ⟨(some 5), none, .move (.c (.int .i64 11))⟩])
     .ret) .skip))
    (.seq (.line [⟨(some 56), none, .move (.t 9)⟩, ⟨(some 57), none, .move (.t 0)⟩, ⟨(some 58), none, .move (.t 6)⟩, ⟨(some 59), none, .move (.t 11)⟩, ⟨(some 60), none, .call (.c (.func (.func 38) #[] #[])) [(.t 57), (.t 58), (.t 59)]⟩, ⟨(some 61), none, .bin .add none (.t 56) (.t 60)⟩, ⟨(some 9), none, .move (.t 61)⟩])
    (.line [⟨(some 62), none, .move (.t 11)⟩, ⟨(some 6), none, .move (.t 62)⟩])))))
   (.line [⟨(some 63), none, .bin .add none (.t 47) (.c (.int .i64 1))⟩, ⟨(some 47), none, .move (.t 63)⟩])))))))
 (.seq (.line [⟨(some 64), none, .move (.t 9)⟩, ⟨(some 4), none, .move (.t 64)⟩, ⟨(some 5), none, .move (.c (.int .i64 0))⟩])
 .ret)))))))))⟩
/-- captioner/captionerref36.Fits -/
def g29 : GFun := ⟨15, [.tmp 6],
 (.seq (.line [⟨(some 3), none, .box (.t 0)⟩, ⟨(some 6), none, .move (.c (.bool false))⟩])
 (.seq (.any [] [⟨(some 7), none, .fa 0 (.t 3)⟩, ⟨(some 8), none, .load none (.t 7)⟩, ⟨(some 9), none, .move (.t 1)⟩, ⟨(some 10), none, .move (.t 2)⟩, ⟨(some 11), none, .call (.c (.func (.func 47) #[] #[])) [(.t 8), (.t 9), (.t 10)]⟩, ⟨(some 12), none, .fa 1 (.t 3)⟩, ⟨(some 13), none, .load none (.t 12)⟩, ⟨(some 14), none, .bin .leq none (.t 11) (.t 13)⟩, ⟨(some 6), none, .move (.t 14)⟩] [])
 .ret))⟩
/-- captioner/captionerref36.row -/
def g30 : GFun := ⟨50, [.tmp 6],
 (.seq (.line [⟨(some 3), none, .box (.t 0)⟩, ⟨(some 6), none, .move (.c (.int .i64 0))⟩])
 (.seq (.any [] [⟨(some 13), none, .fa 0 (.t 3)⟩, ⟨(some 14), none, .load none (.t 13)⟩, ⟨(some 15), none, .fa 0 (.t 3)⟩, ⟨(some 16), none, .load none (.t 15)⟩, ⟨(some 17), none, .len false (.t 16)⟩, ⟨(some 18), none, .call (.c (.func (.func 47) #[] #[])) [(.t 14), (.c (.int .i64 0)), (.t 17)]⟩, ⟨(some 19), none, .fa 1 (.t 3)⟩, ⟨(some 20), none, .load none (.t 19)⟩, ⟨(some 21), none, .call (.c (.func (.func 48) #[] #[])) [(.t 18), (.t 20)]⟩, ⟨(some 12), none, .move (.t 21)⟩, ⟨(some 22), none, .ext (.t 12) 0⟩, ⟨(some 23), none, .ext (.t 12) 1⟩, ⟨(some 7), none, .move (.t 22)⟩, ⟨(some 8), none, .move (.t 23)⟩] [])
 (.seq (.line [⟨(some 9), none, .move (.c (.int .i64 (-1)))⟩])
 (.seq (.seq (.line [⟨(some 24), none, .move (.t 2)⟩, ⟨(some 25), none, .fa 0 (.t 3)⟩, ⟨(some 26), none, .load none (.t 25)⟩, ⟨(some 27), none, .len false (.t 26)⟩, ⟨(some 28), none, .bin .lss none (.t 24) (.t 27)⟩])
 (.cond (.t 28) (.line [⟨(some 29), none, .fa 0 (.t 3)⟩, ⟨(some 30), none, .load none (.t 29)⟩, ⟨(some 31), none, .move (.t 2)⟩, ⟨(some 32), none, .bin .sub none (.t 31) (.c (.int .i64 1))⟩, ⟨(some 33), none, .ia none 2 (.t 30) (.t 32)⟩, ⟨(some 34), none, .fa 1 (.t 33)⟩, ⟨(some 35), none, .load none (.t 34)⟩, ⟨(some 9), none, .move (.t 35)⟩]) .skip))
 (.seq (.any [] [⟨(some 37), none, .fa 3 (.t 3)⟩, ⟨(some 38), none, .load (some 12) (.t 37)⟩, ⟨(some 39), none, .move (.t 7)⟩, ⟨(some 40), none, .fa 0 (.t 3)⟩, ⟨(some 41), none, .load none (.t 40)⟩, ⟨(some 42), none, .move (.t 1)⟩, ⟨(some 43), none, .move (.t 2)⟩, ⟨(some 44), none, .call (.c (.func (.func 47) #[] #[])) [(.t 41), (.t 42), (.t 43)]⟩, ⟨(some 45), none, .move (.t 9)⟩, ⟨(some 46), none, .call (.c (.func (.func 49) #[] #[])) [(.t 38), (.t 39), (.t 44), (.t 45)]⟩, ⟨(some 36), none, .move (.t 46)⟩, ⟨(some 47), none, .ext (.t 36) 0⟩, ⟨(some 48), none, .ext (.t 36) 1⟩, ⟨(some 10), none, .move (.t 47)⟩, ⟨(some 11), none, .move (.t 48)⟩] [])
 (.seq (.line [⟨(some 49), none, .move (.t 10)⟩, ⟨(some 6), none, .move (.t 49)⟩])
 .ret))))))⟩

/-- captioner/token.Check -/
def g32 : GFun := ⟨38, [.tmp 2],
 (.seq (.line [⟨(some 2), none, .move (.c (.int .i64 0))⟩])
 (.seq (.seq (.line [⟨(some 5), none, .move (.t 0)⟩, ⟨(some 6), none, .len false (.t 5)⟩, ⟨(some 7), none, .bin .gtr none (.t 6) (.c (.int .i64 200))⟩])
 (.cond (.t 7) (.seq (.line [⟨(some 2), none, .move (.c (.int .i64 9))⟩])
  .ret) .skip))
 (.seq (.seq (.line [⟨(some 8), none, .move (.t 0)⟩, ⟨(some 9), none, .len false (.t 8)⟩, ⟨(some 10), none, .move (.c (.int .i64 0))⟩])
 (.block 0 (.loop (.seq (.line [⟨(some 11), none, .bin .lss none (.t 10) (.t 9)⟩])
   (.seq (.cond (.t 11) .skip (.exit 0))
   (.seq (.block 1 (.seq (.line [⟨(some 12), none, .ia none 2 (.t 8) (.t 10)⟩, ⟨(some 13), none, .load (some 2) (.t 12)⟩, ⟨(some 4), none, .alloc 0 [(.string ⟨#[]⟩), (.int .i64 0)]⟩, ⟨none, none, .store (some 2) (.t 4) (.t 13)⟩])
    (.block 2 (.seq (.line [⟨(some 15), none, .fa 0 (.t 4)⟩, ⟨(some 16), none, .load none (.t 15)⟩, ⟨(some 17), none, .bin .eql (some .str) (.t 16) (.c (.string ⟨#[]⟩))⟩, ⟨(some 18), none, .move (.t 17)⟩, ⟨(some 19), (some (18, false)), .fa 0 (.t 4)⟩, ⟨(some 20), (some (18, false)), .load none (.t 19)⟩, ⟨(some 21), (some (18, false)), .call (.c (.func (.func 50) #[] #[])) [(.t 20), (.c (.string ⟨#[32]⟩))]⟩, ⟨(some 22), none, .pick (.t 18) (.c (.bool true)) (.t 21)⟩, ⟨(some 14), none, .move (.t 22)⟩])
     (.cond (.t 14) (.seq (.line [⟨(some 2), none, .move (.c (.int .i64 4))⟩])
      .ret) (.seq (.line [⟨(some 24), none, .fa 0 (.t 4)⟩, ⟨(some 25), none, .load none (.t 24)⟩, ⟨(some 26), none, .call (.c (.func (.func 51) #[] #[])) [(.t 25)]⟩, ⟨(some 27), none, .un .not (.t 26)⟩, ⟨(some 23), none, .move (.t 27)⟩])
      (.cond (.t 23) (.seq (.line [⟨(some 2), none, .move (.c (.int .i64 10))⟩])
       .ret) (.seq (.line [⟨(some 29), none, .fa 1 (.t 4)⟩, ⟨(some 30), none, .load none (.t 29)⟩, ⟨(some 31), none, .bin .lss none (.t 30) (.c (.int .i64 0))⟩, ⟨(some 32), none, .move (.t 31)⟩, ⟨(some 33), (some (32, false)), .fa 1 (.t 4)⟩, ⟨(some 34), (some (32, false)), .load none (.t 33)⟩, ⟨(some 35), (some (32, false)), .bin .gtr none (.t 34) (.c (.int .i64 5))⟩, ⟨(some 36), none, .pick (.t 32) (.c (.bool true)) (.t 35)⟩, ⟨(some 28), none, .move (.t 36)⟩])
       (.cond (.t 28) (.seq (.line [⟨(some 2), none, .move (.c (.int .i64 2))⟩])
        .ret) .skip)))))))))
   (.line [⟨(some 37), none, .bin .add none (.t 10) (.c (.int .i64 1))⟩, ⟨(some 10), none, .move (.t 37)⟩])))))))
 (.seq (.line [⟨(some 2), none, .move (.c (.int .i64 0))⟩])
 .ret))))⟩
/-- captioner/penalty.Check -/
def g33 : GFun := ⟨34, [.tmp 2],
 (.seq (.line [⟨(some 1), none, .box (.t 0)⟩, ⟨(some 2), none, .move (.c (.int .i64 0))⟩])
 (.seq (.seq (.line [⟨(some 6), none, .load (some 12) (.t 1)⟩, ⟨(some 7), none, .call (.c (.func (.func 52) #[] #[])) [(.t 6)]⟩, ⟨(some 8), none, .len false (.t 7)⟩, ⟨(some 9), none, .move (.c (.int .i64 0))⟩])
 (.block 0 (.loop (.seq (.line [⟨(some 10), none, .bin .lss none (.t 9) (.t 8)⟩])
   (.seq (.cond (.t 10) .skip (.exit 0))
   (.seq (.block 1 (.seq (.line [⟨(some 11), none, .ia none 1 (.t 7) (.t 9)⟩, ⟨(some 12), none, .load none (.t 11)⟩, ⟨(some 4), none, .move (.t 12)⟩])
    (.seq (.line [⟨(some 13), none, .move (.t 4)⟩, ⟨(some 14), none, .bin .lss none (.t 13) (.c (.int .i64 0))⟩, ⟨(some 15), none, .move (.t 14)⟩, ⟨(some 16), (some (15, false)), .move (.t 4)⟩, ⟨(some 17), (some (15, false)), .bin .gtr none (.t 16) (.c (.int .i64 1000000))⟩, ⟨(some 18), none, .pick (.t 15) (.c (.bool true)) (.t 17)⟩])
    (.cond (.t 18) (.seq (.line [⟨(some 2), none, .move (.c (.int .i64 2))⟩])
     .ret) .skip))))
   (.line [⟨(some 19), none, .bin .add none (.t 9) (.c (.int .i64 1))⟩, ⟨(some 9), none, .move (.t 19)⟩])))))))
 (.seq (.seq (.line [⟨(some 5), none, .move (.c (.int .i64 1))⟩])
 (.block 2 (.loop (.seq (.seq (.line [⟨(some 20), none, .move (.t 5)⟩, ⟨(some 21), none, .bin .lss none (.t 20) (.c (.int .i64 6))⟩])
   (.cond (.t 21) .skip (.exit 2)))
   (.seq (.block 3 (.seq (.any [] [⟨(some 24), none, .move (.t 5)⟩, ⟨(some 25), none, .fa 0 (.t 1)⟩, ⟨(some 26), none, .ia (some 6) 1 (.t 25) (.t 24)⟩, ⟨(some 27), none, .load none (.t 26)⟩, ⟨(some 28), none, .move (.t 5)⟩, ⟨(some 29), none, .bin .sub none (.t 28) (.c (.int .i64 1))⟩, ⟨(some 30), none, .fa 0 (.t 1)⟩, ⟨(some 31), none, .ia (some 6) 1 (.t 30) (.t 29)⟩, ⟨(some 32), none, .load none (.t 31)⟩, ⟨(some 33), none, .bin .gtr none (.t 27) (.t 32)⟩] [])
    (.cond (.t 33) (.seq (.line [⟨(some 2), none, .move (.c (.int .i64 8))⟩])
     .ret) .skip)))
   (.line [⟨(some 22), none, .move (.t 5)⟩, ⟨(some 23), none, .bin .add none (.t 22) (.c (.int .i64 1))⟩, ⟨(some 5), none, .move (.t 23)⟩]))))))
 (.seq (.line [⟨(some 2), none, .move (.c (.int .i64 0))⟩])
 .ret))))⟩
/-- captioner/captionerref34.Check -/
def g34 : GFun := ⟨43, [.tmp 2],
 (.seq (.line [⟨(some 2), none, .move (.c (.int .i64 0))⟩])
 (.seq (.seq (.line [⟨(some 6), none, .move (.t 0)⟩, ⟨(some 7), none, .len false (.t 6)⟩, ⟨(some 8), none, .bin .gtr none (.t 7) (.c (.int .i64 200))⟩])
 (.cond (.t 8) (.seq (.line [⟨(some 2), none, .move (.c (.int .i64 9))⟩])
  .ret) .skip))
 (.seq (.seq (.line [⟨(some 9), none, .move (.t 0)⟩, ⟨(some 10), none, .len false (.t 9)⟩, ⟨(some 11), none, .move (.c (.int .i64 0))⟩])
 (.block 0 (.loop (.seq (.line [⟨(some 12), none, .bin .lss none (.t 11) (.t 10)⟩])
   (.seq (.cond (.t 12) .skip (.exit 0))
   (.seq (.block 1 (.seq (.line [⟨(some 13), none, .ia none 2 (.t 9) (.t 11)⟩, ⟨(some 14), none, .load (some 2) (.t 13)⟩, ⟨(some 4), none, .alloc 0 [(.string ⟨#[]⟩), (.int .i64 0)]⟩, ⟨none, none, .store (some 2) (.t 4) (.t 14)⟩])
    (.seq (.seq (.line [⟨(some 15), none, .fa 0 (.t 4)⟩, ⟨(some 16), none, .load none (.t 15)⟩, ⟨(some 17), none, .bin .eql (some .str) (.t 16) (.c (.string ⟨#[]⟩))⟩])
    (.cond (.t 17) (.seq (.line [⟨(some 2), none, .move (.c (.int .i64 4))⟩])
     .ret) .skip))
    (.seq (.seq (.line [⟨(some 5), none, .move (.c (.int .i64 0))⟩])
    (.block 2 (.loop (.seq (.seq (.line [⟨(some 18), none, .move (.t 5)⟩, ⟨(some 19), none, .fa 0 (.t 4)⟩, ⟨(some 20), none, .load none (.t 19)⟩, ⟨(some 21), none, .len true (.t 20)⟩, ⟨(some 22), none, .bin .lss none (.t 18) (.t 21)⟩])
      (.cond (.t 22) .skip (.exit 2)))
      (.seq (.block 3 (.seq (.line [⟨(some 25), none, .fa 0 (.t 4)⟩, ⟨(some 26), none, .load none (.t 25)⟩, ⟨(some 27), none, .move (.t 5)⟩, ⟨(some 28), none, .ix none (.t 26) (.t 27)⟩, ⟨(some 29), none, .bin .eql (some .int) (.t 28) (.c (.int .u8 32))⟩])
       (.cond (.t 29) (.seq (.line [⟨(some 2), none, .move (.c (.int .i64 4))⟩])
        .ret) .skip)))
      (.line [⟨(some 23), none, .move (.t 5)⟩, ⟨(some 24), none, .bin .add none (.t 23) (.c (.int .i64 1))⟩, ⟨(some 5), none, .move (.t 24)⟩]))))))
    (.seq (.seq (.line [⟨(some 30), none, .fa 0 (.t 4)⟩, ⟨(some 31), none, .load none (.t 30)⟩, ⟨(some 32), none, .call (.c (.func (.func 53) #[] #[])) [(.t 31)]⟩, ⟨(some 33), none, .un .not (.t 32)⟩])
    (.cond (.t 33) (.seq (.line [⟨(some 2), none, .move (.c (.int .i64 10))⟩])
     .ret) .skip))
    (.seq (.line [⟨(some 34), none, .fa 1 (.t 4)⟩, ⟨(some 35), none, .load none (.t 34)⟩, ⟨(some 36), none, .bin .lss none (.t 35) (.c (.int .i64 0))⟩, ⟨(some 37), none, .move (.t 36)⟩, ⟨(some 38), (some (37, false)), .fa 1 (.t 4)⟩, ⟨(some 39), (some (37, false)), .load none (.t 38)⟩, ⟨(some 40), (some (37, false)), .bin .gtr none (.t 39) (.c (.int .i64 5))⟩, ⟨(some 41), none, .pick (.t 37) (.c (.bool true)) (.t 40)⟩])
    (.cond (.t 41) (.seq (.line [⟨(some 2), none, .move (.c (.int .i64 2))⟩])
     .ret) .skip)))))))
   (.line [⟨(some 42), none, .bin .add none (.t 11) (.c (.int .i64 1))⟩, ⟨(some 11), none, .move (.t 42)⟩])))))))
 (.seq (.line [⟨(some 2), none, .move (.c (.int .i64 0))⟩])
 .ret))))⟩
/-- captioner/captionerref35.Check -/
def g35 : GFun := ⟨34, [.tmp 2],
 (.seq (.line [⟨(some 1), none, .box (.t 0)⟩, ⟨(some 2), none, .move (.c (.int .i64 0))⟩])
 (.seq (.seq (.line [⟨(some 6), none, .load (some 12) (.t 1)⟩, ⟨(some 7), none, .call (.c (.func (.func 54) #[] #[])) [(.t 6)]⟩, ⟨(some 8), none, .len false (.t 7)⟩, ⟨(some 9), none, .move (.c (.int .i64 0))⟩])
 (.block 0 (.loop (.seq (.line [⟨(some 10), none, .bin .lss none (.t 9) (.t 8)⟩])
   (.seq (.cond (.t 10) .skip (.exit 0))
   (.seq (.block 1 (.seq (.line [⟨(some 11), none, .ia none 1 (.t 7) (.t 9)⟩, ⟨(some 12), none, .load none (.t 11)⟩, ⟨(some 4), none, .move (.t 12)⟩])
    (.seq (.line [⟨(some 13), none, .move (.t 4)⟩, ⟨(some 14), none, .bin .lss none (.t 13) (.c (.int .i64 0))⟩, ⟨(some 15), none, .move (.t 14)⟩, ⟨(some 16), (some (15, false)), .move (.t 4)⟩, ⟨(some 17), (some (15, false)), .bin .gtr none (.t 16) (.c (.int .i64 1000000))⟩, ⟨(some 18), none, .pick (.t 15) (.c (.bool true)) (.t 17)⟩])
    (.cond (.t 18) (.seq (.line [⟨(some 2), none, .move (.c (.int .i64 2))⟩])
     .ret) .skip))))
   (.line [⟨(some 19), none, .bin .add none (.t 9) (.c (.int .i64 1))⟩, ⟨(some 9), none, .move (.t 19)⟩])))))))
 (.seq (.seq (.line [⟨(some 5), none, .move (.c (.int .i64 1))⟩])
 (.block 2 (.loop (.seq (.seq (.line [⟨(some 20), none, .move (.t 5)⟩, ⟨(some 21), none, .bin .lss none (.t 20) (.c (.int .i64 6))⟩])
   (.cond (.t 21) .skip (.exit 2)))
   (.seq (.block 3 (.seq (.any [] [⟨(some 24), none, .move (.t 5)⟩, ⟨(some 25), none, .fa 0 (.t 1)⟩, ⟨(some 26), none, .ia (some 6) 1 (.t 25) (.t 24)⟩, ⟨(some 27), none, .load none (.t 26)⟩, ⟨(some 28), none, .move (.t 5)⟩, ⟨(some 29), none, .bin .sub none (.t 28) (.c (.int .i64 1))⟩, ⟨(some 30), none, .fa 0 (.t 1)⟩, ⟨(some 31), none, .ia (some 6) 1 (.t 30) (.t 29)⟩, ⟨(some 32), none, .load none (.t 31)⟩, ⟨(some 33), none, .bin .gtr none (.t 27) (.t 32)⟩] [])
    (.cond (.t 33) (.seq (.line [⟨(some 2), none, .move (.c (.int .i64 8))⟩])
     .ret) .skip)))
   (.line [⟨(some 22), none, .move (.t 5)⟩, ⟨(some 23), none, .bin .add none (.t 22) (.c (.int .i64 1))⟩, ⟨(some 5), none, .move (.t 23)⟩]))))))
 (.seq (.line [⟨(some 2), none, .move (.c (.int .i64 0))⟩])
 .ret))))⟩
/-- (*captioner/rowbreak.sheet).exact -/
def g36 : GFun := ⟨111, [.tmp 2],
 (.seq (.line [⟨(some 2), none, .move (.c (.slice none 0 0))⟩])
 (.seq (.line [⟨(some 10), none, .move (.t 0)⟩, ⟨(some 11), none, .call (.c (.func (.func 43) #[] #[])) [(.t 10)]⟩, ⟨(some 3), none, .move (.t 11)⟩])
 (.seq (.line [⟨(some 12), none, .move (.t 0)⟩, ⟨(some 13), none, .nilc (.t 12)⟩, ⟨(some 14), none, .fa 0 (.t 13)⟩, ⟨(some 15), none, .fa 2 (.t 14)⟩, ⟨(some 16), none, .load none (.t 15)⟩, ⟨(some 17), none, .bin .add none (.t 16) (.c (.int .i64 1))⟩, ⟨(some 18), none, .mk [(.slice none 0 0)] 24 1 (.t 17) (.t 17)⟩, ⟨(some 4), none, .move (.t 18)⟩])
 (.seq (.seq (.line [⟨(some 19), none, .move (.t 4)⟩, ⟨(some 20), none, .len false (.t 19)⟩, ⟨(some 21), none, .move (.c (.int .i64 0))⟩])
 (.block 0 (.loop (.seq (.line [⟨(some 22), none, .bin .lss none (.t 21) (.t 20)⟩])
   (.seq (.cond (.t 22) .skip (.exit 0))
   (.seq (.block 1 (.seq (.line [⟨(some 23), none, .move (.t 21)⟩, ⟨(some 5), none, .move (.t 23)⟩])
    (.seq (.line [⟨(some 24), none, .move (.t 4)⟩, ⟨(some 25), none, .move (.t 5)⟩, ⟨(some 26), none, .move (.t 3)⟩, ⟨(some 27), none, .bin .add none (.t 26) (.c (.int .i64 1))⟩, ⟨(some 28), none, .mk [(.int .i64 0)] 8 1 (.t 27) (.t 27)⟩, ⟨(some 29), none, .ia none 1 (.t 24) (.t 25)⟩, ⟨none, none, .store none (.t 29) (.t 28)⟩])
    (.seq (.seq (.line [⟨(some 30), none, .move (.t 4)⟩, ⟨(some 31), none, .move (.t 5)⟩, ⟨(some 32), none, .ia none 1 (.t 30) (.t 31)⟩, ⟨(some 33), none, .load none (.t 32)⟩, ⟨(some 34), none, .len false (.t 33)⟩, ⟨(some 35), none, .move (.c (.int .i64 0))⟩])
    (.block 2 (.loop (.seq (.line [⟨(some 36), none, .bin .lss none (.t 35) (.t 34)⟩])
      (.seq (.cond (.t 36) .skip (.exit 2))
      (.seq (.block 3 (.seq (.line [⟨(some 37), none, .move (.t 35)⟩, ⟨(some 6), none, .move (.t 37)⟩])
       (.seq (.line [⟨(some 38), none, .move (.t 4)⟩, ⟨(some 39), none, .move (.t 5)⟩, ⟨(some 40), none, .ia none 1 (.t 38) (.t 39)⟩, ⟨(some 41), none, .load none (.t 40)⟩, ⟨(some 42), none, .move (.t 6)⟩, ⟨(some 43), none, .ia none 1 (.t 41) (.t 42)⟩, ⟨none, none, .store none (.t 43) (.c (.int .i64 (-1)))⟩])
       (.seq (.seq (.line [⟨(some 44), none, .move (.t 5)⟩, ⟨(some 45), none, .bin .eql (some .int) (.t 44) (.c (.int .i64 0))⟩])
       (.cond (.t 45) (.exit 3) .skip))
       (.seq (.line [⟨(some 46), none, .move (.t 6)⟩, ⟨(some 47), none, .bin .add none (.t 46) (.c (.int .i64 1))⟩, ⟨(some 7), none, .move (.t 47)⟩])
       (.block 4 (.loop (.seq (.seq (.line [⟨(some 48), none, .move (.t 7)⟩, ⟨(some 49), none, .move (.t 3)⟩, ⟨(some 50), none, .bin .leq none (.t 48) (.t 49)⟩, ⟨(some 51), none, .move (.t 50)⟩, ⟨(some 52), (some (51, true)), .move (.t 0)⟩, ⟨(some 53), (some (51, true)), .move (.t 6)⟩, ⟨(some 54), (some (51, true)), .move (.t 7)⟩, ⟨(some 55), (some (51, true)), .call (.c (.func (.func 37) #[] #[])) [(.t 52), (.t 53), (.t 54)]⟩, ⟨(some 56), none, .pick (.t 51) (.t 55) (.c (.bool false))⟩])
         (.cond (.t 56) .skip (.exit 4)))
         (.seq (.block 5 (.seq (.line [⟨(some 59), none, .move (.t 4)⟩, ⟨(some 60), none, .move (.t 5)⟩, ⟨(some 61), none, .bin .sub none (.t 60) (.c (.int .i64 1))⟩, ⟨(some 62), none, .ia none 1 (.t 59) (.t 61)⟩, ⟨(some 63), none, .load none (.t 62)⟩, ⟨(some 64), none, .move (.t 7)⟩, ⟨(some 65), none, .ia none 1 (.t 63) (.t 64)⟩, ⟨(some 66), none, .load none (.t 65)⟩, ⟨(some 8), none, .move (.t 66)⟩])
          (.seq (.seq (.line [⟨(some 67), none, .move (.t 8)⟩, ⟨(some 68), none, .bin .eql (some .int) (.t 67) (.c (.int .i64 (-1)))⟩])
          (.cond (.t 68) (.exit 5) .skip))
          (.seq (.line [⟨(some 69), none, .move (.t 0)⟩, ⟨(some 70), none, .move (.t 6)⟩, ⟨(some 71), none, .move (.t 7)⟩, ⟨(some 72), none, .call (.c (.func (.func 38) #[] #[])) [(.t 69), (.t 70), (.t 71)]⟩, ⟨(some 73), none, .move (.t 8)⟩, ⟨(some 74), none, .bin .add none (.t 72) (.t 73)⟩, ⟨(some 9), none, .move (.t 74)⟩])
          (.seq (.line [⟨(some 75), none, .move (.t 4)⟩, ⟨(some 76), none, .move (.t 5)⟩, ⟨(some 77), none, .ia none 1 (.t 75) (.t 76)⟩, ⟨(some 78), none, .load none (.t 77)⟩, ⟨(some 79), none, .move (.t 6)⟩, ⟨(some 80), none, .ia none 1 (.t 78) (.t 79)⟩, ⟨(some 81), none, .load none (.t 80)⟩, ⟨(some 82), none, .bin .eql (some .int) (.t 81) (.c (.int .i64 (-1)))⟩, ⟨(some 83), none, .move (.t 82)⟩, ⟨(some 84), (some (83, false)), .move (.t 9)⟩, ⟨(some 85), (some (83, false)), .move (.t 4)⟩, ⟨(some 86), (some (83, false)), .move (.t 5)⟩, ⟨(some 87), (some (83, false)), .ia none 1 (.t 85) (.t 86)⟩, ⟨(some 88), (some (83, false)), .load none (.t 87)⟩, ⟨(some 89), (some (83, false)), .move (.t 6)⟩, ⟨(some 90), (some (83, false)), .ia none 1 (.t 88) (.t 89)⟩, ⟨(some 91), (some (83, false)), .load none (.t 90)⟩, ⟨(some 92), (some (83, false)), .bin .lss none (.t 84) (.t 91)⟩, ⟨(some 93), none, .pick (.t 83) (.c (.bool true)) (.t 92)⟩])
          (.cond (.t 93) (.line [⟨(some 94), none, .move (.t 4)⟩, ⟨(some 95), none, .move (.t 5)⟩, ⟨(some 96), none, .ia none 1 (.t 94) (.t 95)⟩, ⟨(some 97), none, .load none (.t 96)⟩, ⟨(some 98), none, .move (.t 6)⟩, ⟨(some 99), none, .move (.t 9)⟩, ⟨(some 100), none, .ia none 1 (.t 97) (.t 98)⟩, ⟨none, none, .store none (.t 100) (.t 99)⟩]) .skip))))))
         (.line [⟨(some 57), none, .move (.t 7)⟩, ⟨(some 58), none, .bin .add none (.t 57) (.c (.int .i64 1))⟩, ⟨(some 7), none, .move (.t 58)⟩]))))))))))
      (.line [⟨(some 101), none, .bin .add none (.t 35) (.c (.int .i64 1))⟩, ⟨(some 35), none, .move (.t 101)⟩])))))))
    (.seq (.line [⟨(some 102), none, .move (.t 5)⟩, ⟨(some 103), none, .bin .eql (some .int) (.t 102) (.c (.int .i64 0))⟩])
    (.cond (.t 103) (.line [⟨(some 104), none, .move (.t 4)⟩, ⟨(some 105), none, .ia none 1 (.t 104) (.c (.int .i64 0))⟩, ⟨(some 106), none, .load none (.t 105)⟩, ⟨(some 107), none, .move (.t 3)⟩, ⟨(some 108), none, .ia none 1 (.t 106) (.t 107)⟩, ⟨none, none, .store none (.t 108) (.c (.int .i64 0))⟩]) .skip))))))
   (.line [⟨(some 109), none, .bin .add none (.t 21) (.c (.int .i64 1))⟩, ⟨(some 21), none, .move (.t 109)⟩])))))))
 (.seq (.line [⟨(some 110), none, .move (.t 4)⟩, ⟨(some 2), none, .move (.t 110)⟩])
 .ret)))))⟩
/-- (*captioner/rowbreak.sheet).fits -/
def g37 : GFun := ⟨17, [.tmp 6],
 (.seq (.line [⟨(some 6), none, .move (.c (.bool false))⟩])
 (.seq (.any [] [⟨(some 7), none, .move (.t 0)⟩, ⟨(some 8), none, .move (.t 1)⟩, ⟨(some 9), none, .move (.t 2)⟩, ⟨(some 10), none, .call (.c (.func (.func 46) #[] #[])) [(.t 7), (.t 8), (.t 9)]⟩, ⟨(some 11), none, .move (.t 0)⟩, ⟨(some 12), none, .nilc (.t 11)⟩, ⟨(some 13), none, .fa 0 (.t 12)⟩, ⟨(some 14), none, .fa 1 (.t 13)⟩, ⟨(some 15), none, .load none (.t 14)⟩, ⟨(some 16), none, .bin .leq none (.t 10) (.t 15)⟩, ⟨(some 6), none, .move (.t 16)⟩] [])
 .ret))⟩
/-- (*captioner/rowbreak.sheet).cost -/
def g38 : GFun := ⟨43, [.tmp 6],
 (.seq (.line [⟨(some 6), none, .move (.c (.int .i64 0))⟩])
 (.seq (.line [⟨(some 7), none, .move (.c (.int .i64 (-1)))⟩])
 (.seq (.seq (.line [⟨(some 10), none, .move (.t 2)⟩, ⟨(some 11), none, .move (.t 0)⟩, ⟨(some 12), none, .call (.c (.func (.func 43) #[] #[])) [(.t 11)]⟩, ⟨(some 13), none, .bin .lss none (.t 10) (.t 12)⟩])
 (.cond (.t 13) (.line [⟨(some 14), none, .move (.t 0)⟩, ⟨(some 15), none, .nilc (.t 14)⟩, ⟨(some 16), none, .fa 0 (.t 15)⟩, ⟨(some 17), none, .fa 0 (.t 16)⟩, ⟨(some 18), none, .load none (.t 17)⟩, ⟨(some 19), none, .move (.t 2)⟩, ⟨(some 20), none, .bin .sub none (.t 19) (.c (.int .i64 1))⟩, ⟨(some 21), none, .ia none 2 (.t 18) (.t 20)⟩, ⟨(some 22), none, .fa 1 (.t 21)⟩, ⟨(some 23), none, .load none (.t 22)⟩, ⟨(some 7), none, .move (.t 23)⟩]) .skip))
 (.seq (.any [] [⟨(some 25), none, .move (.t 0)⟩, ⟨(some 26), none, .nilc (.t 25)⟩, ⟨(some 27), none, .fa 0 (.t 26)⟩, ⟨(some 28), none, .fa 3 (.t 27)⟩, ⟨(some 29), none, .load (some 12) (.t 28)⟩, ⟨(some 30), none, .move (.t 0)⟩, ⟨(some 31), none, .nilc (.t 30)⟩, ⟨(some 32), none, .fa 16 (.t 31)⟩, ⟨(some 33), none, .load none (.t 32)⟩, ⟨(some 34), none, .move (.t 0)⟩, ⟨(some 35), none, .move (.t 1)⟩, ⟨(some 36), none, .move (.t 2)⟩, ⟨(some 37), none, .call (.c (.func (.func 46) #[] #[])) [(.t 34), (.t 35), (.t 36)]⟩, ⟨(some 38), none, .move (.t 7)⟩, ⟨(some 39), none, .call (.c (.func (.func 55) #[] #[])) [(.t 29), (.t 33), (.t 37), (.t 38)]⟩, ⟨(some 24), none, .move (.t 39)⟩, ⟨(some 40), none, .ext (.t 24) 0⟩, ⟨(some 41), none, .ext (.t 24) 1⟩, ⟨(some 8), none, .move (.t 40)⟩, ⟨(some 9), none, .move (.t 41)⟩] [])
 (.seq (.line [⟨(some 42), none, .move (.t 8)⟩, ⟨(some 6), none, .move (.t 42)⟩])
 .ret)))))⟩
/-- captioner/captionerref36.potentials -/
def g39 : GFun := ⟨88, [.tmp 2],
 (.seq (.line [⟨(some 1), none, .box (.t 0)⟩, ⟨(some 2), none, .move (.c (.slice none 0 0))⟩])
 (.seq (.line [⟨(some 11), none, .fa 0 (.t 1)⟩, ⟨(some 12), none, .load none (.t 11)⟩, ⟨(some 13), none, .len false (.t 12)⟩, ⟨(some 3), none, .move (.t 13)⟩])
 (.seq (.line [⟨(some 14), none, .fa 2 (.t 1)⟩, ⟨(some 15), none, .load none (.t 14)⟩, ⟨(some 16), none, .bin .add none (.t 15) (.c (.int .i64 1))⟩, ⟨(some 17), none, .move (.t 3)⟩, ⟨(some 18), none, .bin .add none (.t 17) (.c (.int .i64 1))⟩, ⟨(some 19), none, .bin .mul none (.t 16) (.t 18)⟩, ⟨(some 20), none, .mk [(.int .i64 0)] 8 1 (.t 19) (.t 19)⟩, ⟨(some 4), none, .move (.t 20)⟩])
 (.seq (.seq (.line [⟨(some 21), none, .fa 2 (.t 1)⟩, ⟨(some 22), none, .load none (.t 21)⟩, ⟨(some 5), none, .move (.t 22)⟩])
 (.block 0 (.loop (.seq (.seq (.line [⟨(some 23), none, .move (.t 5)⟩, ⟨(some 24), none, .bin .geq none (.t 23) (.c (.int .i64 0))⟩])
   (.cond (.t 24) .skip (.exit 0)))
   (.seq (.block 1 (.seq (.line [⟨(some 27), none, .move (.t 3)⟩, ⟨(some 28), none, .bin .sub none (.t 27) (.c (.int .i64 1))⟩, ⟨(some 6), none, .move (.t 28)⟩])
    (.block 2 (.loop (.seq (.seq (.line [⟨(some 29), none, .move (.t 6)⟩, ⟨(some 30), none, .bin .geq none (.t 29) (.c (.int .i64 0))⟩])
      (.cond (.t 30) .skip (.exit 2)))
      (.seq (.block 3 (.seq (.line [⟨(some 7), none, .move (.c (.int .i64 (-1)))⟩])
       (.seq (.seq (.line [⟨(some 33), none, .move (.t 6)⟩, ⟨(some 34), none, .bin .add none (.t 33) (.c (.int .i64 1))⟩, ⟨(some 8), none, .move (.t 34)⟩])
       (.block 4 (.loop (.seq (.seq (.line [⟨(some 35), none, .move (.t 8)⟩, ⟨(some 36), none, .move (.t 3)⟩, ⟨(some 37), none, .bin .leq none (.t 35) (.t 36)⟩, ⟨(some 38), none, .move (.t 37)⟩, ⟨(some 39), (some (38, true)), .move (.t 5)⟩, ⟨(some 40), (some (38, true)), .fa 2 (.t 1)⟩, ⟨(some 41), (some (38, true)), .load none (.t 40)⟩, ⟨(some 42), (some (38, true)), .bin .lss none (.t 39) (.t 41)⟩, ⟨(some 43), none, .pick (.t 38) (.t 42) (.c (.bool false))⟩, ⟨(some 44), none, .move (.t 43)⟩, ⟨(some 45), (some (44, true)), .load (some 15) (.t 1)⟩, ⟨(some 46), (some (44, true)), .move (.t 6)⟩, ⟨(some 47), (some (44, true)), .move (.t 8)⟩, ⟨(some 48), (some (44, true)), .call (.c (.func (.func 29) #[] #[])) [(.t 45), (.t 46), (.t 47)]⟩, ⟨(some 49), none, .pick (.t 44) (.t 48) (.c (.bool false))⟩])
         (.cond (.t 49) .skip (.exit 4)))
         (.seq (.block 5 (.seq (.line [⟨(some 52), none, .move (.t 4)⟩, ⟨(some 53), none, .move (.t 5)⟩, ⟨(some 54), none, .bin .add none (.t 53) (.c (.int .i64 1))⟩, ⟨(some 55), none, .move (.t 3)⟩, ⟨(some 56), none, .bin .add none (.t 55) (.c (.int .i64 1))⟩, ⟨(some 57), none, .bin .mul none (.t 54) (.t 56)⟩, ⟨(some 58), none, .move (.t 8)⟩, ⟨(some 59), none, .bin .add none (.t 57) (.t 58)⟩, ⟨(some 60), none, .ia none 1 (.t 52) (.t 59)⟩, ⟨(some 61), none, .load none (.t 60)⟩, ⟨(some 9), none, .move (.t 61)⟩])
          (.seq (.seq (.line [⟨(some 62), none, .move (.t 9)⟩, ⟨(some 63), none, .bin .lss none (.t 62) (.c (.int .i64 0))⟩])
          (.cond (.t 63) (.exit 5) .skip))
          (.seq (.line [⟨(some 64), none, .load (some 15) (.t 1)⟩, ⟨(some 65), none, .move (.t 6)⟩, ⟨(some 66), none, .move (.t 8)⟩, ⟨(some 67), none, .call (.c (.func (.func 30) #[] #[])) [(.t 64), (.t 65), (.t 66)]⟩, ⟨(some 68), none, .move (.t 9)⟩, ⟨(some 69), none, .bin .add none (.t 67) (.t 68)⟩, ⟨(some 10), none, .move (.t 69)⟩])
          (.seq (.line [⟨(some 70), none, .move (.t 7)⟩, ⟨(some 71), none, .bin .lss none (.t 70) (.c (.int .i64 0))⟩, ⟨(some 72), none, .move (.t 71)⟩, ⟨(some 73), (some (72, false)), .move (.t 10)⟩, ⟨(some 74), (some (72, false)), .move (.t 7)⟩, ⟨(some 75), (some (72, false)), .bin .lss none (.t 73) (.t 74)⟩, ⟨(some 76), none, .pick (.t 72) (.c (.bool true)) (.t 75)⟩])
          (.cond (.t 76) (.line [⟨(some 77), none, .move (.t 10)⟩, ⟨(some 7), none, .move (.t 77)⟩]) .skip))))))
         (.line [⟨(some 50), none, .move (.t 8)⟩, ⟨(some 51), none, .bin .add none (.t 50) (.c (.int .i64 1))⟩, ⟨(some 8), none, .move (.t 51)⟩]))))))
       (.line [⟨(some 78), none, .move (.t 4)⟩, ⟨(some 79), none, .move (.t 5)⟩, ⟨(some 80), none, .move (.t 3)⟩, ⟨(some 81), none, .bin .add none (.t 80) (.c (.int .i64 1))⟩, ⟨(some 82), none, .bin .mul none (.t 79) (.t 81)⟩, ⟨(some 83), none, .move (.t 6)⟩, ⟨(some 84), none, .bin .add none (.t 82) (.t 83)⟩, ⟨(some 85), none, .move (.t 7)⟩, ⟨(some 86), none, .ia none 1 (.t 78) (.t 84)⟩, ⟨none, none, .store none (.t 86) (.t 85)⟩]))))
      (.line [⟨(some 31), none, .move (.t 6)⟩, ⟨(some 32), none, .bin .sub none (.t 31) (.c (.int .i64 1))⟩, ⟨(some 6), none, .move (.t 32)⟩])))))))
   (.line [⟨(some 25), none, .move (.t 5)⟩, ⟨(some 26), none, .bin .sub none (.t 25) (.c (.int .i64 1))⟩, ⟨(some 5), none, .move (.t 26)⟩]))))))
 (.seq (.line [⟨(some 87), none, .move (.t 4)⟩, ⟨(some 2), none, .move (.t 87)⟩])
 .ret)))))⟩
/-- captioner/charset.Len -/
def g40 : GFun := ⟨8, [.tmp 2],
 (.seq (.line [⟨(some 2), none, .move (.c (.int .i64 0))⟩])
 (.seq (.seq (.line [⟨(some 3), none, .move (.t 0)⟩, ⟨(some 4), none, .call (.c (.func (.func 51) #[] #[])) [(.t 3)]⟩, ⟨(some 5), none, .un .not (.t 4)⟩])
 (.cond (.t 5) (.seq (.line [⟨(some 2), none, .move (.c (.int .i64 (-1)))⟩])
  .ret) .skip))
 (.seq (.line [⟨(some 6), none, .move (.t 0)⟩, ⟨(some 7), none, .call (.c (.func (.func 56) #[] #[])) [(.t 6)]⟩, ⟨(some 2), none, .move (.t 7)⟩])
 .ret)))⟩

/-- (*captioner/rowbreak.sheet).n -/
def g43 : GFun := ⟨9, [.tmp 2],
 (.seq (.line [⟨(some 2), none, .move (.c (.int .i64 0))⟩])
 (.seq (.line [⟨(some 3), none, .move (.t 0)⟩, ⟨(some 4), none, .nilc (.t 3)⟩, ⟨(some 5), none, .fa 0 (.t 4)⟩, ⟨(some 6), none, .fa 0 (.t 5)⟩, ⟨(some 7), none, .load none (.t 6)⟩, ⟨(some 8), none, .len false (.t 7)⟩, ⟨(some 2), none, .move (.t 8)⟩])
 .ret))⟩

/-- captioner/penalty.Aim -/
def g45 : GFun := ⟨25, [.tmp 4, .tmp 5],
 (.seq (.line [⟨(some 4), none, .move (.c (.int .i64 0))⟩, ⟨(some 5), none, .move (.c (.int .i64 0))⟩])
 (.seq (.seq (.line [⟨(some 6), none, .move (.t 0)⟩, ⟨(some 7), none, .bin .lss none (.t 6) (.c (.int .i64 1))⟩, ⟨(some 8), none, .move (.t 7)⟩, ⟨(some 9), (some (8, false)), .move (.t 0)⟩, ⟨(some 10), (some (8, false)), .bin .gtr none (.t 9) (.c (.int .i64 10000))⟩, ⟨(some 11), none, .pick (.t 8) (.c (.bool true)) (.t 10)⟩, ⟨(some 12), none, .move (.t 11)⟩, ⟨(some 13), (some (12, false)), .move (.t 1)⟩, ⟨(some 14), (some (12, false)), .bin .lss none (.t 13) (.c (.int .i64 1))⟩, ⟨(some 15), none, .pick (.t 12) (.c (.bool true)) (.t 14)⟩, ⟨(some 16), none, .move (.t 15)⟩, ⟨(some 17), (some (16, false)), .move (.t 1)⟩, ⟨(some 18), (some (16, false)), .bin .gtr none (.t 17) (.c (.int .i64 32))⟩, ⟨(some 19), none, .pick (.t 16) (.c (.bool true)) (.t 18)⟩])
 (.cond (.t 19) (.seq (.line [⟨(some 4), none, .move (.c (.int .i64 0))⟩, ⟨(some 5), none, .move (.c (.int .i64 2))⟩])
  .ret) .skip))
 (.seq (.line [⟨(some 20), none, .move (.t 0)⟩, ⟨(some 21), none, .move (.t 0)⟩, ⟨(some 22), none, .move (.t 1)⟩, ⟨(some 23), none, .call (.c (.func (.func 61) #[] #[])) [(.t 21), (.t 22)]⟩, ⟨(some 24), none, .call (.c (.func (.func 61) #[] #[])) [(.t 20), (.t 23)]⟩, ⟨(some 4), none, .move (.t 24)⟩, ⟨(some 5), none, .move (.c (.int .i64 0))⟩])
 .ret)))⟩
/-- (*captioner/rowbreak.sheet).length -/
def g46 : GFun := ⟨27, [.tmp 6],
 (.seq (.line [⟨(some 6), none, .move (.c (.int .i64 0))⟩])
 (.seq (.any [] [⟨(some 7), none, .move (.t 0)⟩, ⟨(some 8), none, .nilc (.t 7)⟩, ⟨(some 9), none, .fa 15 (.t 8)⟩, ⟨(some 10), none, .load none (.t 9)⟩, ⟨(some 11), none, .move (.t 2)⟩, ⟨(some 12), none, .ia none 1 (.t 10) (.t 11)⟩, ⟨(some 13), none, .load none (.t 12)⟩, ⟨(some 14), none, .move (.t 0)⟩, ⟨(some 15), none, .nilc (.t 14)⟩, ⟨(some 16), none, .fa 15 (.t 15)⟩, ⟨(some 17), none, .load none (.t 16)⟩, ⟨(some 18), none, .move (.t 1)⟩, ⟨(some 19), none, .ia none 1 (.t 17) (.t 18)⟩, ⟨(some 20), none, .load none (.t 19)⟩, ⟨(some 21), none, .bin .sub none (.t 13) (.t 20)⟩, ⟨(some 22), none, .move (.t 2)⟩, ⟨(some 23), none, .bin .add none (.t 21) (.t 22)⟩, ⟨(some 24), none, .move (.t 1)⟩, ⟨(some 25), none, .bin .sub none (.t 23) (.t 24)⟩, ⟨(some 26), none, .bin .sub none (.t 25) (.c (.int .i64 1))⟩, ⟨(some 6), none, .move (.t 26)⟩] [])
 .ret))⟩
/-- captioner/captionerref34.Len -/
def g47 : GFun := ⟨42, [.tmp 6],
 (.seq (.line [⟨(some 6), none, .move (.c (.int .i64 0))⟩])
 (.seq (.seq (.line [⟨(some 9), none, .move (.t 1)⟩, ⟨(some 10), none, .bin .lss none (.t 9) (.c (.int .i64 0))⟩, ⟨(some 11), none, .move (.t 10)⟩, ⟨(some 12), (some (11, false)), .move (.t 1)⟩, ⟨(some 13), (some (11, false)), .move (.t 2)⟩, ⟨(some 14), (some (11, false)), .bin .gtr none (.t 12) (.t 13)⟩, ⟨(some 15), none, .pick (.t 11) (.c (.bool true)) (.t 14)⟩, ⟨(some 16), none, .move (.t 15)⟩, ⟨(some 17), (some (16, false)), .move (.t 2)⟩, ⟨(some 18), (some (16, false)), .move (.t 0)⟩, ⟨(some 19), (some (16, false)), .len false (.t 18)⟩, ⟨(some 20), (some (16, false)), .bin .gtr none (.t 17) (.t 19)⟩, ⟨(some 21), none, .pick (.t 16) (.c (.bool true)) (.t 20)⟩])
 (.cond (.t 21) (.seq (.line [⟨(some 6), none, .move (.c (.int .i64 0))⟩])
  .ret) .skip))
 (.seq (.line [⟨(some 7), none, .move (.c (.int .i64 0))⟩])
 (.seq (.seq (.line [⟨(some 22), none, .move (.t 1)⟩, ⟨(some 8), none, .move (.t 22)⟩])
 (.block 0 (.loop (.seq (.seq (.line [⟨(some 23), none, .move (.t 8)⟩, ⟨(some 24), none, .move (.t 2)⟩, ⟨(some 25), none, .bin .lss none (.t 23) (.t 24)⟩])
   (.cond (.t 25) .skip (.exit 0)))
   (.seq (.block 1 (.seq (.seq (.line [⟨(some 28), none, .move (.t 8)⟩, ⟨(some 29), none, .move (.t 1)⟩, ⟨(some 30), none, .bin .gtr none (.t 28) (.t 29)⟩])
    (.cond (.t 30) (.line [⟨(some 31), none, .move (.t 7)⟩, ⟨(some 32), none, .bin .add none (.t 31) (.c (.int .i64 1))⟩, ⟨(some 7), none, .move (.t 32)⟩]) .skip))
    (.line [⟨(some 33), none, .move (.t 7)⟩, ⟨(some 34), none, .move (.t 0)⟩, ⟨(some 35), none, .move (.t 8)⟩, ⟨(some 36), none, .ia none 2 (.t 34) (.t 35)⟩, ⟨(some 37), none, .fa 0 (.t 36)⟩, ⟨(some 38), none, .load none (.t 37)⟩, ⟨(some 39), none, .call (.c (.func (.func 62) #[] #[])) [(.t 38)]⟩, ⟨(some 40), none, .bin .add none (.t 33) (.t 39)⟩, ⟨(some 7), none, .move (.t 40)⟩])))
   (.line [⟨(some 26), none, .move (.t 8)⟩, ⟨(some 27), none, .bin .add none (.t 26) (.c (.int .i64 1))⟩, ⟨(some 8), none, .move (.t 27)⟩]))))))
 (.seq (.line [⟨(some 41), none, .move (.t 7)⟩, ⟨(some 6), none, .move (.t 41)⟩])
 .ret)))))⟩
/-- captioner/captionerref35.Aim -/
def g48 : GFun := ⟨27, [.tmp 4, .tmp 5],
 (.seq (.line [⟨(some 4), none, .move (.c (.int .i64 0))⟩, ⟨(some 5), none, .move (.c (.int .i64 0))⟩])
 (.seq (.seq (.line [⟨(some 7), none, .move (.t 0)⟩, ⟨(some 8), none, .call (.c (.func (.func 63) #[] #[])) [(.t 7), (.c (.int .i64 1)), (.c (.int .i64 10000))]⟩, ⟨(some 9), none, .un .not (.t 8)⟩, ⟨(some 10), none, .move (.t 9)⟩, ⟨(some 11), (some (10, false)), .move (.t 1)⟩, ⟨(some 12), (some (10, false)), .call (.c (.func (.func 63) #[] #[])) [(.t 11), (.c (.int .i64 1)), (.c (.int .i64 32))]⟩, ⟨(some 13), (some (10, false)), .un .not (.t 12)⟩, ⟨(some 14), none, .pick (.t 10) (.c (.bool true)) (.t 13)⟩])
 (.cond (.t 14) (.seq (.line [⟨(some 4), none, .move (.c (.int .i64 0))⟩, ⟨(some 5), none, .move (.c (.int .i64 2))⟩])
  .ret) .skip))
 (.seq (.line [⟨(some 15), none, .move (.t 0)⟩, ⟨(some 16), none, .move (.t 1)⟩, ⟨(some 17), none, .bin .add none (.t 15) (.t 16)⟩, ⟨(some 18), none, .bin .sub none (.t 17) (.c (.int .i64 1))⟩, ⟨(some 19), none, .move (.t 1)⟩, ⟨(some 20), none, .bin .quo none (.t 18) (.t 19)⟩, ⟨(some 6), none, .move (.t 20)⟩])
 (.seq (.line [⟨(some 21), none, .move (.t 0)⟩, ⟨(some 22), none, .move (.t 6)⟩, ⟨(some 23), none, .bin .add none (.t 21) (.t 22)⟩, ⟨(some 24), none, .bin .sub none (.t 23) (.c (.int .i64 1))⟩, ⟨(some 25), none, .move (.t 6)⟩, ⟨(some 26), none, .bin .quo none (.t 24) (.t 25)⟩, ⟨(some 4), none, .move (.t 26)⟩, ⟨(some 5), none, .move (.c (.int .i64 0))⟩])
 .ret))))⟩
/-- captioner/captionerref35.Row -/
def g49 : GFun := ⟨54, [.tmp 8, .tmp 9],
 (.seq (.line [⟨(some 4), none, .box (.t 0)⟩, ⟨(some 8), none, .move (.c (.int .i64 0))⟩, ⟨(some 9), none, .move (.c (.int .i64 0))⟩])
 (.seq (.seq (.line [⟨(some 13), none, .load (some 12) (.t 4)⟩, ⟨(some 14), none, .call (.c (.func (.func 35) #[] #[])) [(.t 13)]⟩, ⟨(some 10), none, .move (.t 14)⟩])
 (.seq (.line [⟨(some 15), none, .move (.t 10)⟩, ⟨(some 16), none, .bin .neq (some .int) (.t 15) (.c (.int .i64 0))⟩])
 (.cond (.t 16) (.seq (.line [⟨(some 17), none, .move (.t 10)⟩, ⟨(some 8), none, .move (.c (.int .i64 0))⟩, ⟨(some 9), none, .move (.t 17)⟩])
  .ret) .skip)))
 (.seq (.seq (.line [⟨(some 18), none, .move (.t 1)⟩, ⟨(some 19), none, .call (.c (.func (.func 63) #[] #[])) [(.t 18), (.c (.int .i64 1)), (.c (.int .i64 32))]⟩, ⟨(some 20), none, .un .not (.t 19)⟩, ⟨(some 21), none, .move (.t 20)⟩, ⟨(some 22), (some (21, false)), .move (.t 2)⟩, ⟨(some 23), (some (21, false)), .call (.c (.func (.func 63) #[] #[])) [(.t 22), (.c (.int .i64 1)), (.c (.int .i64 32))]⟩, ⟨(some 24), (some (21, false)), .un .not (.t 23)⟩, ⟨(some 25), none, .pick (.t 21) (.c (.bool true)) (.t 24)⟩, ⟨(some 26), none, .move (.t 25)⟩, ⟨(some 27), (some (26, false)), .move (.t 3)⟩, ⟨(some 28), (some (26, false)), .call (.c (.func (.func 63) #[] #[])) [(.t 27), (.c (.int .i64 (-1))), (.c (.int .i64 5))]⟩, ⟨(some 29), (some (26, false)), .un .not (.t 28)⟩, ⟨(some 30), none, .pick (.t 26) (.c (.bool true)) (.t 29)⟩])
 (.cond (.t 30) (.seq (.line [⟨(some 8), none, .move (.c (.int .i64 0))⟩, ⟨(some 9), none, .move (.c (.int .i64 2))⟩])
  .ret) .skip))
 (.seq (.line [⟨(some 31), none, .move (.t 1)⟩, ⟨(some 32), none, .move (.t 2)⟩, ⟨(some 33), none, .bin .sub none (.t 31) (.t 32)⟩, ⟨(some 11), none, .move (.t 33)⟩])
 (.seq (.seq (.line [⟨(some 34), none, .move (.t 11)⟩, ⟨(some 35), none, .bin .lss none (.t 34) (.c (.int .i64 0))⟩])
 (.cond (.t 35) (.line [⟨(some 36), none, .move (.t 11)⟩, ⟨(some 37), none, .un .neg (.t 36)⟩, ⟨(some 11), none, .move (.t 37)⟩]) .skip))
 (.seq (.line [⟨(some 38), none, .fa 7 (.t 4)⟩, ⟨(some 39), none, .load none (.t 38)⟩, ⟨(some 40), none, .fa 6 (.t 4)⟩, ⟨(some 41), none, .load none (.t 40)⟩, ⟨(some 42), none, .move (.t 11)⟩, ⟨(some 43), none, .bin .mul none (.t 41) (.t 42)⟩, ⟨(some 44), none, .bin .add none (.t 39) (.t 43)⟩, ⟨(some 12), none, .move (.t 44)⟩])
 (.seq (.seq (.line [⟨(some 45), none, .move (.t 3)⟩, ⟨(some 46), none, .bin .geq none (.t 45) (.c (.int .i64 0))⟩])
 (.cond (.t 46) (.line [⟨(some 47), none, .move (.t 12)⟩, ⟨(some 48), none, .move (.t 3)⟩, ⟨(some 49), none, .fa 0 (.t 4)⟩, ⟨(some 50), none, .ia (some 6) 1 (.t 49) (.t 48)⟩, ⟨(some 51), none, .load none (.t 50)⟩, ⟨(some 52), none, .bin .add none (.t 47) (.t 51)⟩, ⟨(some 12), none, .move (.t 52)⟩]) .skip))
 (.seq (.line [⟨(some 53), none, .move (.t 12)⟩, ⟨(some 8), none, .move (.t 53)⟩, ⟨(some 9), none, .move (.c (.int .i64 0))⟩])
 .ret))))))))⟩
/-- strings.Contains -/
def g50 : GFun := ⟨9, [.tmp 4],
 (.seq (.line [⟨(some 4), none, .move (.c (.bool false))⟩])
 (.seq (.line [⟨(some 5), none, .move (.t 0)⟩, ⟨(some 6), none, .move (.t 1)⟩, ⟨(some 7), none, .call (.c (.func (.func 64) #[] #[])) [(.t 5), (.t 6)]⟩, ⟨(some 8), none, .bin .geq none (.t 7) (.c (.int .i64 0))⟩, ⟨(some 4), none, .move (.t 8)⟩])
 .ret))⟩
/-- captioner/charset.Valid -/
def g51 : GFun := ⟨16, [.tmp 2],
 (.seq (.line [⟨(some 2), none, .move (.c (.bool false))⟩])
 (.seq (.seq (.line [⟨(some 5), none, .move (.t 0)⟩, ⟨(some 6), none, .call (.c (.func (.func 65) #[] #[])) [(.t 5)]⟩, ⟨(some 7), none, .un .not (.t 6)⟩])
 (.cond (.t 7) (.seq (.line [⟨(some 2), none, .move (.c (.bool false))⟩])
  .ret) .skip))
 (.seq (.seq (.line [⟨(some 8), none, .move (.t 0)⟩, ⟨(some 9), none, .rng (.t 8)⟩])
 (.block 0 (.loop (.seq (.line [⟨(some 10), none, .next (.t 9)⟩, ⟨(some 11), none, .ext (.t 10) 0⟩])
   (.seq (.cond (.t 11) .skip (.exit 0))
   (.block 1 (.seq (.line [⟨(some 12), none, .ext (.t 10) 2⟩, ⟨(some 4), none, .move (.t 12)⟩])
    (.seq (.line [⟨(some 13), none, .move (.t 4)⟩, ⟨(some 14), none, .call (.c (.func (.func 66) #[] #[])) [(.t 13)]⟩, ⟨(some 15), none, .bin .lss none (.t 14) (.c (.int .i64 0))⟩])
    (.cond (.t 15) (.seq (.line [⟨(some 2), none, .move (.c (.bool false))⟩])
     .ret) .skip)))))))))
 (.seq (.line [⟨(some 2), none, .move (.c (.bool true))⟩])
 .ret))))⟩
/-- captioner/penalty.numbers -/
def g52 : GFun := ⟨19, [.tmp 2],
 (.seq (.line [⟨(some 1), none, .box (.t 0)⟩, ⟨(some 2), none, .move (.c (.slice none 0 0))⟩])
 (.seq (.any [] [⟨(some 3), none, .fa 0 (.t 1)⟩, ⟨(some 4), none, .slice (.arr 6 1) (.t 3) none none none⟩, ⟨(some 5), none, .fa 6 (.t 1)⟩, ⟨(some 6), none, .load none (.t 5)⟩, ⟨(some 7), none, .fa 7 (.t 1)⟩, ⟨(some 8), none, .load none (.t 7)⟩, ⟨(some 9), none, .fa 8 (.t 1)⟩, ⟨(some 10), none, .load none (.t 9)⟩, ⟨(some 11), none, .fa 9 (.t 1)⟩, ⟨(some 12), none, .load none (.t 11)⟩, ⟨(some 13), none, .fa 10 (.t 1)⟩, ⟨(some 14), none, .load none (.t 13)⟩, ⟨(some 15), none, .fa 11 (.t 1)⟩, ⟨(some 16), none, .load none (.t 15)⟩, ⟨(some 17), none, .buildSl 1 6 [(.int .i64 0)] [(0, 1, (.t 6)), (1, 1, (.t 8)), (2, 1, (.t 10)), (3, 1, (.t 12)), (4, 1, (.t 14)), (5, 1, (.t 16))]⟩] [(false, ⟨(some 18), none, .app 1 8 1 (.t 4) (.t 17)⟩), (false, ⟨(some 2), none, .move (.t 18)⟩)])
 .ret))⟩
/-- captioner/captionerref08.Valid -/
def g53 : GFun := ⟨13, [.tmp 2],
 (.seq (.line [⟨(some 2), none, .move (.c (.bool false))⟩])
 (.seq (.seq (.line [⟨(some 5), none, .move (.t 0)⟩, ⟨(some 6), none, .rng (.t 5)⟩])
 (.block 0 (.loop (.seq (.line [⟨(some 7), none, .next (.t 6)⟩, ⟨(some 8), none, .ext (.t 7) 0⟩])
   (.seq (.cond (.t 8) .skip (.exit 0))
   (.block 1 (.seq (.line [⟨(some 9), none, .ext (.t 7) 2⟩, ⟨(some 4), none, .move (.t 9)⟩])
    (.seq (.line [⟨(some 10), none, .move (.t 4)⟩, ⟨(some 11), none, .call (.c (.func (.func 67) #[] #[])) [(.t 10)]⟩, ⟨(some 12), none, .bin .lss none (.t 11) (.c (.int .i64 0))⟩])
    (.cond (.t 12) (.seq (.line [⟨(some 2), none, .move (.c (.bool false))⟩])
     .ret) .skip)))))))))
 (.seq (.line [⟨(some 2), none, .move (.c (.bool true))⟩])
 .ret)))⟩
/-- captioner/captionerref35.numbers -/
def g54 : GFun := ⟨21, [.tmp 2],
 (.seq (.line [⟨(some 1), none, .box (.t 0)⟩, ⟨(some 2), none, .move (.c (.slice none 0 0))⟩])
 (.seq (.any [] [⟨(some 3), none, .buildSl 1 0 [(.int .i64 0)] []⟩, ⟨(some 4), none, .fa 0 (.t 1)⟩, ⟨(some 5), none, .slice (.arr 6 1) (.t 4) none none none⟩, ⟨(some 6), none, .appM 1 8 1 (.t 3) (.t 5)⟩, ⟨(some 7), none, .fa 6 (.t 1)⟩, ⟨(some 8), none, .load none (.t 7)⟩, ⟨(some 9), none, .fa 7 (.t 1)⟩, ⟨(some 10), none, .load none (.t 9)⟩, ⟨(some 11), none, .fa 8 (.t 1)⟩, ⟨(some 12), none, .load none (.t 11)⟩, ⟨(some 13), none, .fa 9 (.t 1)⟩, ⟨(some 14), none, .load none (.t 13)⟩, ⟨(some 15), none, .fa 10 (.t 1)⟩, ⟨(some 16), none, .load none (.t 15)⟩, ⟨(some 17), none, .fa 11 (.t 1)⟩, ⟨(some 18), none, .load none (.t 17)⟩, ⟨(some 19), none, .buildSl 1 6 [(.int .i64 0)] [(0, 1, (.t 8)), (1, 1, (.t 10)), (2, 1, (.t 12)), (3, 1, (.t 14)), (4, 1, (.t 16)), (5, 1, (.t 18))]⟩] [(false, ⟨(some 20), none, .app 1 8 1 (.t 6) (.t 19)⟩), (false, ⟨(some 2), none, .move (.t 20)⟩)])
 .ret))⟩
/-- captioner/penalty.Row -/
def g55 : GFun := ⟨52, [.tmp 8, .tmp 9],
 (.seq (.line [⟨(some 4), none, .box (.t 0)⟩, ⟨(some 8), none, .move (.c (.int .i64 0))⟩, ⟨(some 9), none, .move (.c (.int .i64 0))⟩])
 (.seq (.seq (.line [⟨(some 12), none, .load (some 12) (.t 4)⟩, ⟨(some 13), none, .call (.c (.func (.func 33) #[] #[])) [(.t 12)]⟩, ⟨(some 10), none, .move (.t 13)⟩])
 (.seq (.line [⟨(some 14), none, .move (.t 10)⟩, ⟨(some 15), none, .bin .neq (some .int) (.t 14) (.c (.int .i64 0))⟩])
 (.cond (.t 15) (.seq (.line [⟨(some 16), none, .move (.t 10)⟩, ⟨(some 8), none, .move (.c (.int .i64 0))⟩, ⟨(some 9), none, .move (.t 16)⟩])
  .ret) .skip)))
 (.seq (.seq (.line [⟨(some 17), none, .move (.t 1)⟩, ⟨(some 18), none, .call (.c (.func (.func 68) #[] #[])) [(.t 17), (.c (.int .i64 1)), (.c (.int .i64 32))]⟩, ⟨(some 19), none, .un .not (.t 18)⟩, ⟨(some 20), none, .move (.t 19)⟩, ⟨(some 21), (some (20, false)), .move (.t 2)⟩, ⟨(some 22), (some (20, false)), .call (.c (.func (.func 68) #[] #[])) [(.t 21), (.c (.int .i64 1)), (.c (.int .i64 32))]⟩, ⟨(some 23), (some (20, false)), .un .not (.t 22)⟩, ⟨(some 24), none, .pick (.t 20) (.c (.bool true)) (.t 23)⟩, ⟨(some 25), none, .move (.t 24)⟩, ⟨(some 26), (some (25, false)), .move (.t 3)⟩, ⟨(some 27), (some (25, false)), .call (.c (.func (.func 68) #[] #[])) [(.t 26), (.c (.int .i64 (-1))), (.c (.int .i64 5))]⟩, ⟨(some 28), (some (25, false)), .un .not (.t 27)⟩, ⟨(some 29), none, .pick (.t 25) (.c (.bool true)) (.t 28)⟩])
 (.cond (.t 29) (.seq (.line [⟨(some 8), none, .move (.c (.int .i64 0))⟩, ⟨(some 9), none, .move (.c (.int .i64 2))⟩])
  .ret) .skip))
 (.seq (.line [⟨(some 30), none, .fa 7 (.t 4)⟩, ⟨(some 31), none, .load none (.t 30)⟩, ⟨(some 32), none, .fa 6 (.t 4)⟩, ⟨(some 33), none, .load none (.t 32)⟩, ⟨(some 34), none, .move (.t 1)⟩, ⟨(some 35), none, .move (.t 2)⟩, ⟨(some 36), none, .bin .sub none (.t 34) (.t 35)⟩, ⟨(some 37), none, .move (.t 2)⟩, ⟨(some 38), none, .move (.t 1)⟩, ⟨(some 39), none, .bin .sub none (.t 37) (.t 38)⟩, ⟨(some 40), none, .max (.t 36) [(.t 39)]⟩, ⟨(some 41), none, .bin .mul none (.t 33) (.t 40)⟩, ⟨(some 42), none, .bin .add none (.t 31) (.t 41)⟩, ⟨(some 11), none, .move (.t 42)⟩])
 (.seq (.seq (.line [⟨(some 43), none, .move (.t 3)⟩, ⟨(some 44), none, .bin .geq none (.t 43) (.c (.int .i64 0))⟩])
 (.cond (.t 44) (.line [⟨(some 45), none, .move (.t 11)⟩, ⟨(some 46), none, .move (.t 3)⟩, ⟨(some 47), none, .fa 0 (.t 4)⟩, ⟨(some 48), none, .ia (some 6) 1 (.t 47) (.t 46)⟩, ⟨(some 49), none, .load none (.t 48)⟩, ⟨(some 50), none, .bin .add none (.t 45) (.t 49)⟩, ⟨(some 11), none, .move (.t 50)⟩]) .skip))
 (.seq (.line [⟨(some 51), none, .move (.t 11)⟩, ⟨(some 8), none, .move (.t 51)⟩, ⟨(some 9), none, .move (.c (.int .i64 0))⟩])
 .ret))))))⟩
/-- unicode/utf8.RuneCountInString -/
def g56 : GFun := ⟨10, [.tmp 2],
 (.seq (.line [⟨(some 2), none, .move (.c (.int .i64 0))⟩])
 (.seq (.seq (.line [⟨(some 3), none, .move (.t 0)⟩, ⟨(some 4), none, .rng (.t 3)⟩])
 (.block 0 (.loop (.seq (.line [⟨(some 5), none, .next (.t 4)⟩, ⟨(some 6), none, .ext (.t 5) 0⟩])
   (.seq (.cond (.t 6) .skip (.exit 0))
   (.block 1 (.line [⟨(some 7), none, .move (.t 2)⟩, ⟨(some 8), none, .bin .add none (.t 7) (.c (.int .i64 1))⟩, ⟨(some 2), none, .move (.t 8)⟩])))))))
 (.seq (.line [⟨(some 9), none, .move (.t 2)⟩, ⟨(some 2), none, .move (.t 9)⟩])
 .ret)))⟩


/-- captioner/penalty.up -/
def g61 : GFun := ⟨11, [.tmp 4],
 (.seq (.line [⟨(some 4), none, .move (.c (.int .i64 0))⟩])
 (.seq (.line [⟨(some 5), none, .move (.t 0)⟩, ⟨(some 6), none, .move (.t 1)⟩, ⟨(some 7), none, .bin .add none (.t 5) (.t 6)⟩, ⟨(some 8), none, .bin .sub none (.t 7) (.c (.int .i64 1))⟩, ⟨(some 9), none, .move (.t 1)⟩, ⟨(some 10), none, .bin .quo none (.t 8) (.t 9)⟩, ⟨(some 4), none, .move (.t 10)⟩])
 .ret))⟩
/-- captioner/captionerref08.Len -/
def g62 : GFun := ⟨9, [.tmp 2],
 (.seq (.line [⟨(some 2), none, .move (.c (.int .i64 0))⟩])
 (.seq (.seq (.line [⟨(some 3), none, .move (.t 0)⟩, ⟨(some 4), none, .call (.c (.func (.func 53) #[] #[])) [(.t 3)]⟩, ⟨(some 5), none, .un .not (.t 4)⟩])
 (.cond (.t 5) (.seq (.line [⟨(some 2), none, .move (.c (.int .i64 (-1)))⟩])
  .ret) .skip))
 (.seq (.line [⟨(some 6), none, .move (.t 0)⟩, ⟨(some 7), none, .call (.c (.func (.func 71) #[] #[])) [(.t 6)]⟩, ⟨(some 8), none, .len false (.t 7)⟩, ⟨(some 2), none, .move (.t 8)⟩])
 .ret)))⟩
/-- captioner/captionerref35.within -/
def g63 : GFun := ⟨15, [.tmp 6],
 (.seq (.line [⟨(some 6), none, .move (.c (.bool false))⟩])
 (.seq (.line [⟨(some 7), none, .move (.t 0)⟩, ⟨(some 8), none, .move (.t 1)⟩, ⟨(some 9), none, .bin .geq none (.t 7) (.t 8)⟩, ⟨(some 10), none, .move (.t 9)⟩, ⟨(some 11), (some (10, true)), .move (.t 0)⟩, ⟨(some 12), (some (10, true)), .move (.t 2)⟩, ⟨(some 13), (some (10, true)), .bin .leq none (.t 11) (.t 12)⟩, ⟨(some 14), none, .pick (.t 10) (.t 13) (.c (.bool false))⟩, ⟨(some 6), none, .move (.t 14)⟩])
 .ret))⟩
/-- strings.Index -/
def g64 : GFun := ⟨8, [.tmp 4],
 (.seq (.line [⟨(some 4), none, .move (.c (.int .i64 0))⟩])
 (.seq (.line [⟨(some 5), none, .move (.t 0)⟩, ⟨(some 6), none, .move (.t 1)⟩, ⟨(some 7), none, .call (.c (.func (.func 72) #[] #[])) [(.t 5), (.t 6)]⟩, ⟨(some 4), none, .move (.t 7)⟩])
 .ret))⟩

/-- captioner/charset.Index -/
def g66 : GFun := ⟨14, [.tmp 2],
 (.seq (.line [⟨(some 2), none, .move (.c (.int .i64 0))⟩])
 (.seq (.seq (.line [⟨(some 3), none, .move (.t 0)⟩, ⟨(some 4), none, .bin .geq none (.t 3) (.c (.int .i32 32))⟩, ⟨(some 5), none, .move (.t 4)⟩, ⟨(some 6), (some (5, true)), .move (.t 0)⟩, ⟨(some 7), (some (5, true)), .bin .leq none (.t 6) (.c (.int .i32 126))⟩, ⟨(some 8), none, .pick (.t 5) (.t 7) (.c (.bool false))⟩])
 (.cond (.t 8) (.seq (.line [⟨(some 9), none, .move (.t 0)⟩, ⟨(some 10), none, .bin .sub none (.t 9) (.c (.int .i32 32))⟩, ⟨(some 11), none, .conv (.int .i64) (.t 10)⟩, ⟨(some 2), none, .move (.t 11)⟩])
  .ret) .skip))
 (.seq (.line [⟨(some 12), none, .move (.t 0)⟩, ⟨(some 13), none, .call (.c (.func (.func 74) #[] #[])) [(.c (.string ⟨#[32, 33, 34, 35, 36, 37, 38, 39, 40, 41, 42, 43, 44, 45, 46, 47, 48, 49, 50, 51, 52, 53, 54, 55, 56, 57, 58, 59, 60, 61, 62, 63, 64, 65, 66, 67, 68, 69, 70, 71, 72, 73, 74, 75, 76, 77, 78, 79, 80, 81, 82, 83, 84, 85, 86, 87, 88, 89, 90, 91, 92, 93, 94, 95, 96, 97, 98, 99, 100, 101, 102, 103, 104, 105, 106, 107, 108, 109, 110, 111, 112, 113, 114, 115, 116, 117, 118, 119, 120, 121, 122, 123, 124, 125, 126, 194, 161, 194, 162, 194, 163, 194, 164, 194, 165, 194, 166, 194, 167, 194, 169, 194, 171, 194, 174, 194, 176, 194, 183, 194, 187, 194, 189, 194, 191, 195, 128, 195, 129, 195, 130, 195, 131, 195, 132, 195, 133, 195, 134, 195, 135, 195, 136, 195, 137, 195, 138, 195, 139, 195, 140, 195, 141, 195, 142, 195, 143, 195, 145, 195, 146, 195, 147, 195, 148, 195, 149, 195, 150, 195, 152, 195, 153, 195, 154, 195, 155, 195, 156, 195, 159, 195, 160, 195, 161, 195, 162, 195, 163, 195, 164, 195, 165, 195, 166, 195, 167, 195, 168, 195, 169, 195, 170, 195, 171, 195, 172, 195, 173, 195, 174, 195, 175, 195, 177, 195, 178, 195, 179, 195, 180, 195, 181, 195, 182, 195, 184, 195, 185, 195, 186, 195, 187, 195, 188, 197, 146, 197, 147, 226, 128, 148, 226, 128, 152, 226, 128, 153, 226, 128, 156, 226, 128, 157, 226, 128, 162, 226, 128, 166, 226, 132, 162, 226, 153, 170]⟩)), (.t 12)]⟩, ⟨(some 2), none, .move (.t 13)⟩])
 .ret)))⟩
/-- captioner/captionerref08.Index -/
def g67 : GFun := ⟨26, [.tmp 2],
 (.seq (.line [⟨(some 2), none, .move (.c (.int .i64 0))⟩])
 (.seq (.seq (.line [⟨(some 6), none, .move (.t 0)⟩, ⟨(some 7), none, .bin .geq none (.t 6) (.c (.int .i32 32))⟩, ⟨(some 8), none, .move (.t 7)⟩, ⟨(some 9), (some (8, true)), .move (.t 0)⟩, ⟨(some 10), (some (8, true)), .bin .leq none (.t 9) (.c (.int .i32 126))⟩, ⟨(some 11), none, .pick (.t 8) (.t 10) (.c (.bool false))⟩])
 (.cond (.t 11) (.seq (.line [⟨(some 12), none, .move (.t 0)⟩, ⟨(some 13), none, .bin .sub none (.t 12) (.c (.int .i32 32))⟩, ⟨(some 14), none, .conv (.int .i64) (.t 13)⟩, ⟨(some 2), none, .move (.t 14)⟩])
  .ret) .skip))
 (.seq (.line [⟨(some 3), none, .move (.c (.int .i64 0))⟩])
 (.seq (.seq (.line [⟨(some 15), none, .call (.c (.func (.func 75) #[] #[])) []⟩, ⟨(some 16), none, .rng (.t 15)⟩])
 (.block 0 (.loop (.seq (.line [⟨(some 17), none, .next (.t 16)⟩, ⟨(some 18), none, .ext (.t 17) 0⟩])
   (.seq (.cond (.t 18) .skip (.exit 0))
   (.block 1 (.seq (.line [⟨(some 19), none, .ext (.t 17) 2⟩, ⟨(some 5), none, .move (.t 19)⟩])
    (.seq (.seq (.line [⟨(some 20), none, .move (.t 5)⟩, ⟨(some 21), none, .move (.t 0)⟩, ⟨(some 22), none, .bin .eql (some .int) (.t 20) (.t 21)⟩])
    (.cond (.t 22) (.seq (.line [⟨(some 23), none, .move (.t 3)⟩, ⟨(some 2), none, .move (.t 23)⟩])
     .ret) .skip))
    (.line [⟨(some 24), none, .move (.t 3)⟩, ⟨(some 25), none, .bin .add none (.t 24) (.c (.int .i64 1))⟩, ⟨(some 3), none, .move (.t 25)⟩])))))))))
 (.seq (.line [⟨(some 2), none, .move (.c (.int .i64 (-1)))⟩])
 .ret)))))⟩
/-- captioner/penalty.within -/
def g68 : GFun := ⟨15, [.tmp 6],
 (.seq (.line [⟨(some 6), none, .move (.c (.bool false))⟩])
 (.seq (.line [⟨(some 7), none, .move (.t 0)⟩, ⟨(some 8), none, .move (.t 1)⟩, ⟨(some 9), none, .bin .geq none (.t 7) (.t 8)⟩, ⟨(some 10), none, .move (.t 9)⟩, ⟨(some 11), (some (10, true)), .move (.t 0)⟩, ⟨(some 12), (some (10, true)), .move (.t 2)⟩, ⟨(some 13), (some (10, true)), .bin .leq none (.t 11) (.t 12)⟩, ⟨(some 14), none, .pick (.t 10) (.t 13) (.c (.bool false))⟩, ⟨(some 6), none, .move (.t 14)⟩])
 .ret))⟩


/-- captioner/captionerref08.runes -/
def g71 : GFun := ⟨16, [.tmp 2],
 (.seq (.line [⟨(some 2), none, .move (.c (.slice none 0 0))⟩])
 (.seq (.line [⟨(some 3), none, .move (.c (.slice none 0 0))⟩])
 (.seq (.seq (.line [⟨(some 6), none, .move (.t 0)⟩, ⟨(some 7), none, .rng (.t 6)⟩])
 (.block 0 (.loop (.seq (.line [⟨(some 8), none, .next (.t 7)⟩, ⟨(some 9), none, .ext (.t 8) 0⟩])
   (.seq (.cond (.t 9) .skip (.exit 0))
   (.block 1 (.seq (.line [⟨(some 10), none, .ext (.t 8) 2⟩, ⟨(some 5), none, .move (.t 10)⟩])
    (.line [⟨(some 11), none, .move (.t 3)⟩, ⟨(some 12), none, .move (.t 5)⟩, ⟨(some 13), none, .buildSl 1 1 [(.int .i32 0)] [(0, 1, (.t 12))]⟩, ⟨(some 14), none, .app 1 4 1 (.t 11) (.t 13)⟩, ⟨(some 3), none, .move (.t 14)⟩]))))))))
 (.seq (.line [⟨(some 15), none, .move (.t 3)⟩, ⟨(some 2), none, .move (.t 15)⟩])
 .ret))))⟩
/-- internal/stringslite.Index -/
def g72 : GFun := ⟨143, [.tmp 4],
 (.seq (.line [⟨(some 4), none, .move (.c (.int .i64 0))⟩])
 (.seq (.line [⟨(some 14), none, .move (.t 1)⟩, ⟨(some 15), none, .len true (.t 14)⟩, ⟨(some 5), none, .move (.t 15)⟩])
 (.seq (.block 0 (.seq (.line [⟨(some 17), none, .move (.t 5)⟩, ⟨(some 18), none, .bin .eql (some .int) (.t 17) (.c (.int .i64 0))⟩, ⟨(some 19), none, .move (.t 18)⟩, ⟨(some 20), (some (19, false)), .move (.t 1)⟩, ⟨(some 21), (some (19, false)), .move (.t 0)⟩, ⟨(some 22), (some (19, false)), .bin .eql (some .str) (.t 20) (.t 21)⟩, ⟨(some 23), none, .pick (.t 19) (.c (.bool true)) (.t 22)⟩, ⟨(some 16), none, .move (.t 23)⟩])
  (.cond (.t 16) (.seq (.line [⟨(some 4), none, .move (.c (.int .i64 0))⟩])
   .ret) (.seq (.line [⟨(some 25), none, .move (.t 5)⟩, ⟨(some 26), none, .bin .eql (some .int) (.t 25) (.c (.int .i64 1))⟩, ⟨(some 24), none, .move (.t 26)⟩])
   (.cond (.t 24) (.seq (.line [⟨(some 27), none, .move (.t 0)⟩, ⟨(some 28), none, .move (.t 1)⟩, ⟨(some 29), none, .ix none (.t 28) (.c (.int .i64 0))⟩, ⟨(some 30), none, .call (.c (.func (.func 78) #[] #[])) [(.t 27), (.t 29)]⟩, ⟨(some 4), none, .move (.t 30)⟩])
    .ret) (.seq (.line [⟨(some 32), none, .move (.t 5)⟩, ⟨(some 33), none, .move (.t 0)⟩, ⟨(some 34), none, .len true (.t 33)⟩, ⟨(some 35), none, .bin .geq none (.t 32) (.t 34)⟩, ⟨(some 31), none, .move (.t 35)⟩])
    (.cond (.t 31) (.seq (.line [⟨(some 4), none, .move (.c (.int .i64 (-1)))⟩])
     .ret) (.seq (.line [⟨(some 37), none, .move (.t 5)⟩, ⟨(some 38), none, .bad⟩, ⟨(some 39), none, .bin .leq none (.t 37) (.t 38)⟩, ⟨(some 40), none, .move (.t 39)⟩, ⟨(some 41), (some (40, true)), .move (.t 0)⟩, ⟨(some 42), (some (40, true)), .len true (.t 41)⟩, ⟨(some 43), (some (40, true)), .bin .leq none (.t 42) (.c (.int .i64 64))⟩, ⟨(some 44), none, .pick (.t 40) (.t 43) (.c (.bool false))⟩, ⟨(some 36), none, .move (.t 44)⟩])
     (.cond (.t 36) (.seq (.line [⟨(some 45), none, .move (.t 0)⟩, ⟨(some 46), none, .move (.t 1)⟩, ⟨(some 47), none, .call (.c (.func (.func 79) #[] #[])) [(.t 45), (.t 46)]⟩, ⟨(some 4), none, .move (.t 47)⟩])
      .ret) .skip)))))))))
 (.seq (.line [⟨(some 48), none, .move (.t 1)⟩, ⟨(some 49), none, .ix none (.t 48) (.c (.int .i64 0))⟩, ⟨(some 6), none, .move (.t 49)⟩])
 (.seq (.line [⟨(some 50), none, .move (.t 1)⟩, ⟨(some 51), none, .ix none (.t 50) (.c (.int .i64 1))⟩, ⟨(some 7), none, .move (.t 51)⟩])
 (.seq (.line [⟨(some 8), none, .move (.c (.int .i64 0))⟩])
 (.seq (.line [⟨(some 52), none, .move (.t 0)⟩, ⟨(some 53), none, .len true (.t 52)⟩, ⟨(some 54), none, .move (.t 5)⟩, ⟨(some 55), none, .bin .sub none (.t 53) (.t 54)⟩, ⟨(some 56), none, .bin .add none (.t 55) (.c (.int .i64 1))⟩, ⟨(some 9), none, .move (.t 56)⟩])
 (.seq (.line [⟨(some 10), none, .move (.c (.int .i64 0))⟩])
 (.seq (.block 1 (.loop (.seq (.seq (.line [⟨(some 57), none, .move (.t 8)⟩, ⟨(some 58), none, .move (.t 9)⟩, ⟨(some 59), none, .bin .lss none (.t 57) (.t 58)⟩])
   (.cond (.t 59) .skip (.exit 1)))
   (.block 2 (.seq (.seq (.line [⟨(some 60), none, .move (.t 0)⟩, ⟨(some 61), none, .move (.t 8)⟩, ⟨(some 62), none, .ix none (.t 60) (.t 61)⟩, ⟨(some 63), none, .move (.t 6)⟩, ⟨(some 64), none, .bin .neq (some .int) (.t 62) (.t 63)⟩])
    (.cond (.t 64) (.seq (.line [⟨(some 65), none, .move (.t 0)⟩, ⟨(some 66), none, .move (.t 8)⟩, ⟨(some 67), none, .bin .add none (.t 66) (.c (.int .i64 1))⟩, ⟨(some 68), none, .move (.t 9)⟩, ⟨(some 69), none, .slice .str (.t 65) (some (.t 67)) (some (.t 68)) none⟩, ⟨(some 70), none, .move (.t 6)⟩, ⟨(some 71), none, .call (.c (.func (.func 78) #[] #[])) [(.t 69), (.t 70)]⟩, ⟨(some 11), none, .move (.t 71)⟩])
     (.seq (.seq (.line [⟨(some 72), none, .move (.t 11)⟩, ⟨(some 73), none, .bin .lss none (.t 72) (.c (.int .i64 0))⟩])
     (.cond (.t 73) (.seq (.line [⟨(some 4), none, .move (.c (.int .i64 (-1)))⟩])
      .ret) .skip))
     (.line [⟨(some 74), none, .move (.t 8)⟩, ⟨(some 75), none, .move (.t 11)⟩, ⟨(some 76), none, .bin .add none (.t 75) (.c (.int .i64 1))⟩, ⟨(some 77), none, .bin .add none (.t 74) (.t 76)⟩, ⟨(some 8), none, .move (.t 77)⟩]))) .skip))
    (.seq (.seq (.line [⟨(some 78), none, .move (.t 0)⟩, ⟨(some 79), none, .move (.t 8)⟩, ⟨(some 80), none, .bin .add none (.t 79) (.c (.int .i64 1))⟩, ⟨(some 81), none, .ix none (.t 78) (.t 80)⟩, ⟨(some 82), none, .move (.t 7)⟩, ⟨(some 83), none, .bin .eql (some .int) (.t 81) (.t 82)⟩, ⟨(some 84), none, .move (.t 83)⟩, ⟨(some 85), (some (84, true)), .move (.t 0)⟩, ⟨(some 86), (some (84, true)), .move (.t 8)⟩, ⟨(some 87), (some (84, true)), .move (.t 8)⟩, ⟨(some 88), (some (84, true)), .move (.t 5)⟩, ⟨(some 89), (some (84, true)), .bin .add none (.t 87) (.t 88)⟩, ⟨(some 90), (some (84, true)), .slice .str (.t 85) (some (.t 86)) (some (.t 89)) none⟩, ⟨(some 91), (some (84, true)), .move (.t 1)⟩, ⟨(some 92), (some (84, true)), .bin .eql (some .str) (.t 90) (.t 91)⟩, ⟨(some 93), none, .pick (.t 84) (.t 92) (.c (.bool false))⟩])
    (.cond (.t 93) (.seq (.line [⟨(some 94), none, .move (.t 8)⟩, ⟨(some 4), none, .move (.t 94)⟩])
     .ret) .skip))
    (.seq (.line [⟨(some 95), none, .move (.t 8)⟩, ⟨(some 96), none, .bin .add none (.t 95) (.c (.int .i64 1))⟩, ⟨(some 8), none, .move (.t 96)⟩])
    (.seq (.line [⟨(some 97), none, .move (.t 10)⟩, ⟨(some 98), none, .bin .add none (.t 97) (.c (.int .i64 1))⟩, ⟨(some 10), none, .move (.t 98)⟩])
    (.seq (.line [⟨(some 99), none, .move (.t 5)⟩, ⟨(some 100), none, .bad⟩, ⟨(some 101), none, .bin .leq none (.t 99) (.t 100)⟩, ⟨(some 102), none, .move (.t 101)⟩, ⟨(some 103), (some (102, true)), .move (.t 10)⟩, ⟨(some 104), (some (102, true)), .move (.t 8)⟩, ⟨(some 105), (some (102, true)), .call (.c (.func (.func 80) #[] #[])) [(.t 104)]⟩, ⟨(some 106), (some (102, true)), .bin .gtr none (.t 103) (.t 105)⟩, ⟨(some 107), none, .pick (.t 102) (.t 106) (.c (.bool false))⟩])
    (.cond (.t 107) (.seq (.line [⟨(some 108), none, .move (.t 0)⟩, ⟨(some 109), none, .move (.t 8)⟩, ⟨(some 110), none, .slice .str (.t 108) (some (.t 109)) none none⟩, ⟨(some 111), none, .move (.t 1)⟩, ⟨(some 112), none, .call (.c (.func (.func 79) #[] #[])) [(.t 110), (.t 111)]⟩, ⟨(some 12), none, .move (.t 112)⟩])
     (.seq (.seq (.line [⟨(some 113), none, .move (.t 12)⟩, ⟨(some 114), none, .bin .geq none (.t 113) (.c (.int .i64 0))⟩])
     (.cond (.t 114) (.seq (.line [⟨(some 115), none, .move (.t 12)⟩, ⟨(some 116), none, .move (.t 8)⟩, ⟨(some 117), none, .bin .add none (.t 115) (.t 116)⟩, ⟨(some 4), none, .move (.t 117)⟩])
      .ret) .skip))
     (.seq (.line [⟨(some 4), none, .move (.c (.int .i64 (-1)))⟩])
     .ret))) (.seq (.line [⟨(some 118), none, .move (.t 5)⟩, ⟨(some 119), none, .bad⟩, ⟨(some 120), none, .bin .gtr none (.t 118) (.t 119)⟩, ⟨(some 121), none, .move (.t 120)⟩, ⟨(some 122), (some (121, true)), .move (.t 10)⟩, ⟨(some 123), (some (121, true)), .move (.t 8)⟩, ⟨(some 124), (some (121, true)), .bin .shr none (.t 123) (.c (.int .u64 4))⟩, ⟨(some 125), (some (121, true)), .bin .add none (.c (.int .i64 4)) (.t 124)⟩, ⟨(some 126), (some (121, true)), .bin .geq none (.t 122) (.t 125)⟩, ⟨(some 127), none, .pick (.t 121) (.t 126) (.c (.bool false))⟩, ⟨(some 128), none, .move (.t 127)⟩, ⟨(some 129), (some (128, true)), .move (.t 8)⟩, ⟨(some 130), (some (128, true)), .move (.t 9)⟩, ⟨(some 131), (some (128, true)), .bin .lss none (.t 129) (.t 130)⟩, ⟨(some 132), none, .pick (.t 128) (.t 131) (.c (.bool false))⟩])
     (.cond (.t 132) (.seq (.line [⟨(some 133), none, .move (.t 0)⟩, ⟨(some 134), none, .move (.t 8)⟩, ⟨(some 135), none, .slice .str (.t 133) (some (.t 134)) none none⟩, ⟨(some 136), none, .move (.t 1)⟩, ⟨(some 137), none, .call (.c (.func (.func 81) #[] #[])) [(.t 135), (.t 136)]⟩, ⟨(some 13), none, .move (.t 137)⟩])
      (.seq (.seq (.line [⟨(some 138), none, .move (.t 13)⟩, ⟨(some 139), none, .bin .lss none (.t 138) (.c (.int .i64 0))⟩])
      (.cond (.t 139) (.seq (.line [⟨(some 4), none, .move (.c (.int .i64 (-1)))⟩])
       .ret) .skip))
      (.seq (.line [⟨(some 140), none, .move (.t 8)⟩, ⟨(some 141), none, .move (.t 13)⟩, ⟨(some 142), none, .bin .add none (.t 140) (.t 141)⟩, ⟨(some 4), none, .move (.t 142)⟩])
      .ret))) .skip))))))))))))
 (.seq (.line [⟨(some 4), none, .move (.c (.int .i64 (-1)))⟩])
 .ret))))))))))⟩

/-- captioner/charset.place -/
def g74 : GFun := ⟨19, [.tmp 4],
 (.seq (.line [⟨(some 4), none, .move (.c (.int .i64 0))⟩])
 (.seq (.line [⟨(some 5), none, .move (.c (.int .i64 0))⟩])
 (.seq (.seq (.line [⟨(some 8), none, .move (.t 0)⟩, ⟨(some 9), none, .rng (.t 8)⟩])
 (.block 0 (.loop (.seq (.line [⟨(some 10), none, .next (.t 9)⟩, ⟨(some 11), none, .ext (.t 10) 0⟩])
   (.seq (.cond (.t 11) .skip (.exit 0))
   (.block 1 (.seq (.line [⟨(some 12), none, .ext (.t 10) 2⟩, ⟨(some 7), none, .move (.t 12)⟩])
    (.seq (.seq (.line [⟨(some 13), none, .move (.t 7)⟩, ⟨(some 14), none, .move (.t 1)⟩, ⟨(some 15), none, .bin .eql (some .int) (.t 13) (.t 14)⟩])
    (.cond (.t 15) (.seq (.line [⟨(some 16), none, .move (.t 5)⟩, ⟨(some 4), none, .move (.t 16)⟩])
     .ret) .skip))
    (.line [⟨(some 17), none, .move (.t 5)⟩, ⟨(some 18), none, .bin .add none (.t 17) (.c (.int .i64 1))⟩, ⟨(some 5), none, .move (.t 18)⟩])))))))))
 (.seq (.line [⟨(some 4), none, .move (.c (.int .i64 (-1)))⟩])
 .ret))))⟩
/-- captioner/captionerref08.Repertoire -/
def g75 : GFun := ⟨1, [.tmp 0],
 (.seq (.line [⟨(some 0), none, .move (.c (.string ⟨#[]⟩))⟩])
 (.seq (.line [⟨(some 0), none, .move (.c (.string ⟨#[32, 33, 34, 35, 36, 37, 38, 39, 40, 41, 42, 43, 44, 45, 46, 47, 48, 49, 50, 51, 52, 53, 54, 55, 56, 57, 58, 59, 60, 61, 62, 63, 64, 65, 66, 67, 68, 69, 70, 71, 72, 73, 74, 75, 76, 77, 78, 79, 80, 81, 82, 83, 84, 85, 86, 87, 88, 89, 90, 91, 92, 93, 94, 95, 96, 97, 98, 99, 100, 101, 102, 103, 104, 105, 106, 107, 108, 109, 110, 111, 112, 113, 114, 115, 116, 117, 118, 119, 120, 121, 122, 123, 124, 125, 126, 194, 161, 194, 162, 194, 163, 194, 164, 194, 165, 194, 166, 194, 167, 194, 169, 194, 171, 194, 174, 194, 176, 194, 183, 194, 187, 194, 189, 194, 191, 195, 128, 195, 129, 195, 130, 195, 131, 195, 132, 195, 133, 195, 134, 195, 135, 195, 136, 195, 137, 195, 138, 195, 139, 195, 140, 195, 141, 195, 142, 195, 143, 195, 145, 195, 146, 195, 147, 195, 148, 195, 149, 195, 150, 195, 152, 195, 153, 195, 154, 195, 155, 195, 156, 195, 159, 195, 160, 195, 161, 195, 162, 195, 163, 195, 164, 195, 165, 195, 166, 195, 167, 195, 168, 195, 169, 195, 170, 195, 171, 195, 172, 195, 173, 195, 174, 195, 175, 195, 177, 195, 178, 195, 179, 195, 180, 195, 181, 195, 182, 195, 184, 195, 185, 195, 186, 195, 187, 195, 188, 197, 146, 197, 147, 226, 128, 148, 226, 128, 152, 226, 128, 153, 226, 128, 156, 226, 128, 157, 226, 128, 162, 226, 128, 166, 226, 132, 162, 226, 153, 170]⟩))⟩])
 .ret))⟩



/-- gosem.cut.vars -/
def g105 : GFun := ⟨6, [],
 (.line [⟨(some 0), none, .build [(.int .u8 0), (.int .u8 0)] [(0, 1, (.c (.int .u8 128))), (1, 1, (.c (.int .u8 191)))]⟩, ⟨(some 1), none, .build [(.int .u8 0), (.int .u8 0)] [(0, 1, (.c (.int .u8 160))), (1, 1, (.c (.int .u8 191)))]⟩, ⟨(some 2), none, .build [(.int .u8 0), (.int .u8 0)] [(0, 1, (.c (.int .u8 128))), (1, 1, (.c (.int .u8 159)))]⟩, ⟨(some 3), none, .build [(.int .u8 0), (.int .u8 0)] [(0, 1, (.c (.int .u8 144))), (1, 1, (.c (.int .u8 191)))]⟩, ⟨(some 4), none, .build [(.int .u8 0), (.int .u8 0)] [(0, 1, (.c (.int .u8 128))), (1, 1, (.c (.int .u8 143)))]⟩, ⟨(some 5), none, .build [(.int .u8 0), (.int .u8 0), (.int .u8 0), (.int .u8 0), (.int .u8 0), (.int .u8 0), (.int .u8 0), (.int .u8 0), (.int .u8 0), (.int .u8 0), (.int .u8 0), (.int .u8 0), (.int .u8 0), (.int .u8 0), (.int .u8 0), (.int .u8 0), (.int .u8 0), (.int .u8 0), (.int .u8 0), (.int .u8 0), (.int .u8 0), (.int .u8 0), (.int .u8 0), (.int .u8 0), (.int .u8 0), (.int .u8 0), (.int .u8 0), (.int .u8 0), (.int .u8 0), (.int .u8 0), (.int .u8 0), (.int .u8 0)] [(0, 2, (.t 0)), (2, 2, (.t 1)), (4, 2, (.t 2)), (6, 2, (.t 3)), (8, 2, (.t 4))]⟩, ⟨none, none, .bad⟩])⟩

def G : FuncId → Option GEnt
  | 4 => some (.fn g4)
  | 10 => some (.pure g10)
  | 11 => some (.fn g11)
  | 12 => some (.fn g12)
  | 14 => some (.fn g14)
  | 16 => some (.fn g16)
  | 17 => some (.fn g17)
  | 18 => some (.fn g18)
  | 19 => some (.fn g19)
  | 20 => some (.fn g20)
  | 21 => some (.fn g21)
  | 22 => some (.fn g22)
  | 24 => some (.fn g24)
  | 27 => some (.fn g27)
  | 28 => some (.fn g28)
  | 29 => some (.fn g29)
  | 30 => some (.fn g30)
  | 32 => some (.fn g32)
  | 33 => some (.pure g33)
  | 34 => some (.fn g34)
  | 35 => some (.pure g35)
  | 36 => some (.fn g36)
  | 37 => some (.fn g37)
  | 38 => some (.fn g38)
  | 39 => some (.fn g39)
  | 40 => some (.pure g40)
  | 43 => some (.fn g43)
  | 45 => some (.fn g45)
  | 46 => some (.fn g46)
  | 47 => some (.fn g47)
  | 48 => some (.fn g48)
  | 49 => some (.fn g49)
  | 50 => some (.pure g50)
  | 51 => some (.pure g51)
  | 52 => some (.fn g52)
  | 53 => some (.pure g53)
  | 54 => some (.fn g54)
  | 55 => some (.fn g55)
  | 56 => some (.pure g56)
  | 61 => some (.pure g61)
  | 62 => some (.pure g62)
  | 63 => some (.pure g63)
  | 64 => some (.pure g64)
  | 66 => some (.pure g66)
  | 67 => some (.pure g67)
  | 68 => some (.pure g68)
  | 71 => some (.fn g71)
  | 72 => some (.pure g72)
  | 74 => some (.pure g74)
  | 75 => some (.pure g75)
  | 105 => some (.fn g105)
  | 41 => some (.ext runJoin)
  | 65 => some (.lib runValid)
  | 78 => some (.lib runIndexByte)
  | _ => none
theorem awake_run : (gbody (gcall G 200 16) 200 g10 [] ⟨.nil, 0, 0⟩).map (·.1) = some (.bool true) := by kernel_rfl
theorem awake_gev (H : GHeap) : gev G 10 [] H = some (.bool true, H) := by
  have h := awake_run
  simp only [Option.map_eq_some_iff] at h
  obtain ⟨⟨v, H'⟩, h1, h2⟩ := h
  simp only at h2
  subst h2
  refine gev_pure (m := 200) (H' := H') (g := g10) rfl rfl rfl ?_
  exact gbody_mono (fun f args H r h => gev_of_gcall h) (Nat.le_refl _) h1
end Go.Gh
