/-
  The ghost functions of this seat.
-/
import Derived.Test.YtgbibkkcnkaelaaDoorLb
import Derived.Test.YtgbibkkcnkaelaaDoorBd
import Derived.KernelRfl
namespace Go.Gh
open Go.RowKit
set_option maxRecDepth 100000



/-- captioner/captionerlaw09.StyleParses -/
def g6 : GFun := ⟨46, [.tmp 2],
 (.seq (.line [⟨(some 2), none, .move (.c (.bool false))⟩])
 (.seq (.seq (.line [⟨(some 9), none, .call (.c (.func (.func 10) #[] #[])) []⟩, ⟨(some 10), none, .un .not (.t 9)⟩])
 (.cond (.t 10) (.seq (.line [⟨(some 2), none, .move (.c (.bool false))⟩])
  .ret) .skip))
 (.seq (.line [⟨(some 12), none, .move (.t 0)⟩, ⟨(some 13), none, .call (.c (.func (.func 24) #[] #[])) [(.t 12)]⟩, ⟨(some 11), none, .move (.t 13)⟩, ⟨(some 14), none, .ext (.t 11) 0⟩, ⟨(some 15), none, .ext (.t 11) 1⟩, ⟨(some 3), none, .alloc 0 [(.slice none 0 0)]⟩, ⟨none, none, .store (some 1) (.t 3) (.t 14)⟩, ⟨(some 4), none, .move (.t 15)⟩])
 (.seq (.line [⟨(some 17), none, .move (.t 0)⟩, ⟨(some 18), none, .call (.c (.func (.func 25) #[] #[])) [(.t 17)]⟩, ⟨(some 16), none, .move (.t 18)⟩, ⟨(some 19), none, .ext (.t 16) 0⟩, ⟨(some 20), none, .ext (.t 16) 1⟩, ⟨(some 5), none, .alloc 0 [(.slice none 0 0)]⟩, ⟨none, none, .store (some 1) (.t 5) (.t 19)⟩, ⟨(some 6), none, .move (.t 20)⟩])
 (.seq (.seq (.line [⟨(some 21), none, .move (.t 4)⟩, ⟨(some 22), none, .move (.t 6)⟩, ⟨(some 23), none, .bin .neq (some .int) (.t 21) (.t 22)⟩, ⟨(some 24), none, .move (.t 23)⟩, ⟨(some 25), (some (24, false)), .load (some 1) (.t 3)⟩, ⟨(some 26), (some (24, false)), .load (some 1) (.t 5)⟩, ⟨(some 27), (some (24, false)), .call (.c (.func (.func 13) #[] #[])) [(.t 25), (.t 26)]⟩, ⟨(some 28), (some (24, false)), .un .not (.t 27)⟩, ⟨(some 29), none, .pick (.t 24) (.c (.bool true)) (.t 28)⟩])
 (.cond (.t 29) (.seq (.line [⟨(some 2), none, .move (.c (.bool false))⟩])
  .ret) .skip))
 (.seq (.line [⟨(some 31), none, .load (some 1) (.t 3)⟩, ⟨(some 32), none, .call (.c (.func (.func 26) #[] #[])) [(.t 31)]⟩, ⟨(some 30), none, .move (.t 32)⟩, ⟨(some 33), none, .ext (.t 30) 0⟩, ⟨(some 34), none, .ext (.t 30) 1⟩, ⟨(some 7), none, .move (.t 33)⟩, ⟨(some 8), none, .move (.t 34)⟩])
 (.seq (.line [⟨(some 35), none, .move (.t 4)⟩, ⟨(some 36), none, .bin .neq (some .int) (.t 35) (.c (.int .i64 0))⟩, ⟨(some 37), none, .move (.t 36)⟩, ⟨(some 38), (some (37, false)), .move (.t 7)⟩, ⟨(some 39), (some (37, false)), .move (.t 0)⟩, ⟨(some 40), (some (37, false)), .bin .eql (some .str) (.t 38) (.t 39)⟩, ⟨(some 41), (some (37, false)), .move (.t 40)⟩, ⟨(some 42), (some (41, true)), .move (.t 8)⟩, ⟨(some 43), (some (41, true)), .bin .eql (some .int) (.t 42) (.c (.int .i64 0))⟩, ⟨(some 44), (some (37, false)), .pick (.t 41) (.t 43) (.c (.bool false))⟩, ⟨(some 45), none, .pick (.t 37) (.c (.bool true)) (.t 44)⟩, ⟨(some 2), none, .move (.t 45)⟩])
 .ret)))))))⟩
/-- captioner/captionerlaw09.StyleTexts -/
def g7 : GFun := ⟨45, [.tmp 2],
 (.seq (.line [⟨(some 1), none, .box (.t 0)⟩, ⟨(some 2), none, .move (.c (.bool false))⟩])
 (.seq (.seq (.line [⟨(some 9), none, .call (.c (.func (.func 10) #[] #[])) []⟩, ⟨(some 10), none, .un .not (.t 9)⟩])
 (.cond (.t 10) (.seq (.line [⟨(some 2), none, .move (.c (.bool false))⟩])
  .ret) .skip))
 (.seq (.line [⟨(some 12), none, .load (some 1) (.t 1)⟩, ⟨(some 13), none, .call (.c (.func (.func 26) #[] #[])) [(.t 12)]⟩, ⟨(some 11), none, .move (.t 13)⟩, ⟨(some 14), none, .ext (.t 11) 0⟩, ⟨(some 15), none, .ext (.t 11) 1⟩, ⟨(some 3), none, .move (.t 14)⟩, ⟨(some 4), none, .move (.t 15)⟩])
 (.seq (.line [⟨(some 17), none, .load (some 1) (.t 1)⟩, ⟨(some 18), none, .call (.c (.func (.func 27) #[] #[])) [(.t 17)]⟩, ⟨(some 16), none, .move (.t 18)⟩, ⟨(some 19), none, .ext (.t 16) 0⟩, ⟨(some 20), none, .ext (.t 16) 1⟩, ⟨(some 5), none, .move (.t 19)⟩, ⟨(some 6), none, .move (.t 20)⟩])
 (.seq (.seq (.line [⟨(some 21), none, .move (.t 3)⟩, ⟨(some 22), none, .move (.t 5)⟩, ⟨(some 23), none, .bin .neq (some .str) (.t 21) (.t 22)⟩, ⟨(some 24), none, .move (.t 23)⟩, ⟨(some 25), (some (24, false)), .move (.t 4)⟩, ⟨(some 26), (some (24, false)), .move (.t 6)⟩, ⟨(some 27), (some (24, false)), .bin .neq (some .int) (.t 25) (.t 26)⟩, ⟨(some 28), none, .pick (.t 24) (.c (.bool true)) (.t 27)⟩])
 (.cond (.t 28) (.seq (.line [⟨(some 2), none, .move (.c (.bool false))⟩])
  .ret) .skip))
 (.seq (.seq (.line [⟨(some 29), none, .move (.t 4)⟩, ⟨(some 30), none, .bin .neq (some .int) (.t 29) (.c (.int .i64 0))⟩])
 (.cond (.t 30) (.seq (.line [⟨(some 31), none, .move (.t 3)⟩, ⟨(some 32), none, .bin .eql (some .str) (.t 31) (.c (.string ⟨#[]⟩))⟩, ⟨(some 2), none, .move (.t 32)⟩])
  .ret) .skip))
 (.seq (.line [⟨(some 34), none, .move (.t 3)⟩, ⟨(some 35), none, .call (.c (.func (.func 24) #[] #[])) [(.t 34)]⟩, ⟨(some 33), none, .move (.t 35)⟩, ⟨(some 36), none, .ext (.t 33) 0⟩, ⟨(some 37), none, .ext (.t 33) 1⟩, ⟨(some 7), none, .alloc 0 [(.slice none 0 0)]⟩, ⟨none, none, .store (some 1) (.t 7) (.t 36)⟩, ⟨(some 8), none, .move (.t 37)⟩])
 (.seq (.line [⟨(some 38), none, .move (.t 8)⟩, ⟨(some 39), none, .bin .eql (some .int) (.t 38) (.c (.int .i64 0))⟩, ⟨(some 40), none, .move (.t 39)⟩, ⟨(some 41), (some (40, true)), .load (some 1) (.t 7)⟩, ⟨(some 42), (some (40, true)), .load (some 1) (.t 1)⟩, ⟨(some 43), (some (40, true)), .call (.c (.func (.func 28) #[] #[])) [(.t 41), (.t 42)]⟩, ⟨(some 44), none, .pick (.t 40) (.t 43) (.c (.bool false))⟩, ⟨(some 2), none, .move (.t 44)⟩])
 .ret))))))))⟩

/-- captioner/captionerlaw09.awake -/
def g10 : GFun := ⟨96, [.tmp 0],
 (.seq (.line [⟨(some 0), none, .move (.c (.bool false))⟩])
 (.seq (.line [⟨(some 13), none, .build [(.string ⟨#[]⟩), (.int .u8 0), (.bool false), (.bool false), (.string ⟨#[]⟩)] [(0, 1, (.c (.string ⟨#[89, 101, 115, 44, 32]⟩)))]⟩, ⟨(some 14), none, .build [(.int .u8 0), (.bool false), (.bool false)] [(1, 1, (.c (.bool true)))]⟩, ⟨(some 15), none, .build [(.string ⟨#[]⟩), (.int .u8 0), (.bool false), (.bool false), (.string ⟨#[]⟩)] [(0, 1, (.c (.string ⟨#[110, 111, 119]⟩))), (1, 3, (.t 14))]⟩, ⟨(some 16), none, .buildSl 5 2 [(.string ⟨#[]⟩), (.int .u8 0), (.bool false), (.bool false), (.string ⟨#[]⟩)] [(0, 5, (.t 13)), (5, 5, (.t 15))]⟩, ⟨(some 17), none, .build [(.slice none 0 0)] [(0, 1, (.t 16))]⟩, ⟨(some 18), none, .call (.c (.func (.func 26) #[] #[])) [(.t 17)]⟩, ⟨(some 12), none, .move (.t 18)⟩, ⟨(some 19), none, .ext (.t 12) 0⟩, ⟨(some 20), none, .ext (.t 12) 1⟩, ⟨(some 1), none, .move (.t 19)⟩, ⟨(some 2), none, .move (.t 20)⟩])
 (.seq (.line [⟨(some 22), none, .build [(.int .u8 0), (.bool false), (.bool false)] [(0, 1, (.c (.int .u8 1)))]⟩, ⟨(some 23), none, .build [(.string ⟨#[]⟩), (.int .u8 0), (.bool false), (.bool false), (.string ⟨#[]⟩)] [(0, 1, (.c (.string ⟨#[65]⟩))), (1, 3, (.t 22)), (4, 1, (.c (.string ⟨#[120]⟩)))]⟩, ⟨(some 24), none, .buildSl 5 1 [(.string ⟨#[]⟩), (.int .u8 0), (.bool false), (.bool false), (.string ⟨#[]⟩)] [(0, 5, (.t 23))]⟩, ⟨(some 25), none, .build [(.slice none 0 0)] [(0, 1, (.t 24))]⟩, ⟨(some 26), none, .call (.c (.func (.func 26) #[] #[])) [(.t 25)]⟩, ⟨(some 21), none, .move (.t 26)⟩, ⟨(some 27), none, .ext (.t 21) 0⟩, ⟨(some 28), none, .ext (.t 21) 1⟩, ⟨(some 3), none, .move (.t 27)⟩, ⟨(some 4), none, .move (.t 28)⟩])
 (.seq (.line [⟨(some 30), none, .call (.c (.func (.func 24) #[] #[])) [(.c (.string ⟨#[123, 125, 65]⟩))]⟩, ⟨(some 29), none, .move (.t 30)⟩, ⟨(some 31), none, .ext (.t 29) 0⟩, ⟨(some 32), none, .ext (.t 29) 1⟩, ⟨(some 5), none, .alloc 0 [(.slice none 0 0)]⟩, ⟨none, none, .store (some 1) (.t 5) (.t 31)⟩, ⟨(some 6), none, .move (.t 32)⟩])
 (.seq (.line [⟨(some 34), none, .call (.c (.func (.func 24) #[] #[])) [(.c (.string ⟨#[123, 117, 105, 125, 65]⟩))]⟩, ⟨(some 33), none, .move (.t 34)⟩, ⟨(some 35), none, .ext (.t 33) 0⟩, ⟨(some 36), none, .ext (.t 33) 1⟩, ⟨(some 7), none, .alloc 0 [(.slice none 0 0)]⟩, ⟨none, none, .store (some 1) (.t 7) (.t 35)⟩, ⟨(some 8), none, .move (.t 36)⟩])
 (.seq (.line [⟨(some 38), none, .call (.c (.func (.func 24) #[] #[])) [(.c (.string ⟨#[]⟩))]⟩, ⟨(some 37), none, .move (.t 38)⟩, ⟨(some 39), none, .ext (.t 37) 0⟩, ⟨(some 40), none, .ext (.t 37) 1⟩, ⟨(some 9), none, .alloc 0 [(.slice none 0 0)]⟩, ⟨none, none, .store (some 1) (.t 9) (.t 39)⟩, ⟨(some 10), none, .move (.t 40)⟩])
 (.seq (.line [⟨(some 41), none, .build [(.int .u8 0), (.bool false), (.bool false)] [(0, 1, (.c (.int .u8 4)))]⟩, ⟨(some 42), none, .call (.c (.func (.func 40) #[] #[])) [(.c (.string ⟨#[97, 98, 99]⟩)), (.t 41)]⟩, ⟨(some 11), none, .alloc 0 [(.slice none 0 0)]⟩, ⟨none, none, .store (some 1) (.t 11) (.t 42)⟩])
 (.seq (.line [⟨(some 43), none, .move (.t 1)⟩, ⟨(some 44), none, .bin .eql (some .str) (.t 43) (.c (.string ⟨#[89, 101, 115, 44, 32, 123, 105, 125, 110, 111, 119]⟩))⟩, ⟨(some 45), none, .move (.t 44)⟩, ⟨(some 46), (some (45, true)), .move (.t 2)⟩, ⟨(some 47), (some (45, true)), .bin .eql (some .int) (.t 46) (.c (.int .i64 0))⟩, ⟨(some 48), none, .pick (.t 45) (.t 47) (.c (.bool false))⟩, ⟨(some 49), none, .move (.t 48)⟩, ⟨(some 50), (some (49, true)), .move (.t 3)⟩, ⟨(some 51), (some (49, true)), .bin .eql (some .str) (.t 50) (.c (.string ⟨#[123, 103, 58, 120, 125, 65]⟩))⟩, ⟨(some 52), none, .pick (.t 49) (.t 51) (.c (.bool false))⟩, ⟨(some 53), none, .move (.t 52)⟩, ⟨(some 54), (some (53, true)), .move (.t 4)⟩, ⟨(some 55), (some (53, true)), .bin .eql (some .int) (.t 54) (.c (.int .i64 0))⟩, ⟨(some 56), none, .pick (.t 53) (.t 55) (.c (.bool false))⟩, ⟨(some 57), none, .move (.t 56)⟩, ⟨(some 58), (some (57, true)), .move (.t 6)⟩, ⟨(some 59), (some (57, true)), .bin .eql (some .int) (.t 58) (.c (.int .i64 4))⟩, ⟨(some 60), none, .pick (.t 57) (.t 59) (.c (.bool false))⟩, ⟨(some 61), none, .move (.t 60)⟩, ⟨(some 62), (some (61, true)), .move (.t 8)⟩, ⟨(some 63), (some (61, true)), .bin .eql (some .int) (.t 62) (.c (.int .i64 4))⟩, ⟨(some 64), none, .pick (.t 61) (.t 63) (.c (.bool false))⟩, ⟨(some 65), none, .move (.t 64)⟩, ⟨(some 66), (some (65, true)), .fa 0 (.t 9)⟩, ⟨(some 67), (some (65, true)), .load none (.t 66)⟩, ⟨(some 68), (some (65, true)), .len false (.t 67)⟩, ⟨(some 69), (some (65, true)), .bin .eql (some .int) (.t 68) (.c (.int .i64 0))⟩, ⟨(some 70), none, .pick (.t 65) (.t 69) (.c (.bool false))⟩, ⟨(some 71), none, .move (.t 70)⟩, ⟨(some 72), (some (71, true)), .move (.t 10)⟩, ⟨(some 73), (some (71, true)), .bin .eql (some .int) (.t 72) (.c (.int .i64 0))⟩, ⟨(some 74), none, .pick (.t 71) (.t 73) (.c (.bool false))⟩, ⟨(some 75), none, .move (.t 74)⟩, ⟨(some 76), (some (75, true)), .load (some 1) (.t 11)⟩, ⟨(some 77), (some (75, true)), .call (.c (.func (.func 16) #[] #[])) [(.t 76), (.c (.int .i64 1)), (.c (.int .i64 2)), (.c (.string ⟨#[88]⟩))]⟩, ⟨(some 78), (some (75, true)), .call (.c (.func (.func 23) #[] #[])) [(.t 77)]⟩, ⟨(some 79), (some (75, true)), .bin .eql (some .str) (.t 78) (.c (.string ⟨#[97, 88, 99]⟩))⟩, ⟨(some 80), none, .pick (.t 75) (.t 79) (.c (.bool false))⟩, ⟨(some 81), none, .move (.t 80)⟩, ⟨(some 82), (some (81, true)), .load (some 1) (.t 11)⟩, ⟨(some 83), (some (81, true)), .call (.c (.func (.func 16) #[] #[])) [(.t 82), (.c (.int .i64 1)), (.c (.int .i64 2)), (.c (.string ⟨#[88]⟩))]⟩, ⟨(some 84), (some (81, true)), .fld 0 none (.t 83)⟩, ⟨(some 85), (some (81, true)), .len false (.t 84)⟩, ⟨(some 86), (some (81, true)), .bin .eql (some .int) (.t 85) (.c (.int .i64 1))⟩, ⟨(some 87), none, .pick (.t 81) (.t 86) (.c (.bool false))⟩, ⟨(some 88), none, .move (.t 87)⟩, ⟨(some 89), (some (88, true)), .load (some 1) (.t 11)⟩, ⟨(some 90), (some (88, true)), .build [(.int .u8 0), (.bool false), (.bool false)] []⟩, ⟨(some 91), (some (88, true)), .call (.c (.func (.func 18) #[] #[])) [(.t 89), (.c (.int .i64 1)), (.c (.int .i64 2)), (.t 90)]⟩, ⟨(some 92), (some (88, true)), .fld 0 none (.t 91)⟩, ⟨(some 93), (some (88, true)), .len false (.t 92)⟩, ⟨(some 94), (some (88, true)), .bin .eql (some .int) (.t 93) (.c (.int .i64 3))⟩, ⟨(some 95), none, .pick (.t 88) (.t 94) (.c (.bool false))⟩, ⟨(some 0), none, .move (.t 95)⟩])
 .ret))))))))⟩
/-- captioner/style.At -/
def g11 : GFun := ⟨45, [.tmp 4, .cell 5 (some 3), .tmp 6],
 (.seq (.line [⟨(some 2), none, .box (.t 0)⟩, ⟨(some 4), none, .move (.c (.int .i32 0))⟩, ⟨(some 5), none, .alloc 0 [(.int .u8 0), (.bool false), (.bool false)]⟩, ⟨(some 6), none, .move (.c (.bool false))⟩])
 (.seq (.seq (.line [⟨(some 10), none, .move (.t 1)⟩, ⟨(some 11), none, .bin .lss none (.t 10) (.c (.int .i64 0))⟩, ⟨(some 12), none, .move (.t 11)⟩, ⟨(some 13), (some (12, false)), .move (.t 1)⟩, ⟨(some 14), (some (12, false)), .load (some 1) (.t 2)⟩, ⟨(some 15), (some (12, false)), .call (.c (.func (.func 22) #[] #[])) [(.t 14)]⟩, ⟨(some 16), (some (12, false)), .bin .geq none (.t 13) (.t 15)⟩, ⟨(some 17), none, .pick (.t 12) (.c (.bool true)) (.t 16)⟩])
 (.cond (.t 17) (.seq (.line [⟨(some 18), none, .build [(.int .u8 0), (.bool false), (.bool false)] []⟩, ⟨(some 4), none, .move (.c (.int .i32 0))⟩, ⟨none, none, .store (some 3) (.t 5) (.t 18)⟩, ⟨(some 6), none, .move (.c (.bool false))⟩])
  .ret) .skip))
 (.seq (.seq (.line [⟨(some 19), none, .fa 0 (.t 2)⟩, ⟨(some 20), none, .load none (.t 19)⟩, ⟨(some 21), none, .len false (.t 20)⟩, ⟨(some 22), none, .move (.c (.int .i64 0))⟩])
 (.block 0 (.loop (.seq (.line [⟨(some 23), none, .bin .lss none (.t 22) (.t 21)⟩])
   (.seq (.cond (.t 23) .skip (.exit 0))
   (.seq (.block 1 (.seq (.line [⟨(some 24), none, .ia none 5 (.t 20) (.t 22)⟩, ⟨(some 25), none, .load (some 5) (.t 24)⟩, ⟨(some 8), none, .alloc 0 [(.string ⟨#[]⟩), (.int .u8 0), (.bool false), (.bool false), (.string ⟨#[]⟩)]⟩, ⟨none, none, .store (some 5) (.t 8) (.t 25)⟩])
    (.seq (.line [⟨(some 26), none, .fa 0 (.t 8)⟩, ⟨(some 27), none, .load none (.t 26)⟩, ⟨(some 28), none, .call (.c (.func (.func 43) #[] #[])) [(.t 27)]⟩, ⟨(some 9), none, .move (.t 28)⟩])
    (.seq (.seq (.line [⟨(some 29), none, .move (.t 1)⟩, ⟨(some 30), none, .move (.t 9)⟩, ⟨(some 31), none, .len false (.t 30)⟩, ⟨(some 32), none, .bin .lss none (.t 29) (.t 31)⟩])
    (.cond (.t 32) (.seq (.any [] [⟨(some 33), none, .move (.t 9)⟩, ⟨(some 34), none, .move (.t 1)⟩, ⟨(some 35), none, .ia none 1 (.t 33) (.t 34)⟩, ⟨(some 36), none, .load none (.t 35)⟩, ⟨(some 37), none, .fa 1 (.t 8)⟩, ⟨(some 38), none, .load (some 3) (.t 37)⟩, ⟨(some 4), none, .move (.t 36)⟩] [(false, ⟨none, none, .store (some 3) (.t 5) (.t 38)⟩), (false, ⟨(some 6), none, .move (.c (.bool true))⟩)])
     .ret) .skip))
    (.line [⟨(some 39), none, .move (.t 1)⟩, ⟨(some 40), none, .move (.t 9)⟩, ⟨(some 41), none, .len false (.t 40)⟩, ⟨(some 42), none, .bin .sub none (.t 39) (.t 41)⟩, ⟨(some 1), none, .move (.t 42)⟩])))))
   (.line [⟨(some 43), none, .bin .add none (.t 22) (.c (.int .i64 1))⟩, ⟨(some 22), none, .move (.t 43)⟩])))))))
 (.seq (.line [⟨(some 44), none, .build [(.int .u8 0), (.bool false), (.bool false)] []⟩, ⟨(some 4), none, .move (.c (.int .i32 0))⟩, ⟨none, none, .store (some 3) (.t 5) (.t 44)⟩, ⟨(some 6), none, .move (.c (.bool false))⟩])
 .ret))))⟩
/-- captioner/captionerref09.At -/
def g12 : GFun := ⟨45, [.tmp 4, .cell 5 (some 3), .tmp 6],
 (.seq (.line [⟨(some 2), none, .box (.t 0)⟩, ⟨(some 4), none, .move (.c (.int .i32 0))⟩, ⟨(some 5), none, .alloc 0 [(.int .u8 0), (.bool false), (.bool false)]⟩, ⟨(some 6), none, .move (.c (.bool false))⟩])
 (.seq (.seq (.line [⟨(some 10), none, .move (.t 1)⟩, ⟨(some 11), none, .bin .lss none (.t 10) (.c (.int .i64 0))⟩, ⟨(some 12), none, .move (.t 11)⟩, ⟨(some 13), (some (12, false)), .move (.t 1)⟩, ⟨(some 14), (some (12, false)), .load (some 1) (.t 2)⟩, ⟨(some 15), (some (12, false)), .call (.c (.func (.func 37) #[] #[])) [(.t 14)]⟩, ⟨(some 16), (some (12, false)), .bin .geq none (.t 13) (.t 15)⟩, ⟨(some 17), none, .pick (.t 12) (.c (.bool true)) (.t 16)⟩])
 (.cond (.t 17) (.seq (.line [⟨(some 18), none, .build [(.int .u8 0), (.bool false), (.bool false)] []⟩, ⟨(some 4), none, .move (.c (.int .i32 0))⟩, ⟨none, none, .store (some 3) (.t 5) (.t 18)⟩, ⟨(some 6), none, .move (.c (.bool false))⟩])
  .ret) .skip))
 (.seq (.seq (.line [⟨(some 19), none, .fa 0 (.t 2)⟩, ⟨(some 20), none, .load none (.t 19)⟩, ⟨(some 21), none, .len false (.t 20)⟩, ⟨(some 22), none, .move (.c (.int .i64 0))⟩])
 (.block 0 (.loop (.seq (.line [⟨(some 23), none, .bin .lss none (.t 22) (.t 21)⟩])
   (.seq (.cond (.t 23) .skip (.exit 0))
   (.seq (.block 1 (.seq (.line [⟨(some 24), none, .ia none 5 (.t 20) (.t 22)⟩, ⟨(some 25), none, .load (some 5) (.t 24)⟩, ⟨(some 8), none, .alloc 0 [(.string ⟨#[]⟩), (.int .u8 0), (.bool false), (.bool false), (.string ⟨#[]⟩)]⟩, ⟨none, none, .store (some 5) (.t 8) (.t 25)⟩])
    (.seq (.line [⟨(some 26), none, .fa 0 (.t 8)⟩, ⟨(some 27), none, .load none (.t 26)⟩, ⟨(some 28), none, .call (.c (.func (.func 44) #[] #[])) [(.t 27)]⟩, ⟨(some 9), none, .move (.t 28)⟩])
    (.seq (.seq (.line [⟨(some 29), none, .move (.t 1)⟩, ⟨(some 30), none, .move (.t 9)⟩, ⟨(some 31), none, .len false (.t 30)⟩, ⟨(some 32), none, .bin .lss none (.t 29) (.t 31)⟩])
    (.cond (.t 32) (.seq (.any [] [⟨(some 33), none, .move (.t 9)⟩, ⟨(some 34), none, .move (.t 1)⟩, ⟨(some 35), none, .ia none 1 (.t 33) (.t 34)⟩, ⟨(some 36), none, .load none (.t 35)⟩, ⟨(some 37), none, .fa 1 (.t 8)⟩, ⟨(some 38), none, .load (some 3) (.t 37)⟩, ⟨(some 4), none, .move (.t 36)⟩] [(false, ⟨none, none, .store (some 3) (.t 5) (.t 38)⟩), (false, ⟨(some 6), none, .move (.c (.bool true))⟩)])
     .ret) .skip))
    (.line [⟨(some 39), none, .move (.t 1)⟩, ⟨(some 40), none, .move (.t 9)⟩, ⟨(some 41), none, .len false (.t 40)⟩, ⟨(some 42), none, .bin .sub none (.t 39) (.t 41)⟩, ⟨(some 1), none, .move (.t 42)⟩])))))
   (.line [⟨(some 43), none, .bin .add none (.t 22) (.c (.int .i64 1))⟩, ⟨(some 22), none, .move (.t 43)⟩])))))))
 (.seq (.line [⟨(some 44), none, .build [(.int .u8 0), (.bool false), (.bool false)] []⟩, ⟨(some 4), none, .move (.c (.int .i32 0))⟩, ⟨none, none, .store (some 3) (.t 5) (.t 44)⟩, ⟨(some 6), none, .move (.c (.bool false))⟩])
 .ret))))⟩
/-- captioner/captionerref09.Same -/
def g13 : GFun := ⟨31, [.tmp 4],
 (.seq (.line [⟨(some 2), none, .box (.t 0)⟩, ⟨(some 3), none, .box (.t 1)⟩, ⟨(some 4), none, .move (.c (.bool false))⟩])
 (.seq (.seq (.line [⟨(some 6), none, .fa 0 (.t 2)⟩, ⟨(some 7), none, .load none (.t 6)⟩, ⟨(some 8), none, .len false (.t 7)⟩, ⟨(some 9), none, .fa 0 (.t 3)⟩, ⟨(some 10), none, .load none (.t 9)⟩, ⟨(some 11), none, .len false (.t 10)⟩, ⟨(some 12), none, .bin .neq (some .int) (.t 8) (.t 11)⟩])
 (.cond (.t 12) (.seq (.line [⟨(some 4), none, .move (.c (.bool false))⟩])
  .ret) .skip))
 (.seq (.seq (.line [⟨(some 13), none, .fa 0 (.t 2)⟩, ⟨(some 14), none, .load none (.t 13)⟩, ⟨(some 15), none, .len false (.t 14)⟩, ⟨(some 16), none, .move (.c (.int .i64 0))⟩])
 (.block 0 (.loop (.seq (.line [⟨(some 17), none, .bin .lss none (.t 16) (.t 15)⟩])
   (.seq (.cond (.t 17) .skip (.exit 0))
   (.seq (.block 1 (.seq (.line [⟨(some 18), none, .move (.t 16)⟩, ⟨(some 5), none, .move (.t 18)⟩])
    (.seq (.any [] [⟨(some 19), none, .fa 0 (.t 2)⟩, ⟨(some 20), none, .load none (.t 19)⟩, ⟨(some 21), none, .move (.t 5)⟩, ⟨(some 22), none, .ia none 5 (.t 20) (.t 21)⟩, ⟨(some 23), none, .load (some 5) (.t 22)⟩, ⟨(some 24), none, .fa 0 (.t 3)⟩, ⟨(some 25), none, .load none (.t 24)⟩, ⟨(some 26), none, .move (.t 5)⟩, ⟨(some 27), none, .ia none 5 (.t 25) (.t 26)⟩, ⟨(some 28), none, .load (some 5) (.t 27)⟩, ⟨(some 29), none, .bin .neq (some (.parts [(0, none, .str), (1, (some 3), (.parts [(0, none, .int), (1, none, .bool), (2, none, .bool)])), (4, none, .str)])) (.t 23) (.t 28)⟩] [])
    (.cond (.t 29) (.seq (.line [⟨(some 4), none, .move (.c (.bool false))⟩])
     .ret) .skip))))
   (.line [⟨(some 30), none, .bin .add none (.t 16) (.c (.int .i64 1))⟩, ⟨(some 16), none, .move (.t 30)⟩])))))))
 (.seq (.line [⟨(some 4), none, .move (.c (.bool true))⟩])
 .ret))))⟩
/-- captioner/style.Slice -/
def g14 : GFun := ⟨70, [.cell 6 (some 1)],
 (.seq (.line [⟨(some 3), none, .box (.t 0)⟩, ⟨(some 6), none, .alloc 0 [(.slice none 0 0)]⟩])
 (.seq (.line [⟨(some 15), none, .load (some 1) (.t 3)⟩, ⟨(some 16), none, .call (.c (.func (.func 22) #[] #[])) [(.t 15)]⟩, ⟨(some 17), none, .max (.t 16) [(.c (.int .i64 0))]⟩, ⟨(some 18), none, .move (.t 1)⟩, ⟨(some 19), none, .move (.t 2)⟩, ⟨(some 20), none, .call (.c (.func (.func 45) #[] #[])) [(.t 17), (.t 18), (.t 19)]⟩, ⟨(some 14), none, .move (.t 20)⟩, ⟨(some 21), none, .ext (.t 14) 0⟩, ⟨(some 22), none, .ext (.t 14) 1⟩, ⟨(some 1), none, .move (.t 21)⟩, ⟨(some 2), none, .move (.t 22)⟩])
 (.seq (.seq (.line [⟨(some 23), none, .load (some 1) (.t 3)⟩, ⟨(some 24), none, .call (.c (.func (.func 22) #[] #[])) [(.t 23)]⟩, ⟨(some 25), none, .bin .lss none (.t 24) (.c (.int .i64 0))⟩])
 (.cond (.t 25) (.seq (.line [⟨(some 26), none, .build [(.slice none 0 0)] []⟩, ⟨none, none, .store (some 1) (.t 6) (.t 26)⟩])
  .ret) .skip))
 (.seq (.line [⟨(some 7), none, .move (.c (.slice none 0 0))⟩])
 (.seq (.line [⟨(some 8), none, .move (.c (.int .i64 0))⟩])
 (.seq (.seq (.line [⟨(some 27), none, .fa 0 (.t 3)⟩, ⟨(some 28), none, .load none (.t 27)⟩, ⟨(some 29), none, .len false (.t 28)⟩, ⟨(some 30), none, .move (.c (.int .i64 0))⟩])
 (.block 0 (.loop (.seq (.line [⟨(some 31), none, .bin .lss none (.t 30) (.t 29)⟩])
   (.seq (.cond (.t 31) .skip (.exit 0))
   (.seq (.block 1 (.seq (.line [⟨(some 32), none, .ia none 5 (.t 28) (.t 30)⟩, ⟨(some 33), none, .load (some 5) (.t 32)⟩, ⟨(some 10), none, .alloc 0 [(.string ⟨#[]⟩), (.int .u8 0), (.bool false), (.bool false), (.string ⟨#[]⟩)]⟩, ⟨none, none, .store (some 5) (.t 10) (.t 33)⟩])
    (.seq (.line [⟨(some 34), none, .fa 0 (.t 10)⟩, ⟨(some 35), none, .load none (.t 34)⟩, ⟨(some 36), none, .call (.c (.func (.func 46) #[] #[])) [(.t 35)]⟩, ⟨(some 11), none, .move (.t 36)⟩])
    (.seq (.line [⟨(some 38), none, .move (.t 11)⟩, ⟨(some 39), none, .move (.t 1)⟩, ⟨(some 40), none, .move (.t 8)⟩, ⟨(some 41), none, .bin .sub none (.t 39) (.t 40)⟩, ⟨(some 42), none, .move (.t 2)⟩, ⟨(some 43), none, .move (.t 8)⟩, ⟨(some 44), none, .bin .sub none (.t 42) (.t 43)⟩, ⟨(some 45), none, .call (.c (.func (.func 45) #[] #[])) [(.t 38), (.t 41), (.t 44)]⟩, ⟨(some 37), none, .move (.t 45)⟩, ⟨(some 46), none, .ext (.t 37) 0⟩, ⟨(some 47), none, .ext (.t 37) 1⟩, ⟨(some 12), none, .move (.t 46)⟩, ⟨(some 13), none, .move (.t 47)⟩])
    (.seq (.seq (.line [⟨(some 48), none, .move (.t 13)⟩, ⟨(some 49), none, .move (.t 12)⟩, ⟨(some 50), none, .bin .sub none (.t 48) (.t 49)⟩, ⟨(some 51), none, .move (.t 11)⟩, ⟨(some 52), none, .bin .lss none (.t 50) (.t 51)⟩])
    (.cond (.t 52) (.line [⟨(some 53), none, .fa 4 (.t 10)⟩, ⟨none, none, .store none (.t 53) (.c (.string ⟨#[]⟩))⟩]) .skip))
    (.seq (.line [⟨(some 54), none, .fa 0 (.t 10)⟩, ⟨(some 55), none, .load none (.t 54)⟩, ⟨(some 56), none, .move (.t 12)⟩, ⟨(some 57), none, .move (.t 13)⟩, ⟨(some 58), none, .call (.c (.func (.func 47) #[] #[])) [(.t 55), (.t 56), (.t 57)]⟩, ⟨(some 59), none, .fa 0 (.t 10)⟩, ⟨none, none, .store none (.t 59) (.t 58)⟩])
    (.seq (.line [⟨(some 60), none, .move (.t 7)⟩, ⟨(some 61), none, .load (some 5) (.t 10)⟩, ⟨(some 62), none, .buildSl 5 1 [(.string ⟨#[]⟩), (.int .u8 0), (.bool false), (.bool false), (.string ⟨#[]⟩)] [(0, 5, (.t 61))]⟩, ⟨(some 63), none, .app 5 40 5 (.t 60) (.t 62)⟩, ⟨(some 7), none, .move (.t 63)⟩])
    (.line [⟨(some 64), none, .move (.t 8)⟩, ⟨(some 65), none, .move (.t 11)⟩, ⟨(some 66), none, .bin .add none (.t 64) (.t 65)⟩, ⟨(some 8), none, .move (.t 66)⟩]))))))))
   (.line [⟨(some 67), none, .bin .add none (.t 30) (.c (.int .i64 1))⟩, ⟨(some 30), none, .move (.t 67)⟩])))))))
 (.seq (.line [⟨(some 68), none, .move (.t 7)⟩, ⟨(some 69), none, .call (.c (.func (.func 48) #[] #[])) [(.t 68)]⟩, ⟨none, none, .store (some 1) (.t 6) (.t 69)⟩])
 .ret)))))))⟩
/-- captioner/captionerref09.Slice -/
def g15 : GFun := ⟨81, [.cell 6 (some 1)],
 (.seq (.line [⟨(some 3), none, .box (.t 0)⟩, ⟨(some 6), none, .alloc 0 [(.slice none 0 0)]⟩])
 (.seq (.line [⟨(some 16), none, .load (some 1) (.t 3)⟩, ⟨(some 17), none, .call (.c (.func (.func 37) #[] #[])) [(.t 16)]⟩, ⟨(some 7), none, .move (.t 17)⟩])
 (.seq (.seq (.line [⟨(some 18), none, .move (.t 7)⟩, ⟨(some 19), none, .bin .lss none (.t 18) (.c (.int .i64 0))⟩])
 (.cond (.t 19) (.seq (.line [⟨(some 20), none, .build [(.slice none 0 0)] []⟩, ⟨none, none, .store (some 1) (.t 6) (.t 20)⟩])
  .ret) .skip))
 (.seq (.line [⟨(some 21), none, .move (.t 1)⟩, ⟨(some 22), none, .max (.t 21) [(.c (.int .i64 0))]⟩, ⟨(some 23), none, .move (.t 7)⟩, ⟨(some 24), none, .min (.t 22) [(.t 23)]⟩, ⟨(some 1), none, .move (.t 24)⟩])
 (.seq (.line [⟨(some 25), none, .move (.t 2)⟩, ⟨(some 26), none, .move (.t 1)⟩, ⟨(some 27), none, .max (.t 25) [(.t 26)]⟩, ⟨(some 28), none, .move (.t 7)⟩, ⟨(some 29), none, .min (.t 27) [(.t 28)]⟩, ⟨(some 2), none, .move (.t 29)⟩])
 (.seq (.line [⟨(some 8), none, .move (.c (.slice none 0 0))⟩])
 (.seq (.line [⟨(some 9), none, .move (.c (.int .i64 0))⟩])
 (.seq (.seq (.line [⟨(some 30), none, .fa 0 (.t 3)⟩, ⟨(some 31), none, .load none (.t 30)⟩, ⟨(some 32), none, .len false (.t 31)⟩, ⟨(some 33), none, .move (.c (.int .i64 0))⟩])
 (.block 0 (.loop (.seq (.line [⟨(some 34), none, .bin .lss none (.t 33) (.t 32)⟩])
   (.seq (.cond (.t 34) .skip (.exit 0))
   (.seq (.block 1 (.seq (.line [⟨(some 35), none, .ia none 5 (.t 31) (.t 33)⟩, ⟨(some 36), none, .load (some 5) (.t 35)⟩, ⟨(some 11), none, .alloc 0 [(.string ⟨#[]⟩), (.int .u8 0), (.bool false), (.bool false), (.string ⟨#[]⟩)]⟩, ⟨none, none, .store (some 5) (.t 11) (.t 36)⟩])
    (.seq (.line [⟨(some 37), none, .fa 0 (.t 11)⟩, ⟨(some 38), none, .load none (.t 37)⟩, ⟨(some 39), none, .call (.c (.func (.func 49) #[] #[])) [(.t 38)]⟩, ⟨(some 12), none, .move (.t 39)⟩])
    (.seq (.line [⟨(some 40), none, .move (.t 1)⟩, ⟨(some 41), none, .move (.t 9)⟩, ⟨(some 42), none, .bin .sub none (.t 40) (.t 41)⟩, ⟨(some 43), none, .max (.t 42) [(.c (.int .i64 0))]⟩, ⟨(some 44), none, .move (.t 2)⟩, ⟨(some 45), none, .move (.t 9)⟩, ⟨(some 46), none, .bin .sub none (.t 44) (.t 45)⟩, ⟨(some 47), none, .move (.t 12)⟩, ⟨(some 48), none, .min (.t 46) [(.t 47)]⟩, ⟨(some 13), none, .move (.t 43)⟩, ⟨(some 14), none, .move (.t 48)⟩])
    (.seq (.seq (.line [⟨(some 49), none, .move (.t 13)⟩, ⟨(some 50), none, .move (.t 14)⟩, ⟨(some 51), none, .bin .lss none (.t 49) (.t 50)⟩])
    (.cond (.t 51) (.seq (.any [] [⟨(some 52), none, .fa 0 (.t 11)⟩, ⟨(some 53), none, .load none (.t 52)⟩, ⟨(some 54), none, .move (.t 13)⟩, ⟨(some 55), none, .move (.t 14)⟩, ⟨(some 56), none, .call (.c (.func (.func 50) #[] #[])) [(.t 53), (.t 54), (.t 55)]⟩, ⟨(some 57), none, .fa 1 (.t 11)⟩, ⟨(some 58), none, .load (some 3) (.t 57)⟩, ⟨(some 59), none, .build [(.string ⟨#[]⟩), (.int .u8 0), (.bool false), (.bool false), (.string ⟨#[]⟩)] [(0, 1, (.t 56)), (1, 3, (.t 58))]⟩, ⟨(some 15), none, .alloc 0 [(.string ⟨#[]⟩), (.int .u8 0), (.bool false), (.bool false), (.string ⟨#[]⟩)]⟩] [(false, ⟨none, none, .store (some 5) (.t 15) (.t 59)⟩)])
     (.seq (.seq (.line [⟨(some 60), none, .move (.t 13)⟩, ⟨(some 61), none, .bin .eql (some .int) (.t 60) (.c (.int .i64 0))⟩, ⟨(some 62), none, .move (.t 61)⟩, ⟨(some 63), (some (62, true)), .move (.t 14)⟩, ⟨(some 64), (some (62, true)), .move (.t 12)⟩, ⟨(some 65), (some (62, true)), .bin .eql (some .int) (.t 63) (.t 64)⟩, ⟨(some 66), none, .pick (.t 62) (.t 65) (.c (.bool false))⟩])
     (.cond (.t 66) (.line [⟨(some 67), none, .fa 4 (.t 11)⟩, ⟨(some 68), none, .load none (.t 67)⟩, ⟨(some 69), none, .fa 4 (.t 15)⟩, ⟨none, none, .store none (.t 69) (.t 68)⟩]) .skip))
     (.line [⟨(some 70), none, .move (.t 8)⟩, ⟨(some 71), none, .load (some 5) (.t 15)⟩, ⟨(some 72), none, .buildSl 5 1 [(.string ⟨#[]⟩), (.int .u8 0), (.bool false), (.bool false), (.string ⟨#[]⟩)] [(0, 5, (.t 71))]⟩, ⟨(some 73), none, .app 5 40 5 (.t 70) (.t 72)⟩, ⟨(some 8), none, .move (.t 73)⟩]))) .skip))
    (.line [⟨(some 74), none, .move (.t 9)⟩, ⟨(some 75), none, .move (.t 12)⟩, ⟨(some 76), none, .bin .add none (.t 74) (.t 75)⟩, ⟨(some 9), none, .move (.t 76)⟩]))))))
   (.line [⟨(some 77), none, .bin .add none (.t 33) (.c (.int .i64 1))⟩, ⟨(some 33), none, .move (.t 77)⟩])))))))
 (.seq (.line [⟨(some 78), none, .move (.t 8)⟩, ⟨(some 79), none, .build [(.slice none 0 0)] [(0, 1, (.t 78))]⟩, ⟨(some 80), none, .call (.c (.func (.func 35) #[] #[])) [(.t 79)]⟩, ⟨none, none, .store (some 1) (.t 6) (.t 80)⟩])
 .ret)))))))))⟩
/-- captioner/style.Replace -/
def g16 : GFun := ⟨59, [.cell 8 (some 1)],
 (.seq (.line [⟨(some 4), none, .box (.t 0)⟩, ⟨(some 8), none, .alloc 0 [(.slice none 0 0)]⟩])
 (.seq (.line [⟨(some 13), none, .load (some 1) (.t 4)⟩, ⟨(some 14), none, .call (.c (.func (.func 22) #[] #[])) [(.t 13)]⟩, ⟨(some 9), none, .move (.t 14)⟩])
 (.seq (.seq (.line [⟨(some 15), none, .move (.t 9)⟩, ⟨(some 16), none, .bin .lss none (.t 15) (.c (.int .i64 0))⟩, ⟨(some 17), none, .move (.t 16)⟩, ⟨(some 18), (some (17, false)), .move (.t 3)⟩, ⟨(some 19), (some (17, false)), .call (.c (.func (.func 51) #[] #[])) [(.t 18)]⟩, ⟨(some 20), (some (17, false)), .un .not (.t 19)⟩, ⟨(some 21), none, .pick (.t 17) (.c (.bool true)) (.t 20)⟩])
 (.cond (.t 21) (.seq (.line [⟨(some 22), none, .build [(.slice none 0 0)] []⟩, ⟨none, none, .store (some 1) (.t 8) (.t 22)⟩])
  .ret) .skip))
 (.seq (.line [⟨(some 24), none, .move (.t 9)⟩, ⟨(some 25), none, .move (.t 1)⟩, ⟨(some 26), none, .move (.t 2)⟩, ⟨(some 27), none, .call (.c (.func (.func 45) #[] #[])) [(.t 24), (.t 25), (.t 26)]⟩, ⟨(some 23), none, .move (.t 27)⟩, ⟨(some 28), none, .ext (.t 23) 0⟩, ⟨(some 29), none, .ext (.t 23) 1⟩, ⟨(some 1), none, .move (.t 28)⟩, ⟨(some 2), none, .move (.t 29)⟩])
 (.seq (.line [⟨(some 31), none, .load (some 1) (.t 4)⟩, ⟨(some 32), none, .move (.t 1)⟩, ⟨(some 33), none, .bin .sub none (.t 32) (.c (.int .i64 1))⟩, ⟨(some 34), none, .call (.c (.func (.func 11) #[] #[])) [(.t 31), (.t 33)]⟩, ⟨(some 30), none, .move (.t 34)⟩, ⟨(some 35), none, .ext (.t 30) 0⟩, ⟨(some 36), none, .ext (.t 30) 1⟩, ⟨(some 37), none, .ext (.t 30) 2⟩, ⟨(some 11), none, .alloc 0 [(.int .u8 0), (.bool false), (.bool false)]⟩, ⟨(some 10), none, .move (.t 35)⟩, ⟨none, none, .store (some 3) (.t 11) (.t 36)⟩, ⟨(some 12), none, .move (.t 37)⟩])
 (.seq (.seq (.line [⟨(some 38), none, .move (.t 12)⟩, ⟨(some 39), none, .un .not (.t 38)⟩])
 (.cond (.t 39) (.line [⟨(some 41), none, .load (some 1) (.t 4)⟩, ⟨(some 42), none, .move (.t 2)⟩, ⟨(some 43), none, .call (.c (.func (.func 11) #[] #[])) [(.t 41), (.t 42)]⟩, ⟨(some 40), none, .move (.t 43)⟩, ⟨(some 44), none, .ext (.t 40) 0⟩, ⟨(some 45), none, .ext (.t 40) 1⟩, ⟨(some 46), none, .ext (.t 40) 2⟩, ⟨none, none, .store (some 3) (.t 11) (.t 45)⟩]) .skip))
 (.seq (.any [] [⟨(some 47), none, .load (some 1) (.t 4)⟩, ⟨(some 48), none, .move (.t 1)⟩, ⟨(some 49), none, .call (.c (.func (.func 14) #[] #[])) [(.t 47), (.c (.int .i64 0)), (.t 48)]⟩, ⟨(some 50), none, .move (.t 3)⟩, ⟨(some 51), none, .load (some 3) (.t 11)⟩, ⟨(some 52), none, .call (.c (.func (.func 40) #[] #[])) [(.t 50), (.t 51)]⟩, ⟨(some 53), none, .call (.c (.func (.func 20) #[] #[])) [(.t 49), (.t 52)]⟩, ⟨(some 54), none, .load (some 1) (.t 4)⟩, ⟨(some 55), none, .move (.t 2)⟩, ⟨(some 56), none, .move (.t 9)⟩, ⟨(some 57), none, .call (.c (.func (.func 14) #[] #[])) [(.t 54), (.t 55), (.t 56)]⟩, ⟨(some 58), none, .call (.c (.func (.func 20) #[] #[])) [(.t 53), (.t 57)]⟩] [(false, ⟨none, none, .store (some 1) (.t 8) (.t 58)⟩)])
 .ret)))))))⟩
/-- captioner/captionerref09.Replace -/
def g17 : GFun := ⟨61, [.cell 8 (some 1)],
 (.seq (.line [⟨(some 4), none, .box (.t 0)⟩, ⟨(some 8), none, .alloc 0 [(.slice none 0 0)]⟩])
 (.seq (.line [⟨(some 13), none, .load (some 1) (.t 4)⟩, ⟨(some 14), none, .call (.c (.func (.func 37) #[] #[])) [(.t 13)]⟩, ⟨(some 9), none, .move (.t 14)⟩])
 (.seq (.seq (.line [⟨(some 15), none, .move (.t 9)⟩, ⟨(some 16), none, .bin .lss none (.t 15) (.c (.int .i64 0))⟩, ⟨(some 17), none, .move (.t 16)⟩, ⟨(some 18), (some (17, false)), .move (.t 3)⟩, ⟨(some 19), (some (17, false)), .call (.c (.func (.func 52) #[] #[])) [(.t 18)]⟩, ⟨(some 20), (some (17, false)), .un .not (.t 19)⟩, ⟨(some 21), none, .pick (.t 17) (.c (.bool true)) (.t 20)⟩])
 (.cond (.t 21) (.seq (.line [⟨(some 22), none, .build [(.slice none 0 0)] []⟩, ⟨none, none, .store (some 1) (.t 8) (.t 22)⟩])
  .ret) .skip))
 (.seq (.line [⟨(some 23), none, .move (.t 1)⟩, ⟨(some 24), none, .max (.t 23) [(.c (.int .i64 0))]⟩, ⟨(some 25), none, .move (.t 9)⟩, ⟨(some 26), none, .min (.t 24) [(.t 25)]⟩, ⟨(some 1), none, .move (.t 26)⟩])
 (.seq (.line [⟨(some 27), none, .move (.t 2)⟩, ⟨(some 28), none, .move (.t 1)⟩, ⟨(some 29), none, .max (.t 27) [(.t 28)]⟩, ⟨(some 30), none, .move (.t 9)⟩, ⟨(some 31), none, .min (.t 29) [(.t 30)]⟩, ⟨(some 2), none, .move (.t 31)⟩])
 (.seq (.line [⟨(some 33), none, .load (some 1) (.t 4)⟩, ⟨(some 34), none, .move (.t 1)⟩, ⟨(some 35), none, .bin .sub none (.t 34) (.c (.int .i64 1))⟩, ⟨(some 36), none, .call (.c (.func (.func 12) #[] #[])) [(.t 33), (.t 35)]⟩, ⟨(some 32), none, .move (.t 36)⟩, ⟨(some 37), none, .ext (.t 32) 0⟩, ⟨(some 38), none, .ext (.t 32) 1⟩, ⟨(some 39), none, .ext (.t 32) 2⟩, ⟨(some 11), none, .alloc 0 [(.int .u8 0), (.bool false), (.bool false)]⟩, ⟨(some 10), none, .move (.t 37)⟩, ⟨none, none, .store (some 3) (.t 11) (.t 38)⟩, ⟨(some 12), none, .move (.t 39)⟩])
 (.seq (.seq (.line [⟨(some 40), none, .move (.t 12)⟩, ⟨(some 41), none, .un .not (.t 40)⟩])
 (.cond (.t 41) (.line [⟨(some 43), none, .load (some 1) (.t 4)⟩, ⟨(some 44), none, .move (.t 2)⟩, ⟨(some 45), none, .call (.c (.func (.func 12) #[] #[])) [(.t 43), (.t 44)]⟩, ⟨(some 42), none, .move (.t 45)⟩, ⟨(some 46), none, .ext (.t 42) 0⟩, ⟨(some 47), none, .ext (.t 42) 1⟩, ⟨(some 48), none, .ext (.t 42) 2⟩, ⟨none, none, .store (some 3) (.t 11) (.t 47)⟩]) .skip))
 (.seq (.any [] [⟨(some 49), none, .load (some 1) (.t 4)⟩, ⟨(some 50), none, .move (.t 1)⟩, ⟨(some 51), none, .call (.c (.func (.func 15) #[] #[])) [(.t 49), (.c (.int .i64 0)), (.t 50)]⟩, ⟨(some 52), none, .move (.t 3)⟩, ⟨(some 53), none, .load (some 3) (.t 11)⟩, ⟨(some 54), none, .call (.c (.func (.func 41) #[] #[])) [(.t 52), (.t 53)]⟩, ⟨(some 55), none, .call (.c (.func (.func 21) #[] #[])) [(.t 51), (.t 54)]⟩, ⟨(some 56), none, .load (some 1) (.t 4)⟩, ⟨(some 57), none, .move (.t 2)⟩, ⟨(some 58), none, .move (.t 9)⟩, ⟨(some 59), none, .call (.c (.func (.func 15) #[] #[])) [(.t 56), (.t 57), (.t 58)]⟩, ⟨(some 60), none, .call (.c (.func (.func 21) #[] #[])) [(.t 55), (.t 59)]⟩] [(false, ⟨none, none, .store (some 1) (.t 8) (.t 60)⟩)])
 .ret))))))))⟩
/-- captioner/style.Mark -/
def g18 : GFun := ⟨51, [.cell 8 (some 1)],
 (.seq (.line [⟨(some 4), none, .box (.t 0)⟩, ⟨(some 7), none, .box (.t 3)⟩, ⟨(some 8), none, .alloc 0 [(.slice none 0 0)]⟩])
 (.seq (.line [⟨(some 12), none, .load (some 1) (.t 4)⟩, ⟨(some 13), none, .call (.c (.func (.func 22) #[] #[])) [(.t 12)]⟩, ⟨(some 9), none, .move (.t 13)⟩])
 (.seq (.seq (.line [⟨(some 14), none, .move (.t 9)⟩, ⟨(some 15), none, .bin .lss none (.t 14) (.c (.int .i64 0))⟩])
 (.cond (.t 15) (.seq (.line [⟨(some 16), none, .build [(.slice none 0 0)] []⟩, ⟨none, none, .store (some 1) (.t 8) (.t 16)⟩])
  .ret) .skip))
 (.seq (.line [⟨(some 18), none, .move (.t 9)⟩, ⟨(some 19), none, .move (.t 1)⟩, ⟨(some 20), none, .move (.t 2)⟩, ⟨(some 21), none, .call (.c (.func (.func 45) #[] #[])) [(.t 18), (.t 19), (.t 20)]⟩, ⟨(some 17), none, .move (.t 21)⟩, ⟨(some 22), none, .ext (.t 17) 0⟩, ⟨(some 23), none, .ext (.t 17) 1⟩, ⟨(some 1), none, .move (.t 22)⟩, ⟨(some 2), none, .move (.t 23)⟩])
 (.seq (.line [⟨(some 24), none, .load (some 1) (.t 4)⟩, ⟨(some 25), none, .move (.t 1)⟩, ⟨(some 26), none, .move (.t 2)⟩, ⟨(some 27), none, .call (.c (.func (.func 14) #[] #[])) [(.t 24), (.t 25), (.t 26)]⟩, ⟨(some 10), none, .alloc 0 [(.slice none 0 0)]⟩, ⟨none, none, .store (some 1) (.t 10) (.t 27)⟩])
 (.seq (.seq (.line [⟨(some 28), none, .fa 0 (.t 10)⟩, ⟨(some 29), none, .load none (.t 28)⟩, ⟨(some 30), none, .len false (.t 29)⟩, ⟨(some 31), none, .move (.c (.int .i64 0))⟩])
 (.block 0 (.loop (.seq (.line [⟨(some 32), none, .bin .lss none (.t 31) (.t 30)⟩])
   (.seq (.cond (.t 32) .skip (.exit 0))
   (.seq (.block 1 (.seq (.line [⟨(some 33), none, .move (.t 31)⟩, ⟨(some 11), none, .move (.t 33)⟩])
    (.line [⟨(some 34), none, .fa 0 (.t 10)⟩, ⟨(some 35), none, .load none (.t 34)⟩, ⟨(some 36), none, .move (.t 11)⟩, ⟨(some 37), none, .load (some 3) (.t 7)⟩, ⟨(some 38), none, .ia none 5 (.t 35) (.t 36)⟩, ⟨(some 39), none, .fa 1 (.t 38)⟩, ⟨none, none, .store (some 3) (.t 39) (.t 37)⟩])))
   (.line [⟨(some 40), none, .bin .add none (.t 31) (.c (.int .i64 1))⟩, ⟨(some 31), none, .move (.t 40)⟩])))))))
 (.seq (.any [] [⟨(some 41), none, .load (some 1) (.t 4)⟩, ⟨(some 42), none, .move (.t 1)⟩, ⟨(some 43), none, .call (.c (.func (.func 14) #[] #[])) [(.t 41), (.c (.int .i64 0)), (.t 42)]⟩, ⟨(some 44), none, .load (some 1) (.t 10)⟩, ⟨(some 45), none, .call (.c (.func (.func 20) #[] #[])) [(.t 43), (.t 44)]⟩, ⟨(some 46), none, .load (some 1) (.t 4)⟩, ⟨(some 47), none, .move (.t 2)⟩, ⟨(some 48), none, .move (.t 9)⟩, ⟨(some 49), none, .call (.c (.func (.func 14) #[] #[])) [(.t 46), (.t 47), (.t 48)]⟩, ⟨(some 50), none, .call (.c (.func (.func 20) #[] #[])) [(.t 45), (.t 49)]⟩] [(false, ⟨none, none, .store (some 1) (.t 8) (.t 50)⟩)])
 .ret)))))))⟩
/-- captioner/captionerref09.Mark -/
def g19 : GFun := ⟨55, [.cell 8 (some 1)],
 (.seq (.line [⟨(some 4), none, .box (.t 0)⟩, ⟨(some 7), none, .box (.t 3)⟩, ⟨(some 8), none, .alloc 0 [(.slice none 0 0)]⟩])
 (.seq (.line [⟨(some 13), none, .load (some 1) (.t 4)⟩, ⟨(some 14), none, .call (.c (.func (.func 37) #[] #[])) [(.t 13)]⟩, ⟨(some 9), none, .move (.t 14)⟩])
 (.seq (.seq (.line [⟨(some 15), none, .move (.t 9)⟩, ⟨(some 16), none, .bin .lss none (.t 15) (.c (.int .i64 0))⟩])
 (.cond (.t 16) (.seq (.line [⟨(some 17), none, .build [(.slice none 0 0)] []⟩, ⟨none, none, .store (some 1) (.t 8) (.t 17)⟩])
  .ret) .skip))
 (.seq (.line [⟨(some 18), none, .move (.t 1)⟩, ⟨(some 19), none, .max (.t 18) [(.c (.int .i64 0))]⟩, ⟨(some 20), none, .move (.t 9)⟩, ⟨(some 21), none, .min (.t 19) [(.t 20)]⟩, ⟨(some 1), none, .move (.t 21)⟩])
 (.seq (.line [⟨(some 22), none, .move (.t 2)⟩, ⟨(some 23), none, .move (.t 1)⟩, ⟨(some 24), none, .max (.t 22) [(.t 23)]⟩, ⟨(some 25), none, .move (.t 9)⟩, ⟨(some 26), none, .min (.t 24) [(.t 25)]⟩, ⟨(some 2), none, .move (.t 26)⟩])
 (.seq (.line [⟨(some 10), none, .move (.c (.slice none 0 0))⟩])
 (.seq (.seq (.line [⟨(some 27), none, .load (some 1) (.t 4)⟩, ⟨(some 28), none, .move (.t 1)⟩, ⟨(some 29), none, .move (.t 2)⟩, ⟨(some 30), none, .call (.c (.func (.func 15) #[] #[])) [(.t 27), (.t 28), (.t 29)]⟩, ⟨(some 31), none, .fld 0 none (.t 30)⟩, ⟨(some 32), none, .len false (.t 31)⟩, ⟨(some 33), none, .move (.c (.int .i64 0))⟩])
 (.block 0 (.loop (.seq (.line [⟨(some 34), none, .bin .lss none (.t 33) (.t 32)⟩])
   (.seq (.cond (.t 34) .skip (.exit 0))
   (.seq (.block 1 (.seq (.line [⟨(some 35), none, .ia none 5 (.t 31) (.t 33)⟩, ⟨(some 36), none, .load (some 5) (.t 35)⟩, ⟨(some 12), none, .alloc 0 [(.string ⟨#[]⟩), (.int .u8 0), (.bool false), (.bool false), (.string ⟨#[]⟩)]⟩, ⟨none, none, .store (some 5) (.t 12) (.t 36)⟩])
    (.seq (.line [⟨(some 37), none, .load (some 3) (.t 7)⟩, ⟨(some 38), none, .fa 1 (.t 12)⟩, ⟨none, none, .store (some 3) (.t 38) (.t 37)⟩])
    (.line [⟨(some 39), none, .move (.t 10)⟩, ⟨(some 40), none, .load (some 5) (.t 12)⟩, ⟨(some 41), none, .buildSl 5 1 [(.string ⟨#[]⟩), (.int .u8 0), (.bool false), (.bool false), (.string ⟨#[]⟩)] [(0, 5, (.t 40))]⟩, ⟨(some 42), none, .app 5 40 5 (.t 39) (.t 41)⟩, ⟨(some 10), none, .move (.t 42)⟩]))))
   (.line [⟨(some 43), none, .bin .add none (.t 33) (.c (.int .i64 1))⟩, ⟨(some 33), none, .move (.t 43)⟩])))))))
 (.seq (.any [] [⟨(some 44), none, .load (some 1) (.t 4)⟩, ⟨(some 45), none, .move (.t 1)⟩, ⟨(some 46), none, .call (.c (.func (.func 15) #[] #[])) [(.t 44), (.c (.int .i64 0)), (.t 45)]⟩, ⟨(some 47), none, .move (.t 10)⟩, ⟨(some 48), none, .build [(.slice none 0 0)] [(0, 1, (.t 47))]⟩, ⟨(some 49), none, .call (.c (.func (.func 21) #[] #[])) [(.t 46), (.t 48)]⟩, ⟨(some 50), none, .load (some 1) (.t 4)⟩, ⟨(some 51), none, .move (.t 2)⟩, ⟨(some 52), none, .move (.t 9)⟩, ⟨(some 53), none, .call (.c (.func (.func 15) #[] #[])) [(.t 50), (.t 51), (.t 52)]⟩, ⟨(some 54), none, .call (.c (.func (.func 21) #[] #[])) [(.t 49), (.t 53)]⟩] [(false, ⟨none, none, .store (some 1) (.t 8) (.t 54)⟩)])
 .ret))))))))⟩
/-- captioner/style.Concat -/
def g20 : GFun := ⟨12, [.cell 4 (some 1)],
 (.seq (.line [⟨(some 2), none, .box (.t 0)⟩, ⟨(some 3), none, .box (.t 1)⟩, ⟨(some 4), none, .alloc 0 [(.slice none 0 0)]⟩])
 (.seq (.line [⟨(some 5), none, .fa 0 (.t 2)⟩, ⟨(some 6), none, .load none (.t 5)⟩, ⟨(some 7), none, .fa 0 (.t 3)⟩, ⟨(some 8), none, .load none (.t 7)⟩, ⟨(some 9), none, .buildSl 1 2 [(.slice none 0 0)] [(0, 1, (.t 6)), (1, 1, (.t 8))]⟩, ⟨(some 10), none, .call (.c (.func (.func 53) #[] #[])) [(.t 9)]⟩, ⟨(some 11), none, .call (.c (.func (.func 48) #[] #[])) [(.t 10)]⟩, ⟨none, none, .store (some 1) (.t 4) (.t 11)⟩])
 .ret))⟩
/-- captioner/captionerref09.Concat -/
def g21 : GFun := ⟨14, [.cell 4 (some 1)],
 (.seq (.line [⟨(some 2), none, .box (.t 0)⟩, ⟨(some 3), none, .box (.t 1)⟩, ⟨(some 4), none, .alloc 0 [(.slice none 0 0)]⟩])
 (.seq (.any [] [⟨(some 5), none, .buildSl 5 0 [(.string ⟨#[]⟩), (.int .u8 0), (.bool false), (.bool false), (.string ⟨#[]⟩)] []⟩, ⟨(some 6), none, .fa 0 (.t 2)⟩, ⟨(some 7), none, .load none (.t 6)⟩, ⟨(some 8), none, .appM 5 40 5 (.t 5) (.t 7)⟩, ⟨(some 9), none, .fa 0 (.t 3)⟩, ⟨(some 10), none, .load none (.t 9)⟩] [(false, ⟨(some 11), none, .app 5 40 5 (.t 8) (.t 10)⟩), (false, ⟨(some 12), none, .build [(.slice none 0 0)] [(0, 1, (.t 11))]⟩), (false, ⟨(some 13), none, .call (.c (.func (.func 35) #[] #[])) [(.t 12)]⟩), (false, ⟨none, none, .store (some 1) (.t 4) (.t 13)⟩)])
 .ret))⟩
/-- captioner/style.Len -/
def g22 : GFun := ⟨24, [.tmp 2],
 (.seq (.line [⟨(some 1), none, .box (.t 0)⟩, ⟨(some 2), none, .move (.c (.int .i64 0))⟩])
 (.seq (.line [⟨(some 3), none, .move (.c (.int .i64 0))⟩])
 (.seq (.seq (.line [⟨(some 7), none, .fa 0 (.t 1)⟩, ⟨(some 8), none, .load none (.t 7)⟩, ⟨(some 9), none, .len false (.t 8)⟩, ⟨(some 10), none, .move (.c (.int .i64 0))⟩])
 (.block 0 (.loop (.seq (.line [⟨(some 11), none, .bin .lss none (.t 10) (.t 9)⟩])
   (.seq (.cond (.t 11) .skip (.exit 0))
   (.seq (.block 1 (.seq (.line [⟨(some 12), none, .ia none 5 (.t 8) (.t 10)⟩, ⟨(some 13), none, .load (some 5) (.t 12)⟩, ⟨(some 5), none, .alloc 0 [(.string ⟨#[]⟩), (.int .u8 0), (.bool false), (.bool false), (.string ⟨#[]⟩)]⟩, ⟨none, none, .store (some 5) (.t 5) (.t 13)⟩])
    (.seq (.line [⟨(some 14), none, .fa 0 (.t 5)⟩, ⟨(some 15), none, .load none (.t 14)⟩, ⟨(some 16), none, .call (.c (.func (.func 46) #[] #[])) [(.t 15)]⟩, ⟨(some 6), none, .move (.t 16)⟩])
    (.seq (.seq (.line [⟨(some 17), none, .move (.t 6)⟩, ⟨(some 18), none, .bin .lss none (.t 17) (.c (.int .i64 0))⟩])
    (.cond (.t 18) (.seq (.line [⟨(some 2), none, .move (.c (.int .i64 (-1)))⟩])
     .ret) .skip))
    (.line [⟨(some 19), none, .move (.t 3)⟩, ⟨(some 20), none, .move (.t 6)⟩, ⟨(some 21), none, .bin .add none (.t 19) (.t 20)⟩, ⟨(some 3), none, .move (.t 21)⟩])))))
   (.line [⟨(some 22), none, .bin .add none (.t 10) (.c (.int .i64 1))⟩, ⟨(some 10), none, .move (.t 22)⟩])))))))
 (.seq (.line [⟨(some 23), none, .move (.t 3)⟩, ⟨(some 2), none, .move (.t 23)⟩])
 .ret))))⟩
/-- captioner/style.Plain -/
def g23 : GFun := ⟨18, [.tmp 2],
 (.seq (.line [⟨(some 1), none, .box (.t 0)⟩, ⟨(some 2), none, .move (.c (.string ⟨#[]⟩))⟩])
 (.seq (.line [⟨(some 3), none, .alloc 258 [(.pointer none), (.slice none 0 0)]⟩])
 (.seq (.seq (.line [⟨(some 6), none, .fa 0 (.t 1)⟩, ⟨(some 7), none, .load none (.t 6)⟩, ⟨(some 8), none, .len false (.t 7)⟩, ⟨(some 9), none, .move (.c (.int .i64 0))⟩])
 (.block 0 (.loop (.seq (.line [⟨(some 10), none, .bin .lss none (.t 9) (.t 8)⟩])
   (.seq (.cond (.t 10) .skip (.exit 0))
   (.seq (.block 1 (.seq (.line [⟨(some 11), none, .ia none 5 (.t 7) (.t 9)⟩, ⟨(some 12), none, .load (some 5) (.t 11)⟩, ⟨(some 5), none, .alloc 0 [(.string ⟨#[]⟩), (.int .u8 0), (.bool false), (.bool false), (.string ⟨#[]⟩)]⟩, ⟨none, none, .store (some 5) (.t 5) (.t 12)⟩])
    (.line [⟨(some 13), none, .fa 0 (.t 5)⟩, ⟨(some 14), none, .load none (.t 13)⟩, ⟨(some 15), none, .call (.c (.func (.func 54) #[] #[])) [(.t 3), (.t 14)]⟩])))
   (.line [⟨(some 16), none, .bin .add none (.t 9) (.c (.int .i64 1))⟩, ⟨(some 9), none, .move (.t 16)⟩])))))))
 (.seq (.line [⟨(some 17), none, .call (.c (.func (.func 55) #[] #[])) [(.t 3)]⟩, ⟨(some 2), none, .move (.t 17)⟩])
 .ret))))⟩
/-- captioner/style.Parse -/
def g24 : GFun := ⟨64, [.cell 2 (some 1), .tmp 3],
 (.seq (.line [⟨(some 2), none, .alloc 0 [(.slice none 0 0)]⟩, ⟨(some 3), none, .move (.c (.int .i64 0))⟩])
 (.seq (.line [⟨(some 4), none, .alloc 0 [(.slice none 0 0)]⟩])
 (.seq (.seq (.line [⟨(some 11), none, .move (.t 0)⟩, ⟨(some 5), none, .move (.t 11)⟩])
 (.block 0 (.loop (.seq (.seq (.line [⟨(some 12), none, .move (.t 5)⟩, ⟨(some 13), none, .bin .neq (some .str) (.t 12) (.c (.string ⟨#[]⟩))⟩])
   (.cond (.t 13) .skip (.exit 0)))
   (.block 1 (.seq (.line [⟨(some 6), none, .alloc 0 [(.string ⟨#[]⟩), (.int .u8 0), (.bool false), (.bool false), (.string ⟨#[]⟩)]⟩])
    (.seq (.line [⟨(some 14), none, .move (.t 5)⟩, ⟨(some 15), none, .len true (.t 14)⟩, ⟨(some 7), none, .move (.t 15)⟩])
    (.seq (.seq (.line [⟨(some 16), none, .move (.t 5)⟩, ⟨(some 17), none, .ix none (.t 16) (.c (.int .i64 0))⟩, ⟨(some 18), none, .bin .eql (some .int) (.t 17) (.c (.int .u8 123))⟩])
    (.cond (.t 18) (.line [⟨(some 20), none, .move (.t 5)⟩, ⟨(some 21), none, .call (.c (.func (.func 56) #[] #[])) [(.t 20)]⟩, ⟨(some 19), none, .move (.t 21)⟩, ⟨(some 22), none, .ext (.t 19) 0⟩, ⟨(some 23), none, .ext (.t 19) 1⟩, ⟨none, none, .store (some 5) (.t 6) (.t 22)⟩, ⟨(some 5), none, .move (.t 23)⟩]) .skip))
    (.seq (.line [⟨(some 8), none, .move (.c (.int .i64 0))⟩])
    (.seq (.line [⟨(some 25), none, .move (.t 5)⟩, ⟨(some 26), none, .call (.c (.func (.func 57) #[] #[])) [(.t 25)]⟩, ⟨(some 24), none, .move (.t 26)⟩, ⟨(some 27), none, .ext (.t 24) 0⟩, ⟨(some 28), none, .ext (.t 24) 1⟩, ⟨(some 29), none, .fa 0 (.t 6)⟩, ⟨none, none, .store none (.t 29) (.t 27)⟩, ⟨(some 8), none, .move (.t 28)⟩])
    (.seq (.line [⟨(some 30), none, .move (.t 5)⟩, ⟨(some 31), none, .move (.t 8)⟩, ⟨(some 32), none, .slice .str (.t 30) (some (.t 31)) none none⟩, ⟨(some 5), none, .move (.t 32)⟩])
    (.seq (.line [⟨(some 33), none, .fa 0 (.t 4)⟩, ⟨(some 34), none, .load none (.t 33)⟩, ⟨(some 35), none, .load (some 5) (.t 6)⟩, ⟨(some 36), none, .buildSl 5 1 [(.string ⟨#[]⟩), (.int .u8 0), (.bool false), (.bool false), (.string ⟨#[]⟩)] [(0, 5, (.t 35))]⟩, ⟨(some 37), none, .app 5 40 5 (.t 34) (.t 36)⟩, ⟨(some 38), none, .fa 0 (.t 4)⟩, ⟨none, none, .store none (.t 38) (.t 37)⟩])
    (.seq (.line [⟨(some 39), none, .move (.t 5)⟩, ⟨(some 40), none, .len true (.t 39)⟩, ⟨(some 41), none, .move (.t 7)⟩, ⟨(some 42), none, .bin .eql (some .int) (.t 40) (.t 41)⟩, ⟨(some 43), none, .move (.t 42)⟩, ⟨(some 44), (some (43, false)), .fa 0 (.t 4)⟩, ⟨(some 45), (some (43, false)), .load none (.t 44)⟩, ⟨(some 46), (some (43, false)), .len false (.t 45)⟩, ⟨(some 47), (some (43, false)), .bin .gtr none (.t 46) (.c (.int .i64 16))⟩, ⟨(some 48), none, .pick (.t 43) (.c (.bool true)) (.t 47)⟩])
    (.cond (.t 48) (.seq (.line [⟨(some 49), none, .build [(.slice none 0 0)] []⟩, ⟨none, none, .store (some 1) (.t 2) (.t 49)⟩, ⟨(some 3), none, .move (.c (.int .i64 4))⟩])
     .ret) .skip))))))))))))))
 (.seq (.seq (.line [⟨(some 51), none, .load (some 1) (.t 4)⟩, ⟨(some 52), none, .call (.c (.func (.func 26) #[] #[])) [(.t 51)]⟩, ⟨(some 50), none, .move (.t 52)⟩, ⟨(some 53), none, .ext (.t 50) 0⟩, ⟨(some 54), none, .ext (.t 50) 1⟩, ⟨(some 9), none, .move (.t 53)⟩, ⟨(some 10), none, .move (.t 54)⟩])
 (.seq (.line [⟨(some 55), none, .move (.t 10)⟩, ⟨(some 56), none, .bin .neq (some .int) (.t 55) (.c (.int .i64 0))⟩, ⟨(some 57), none, .move (.t 56)⟩, ⟨(some 58), (some (57, false)), .move (.t 9)⟩, ⟨(some 59), (some (57, false)), .move (.t 0)⟩, ⟨(some 60), (some (57, false)), .bin .neq (some .str) (.t 58) (.t 59)⟩, ⟨(some 61), none, .pick (.t 57) (.c (.bool true)) (.t 60)⟩])
 (.cond (.t 61) (.seq (.line [⟨(some 62), none, .build [(.slice none 0 0)] []⟩, ⟨none, none, .store (some 1) (.t 2) (.t 62)⟩, ⟨(some 3), none, .move (.c (.int .i64 4))⟩])
  .ret) .skip)))
 (.seq (.line [⟨(some 63), none, .load (some 1) (.t 4)⟩, ⟨none, none, .store (some 1) (.t 2) (.t 63)⟩, ⟨(some 3), none, .move (.c (.int .i64 0))⟩])
 .ret)))))⟩
/-- captioner/captionerref09.Parse -/
def g25 : GFun := ⟨96, [.cell 2 (some 1), .tmp 3],
 (.seq (.line [⟨(some 2), none, .alloc 0 [(.slice none 0 0)]⟩, ⟨(some 3), none, .move (.c (.int .i64 0))⟩])
 (.seq (.line [⟨(some 4), none, .move (.c (.slice none 0 0))⟩])
 (.seq (.line [⟨(some 5), none, .move (.c (.int .i64 0))⟩])
 (.seq (.block 0 (.loop (.seq (.seq (.line [⟨(some 12), none, .move (.t 5)⟩, ⟨(some 13), none, .move (.t 0)⟩, ⟨(some 14), none, .len true (.t 13)⟩, ⟨(some 15), none, .bin .lss none (.t 12) (.t 14)⟩])
   (.cond (.t 15) .skip (.exit 0)))
   (.block 1 (.seq (.line [⟨(some 6), none, .alloc 0 [(.string ⟨#[]⟩), (.int .u8 0), (.bool false), (.bool false), (.string ⟨#[]⟩)]⟩])
    (.seq (.seq (.line [⟨(some 16), none, .move (.t 0)⟩, ⟨(some 17), none, .move (.t 5)⟩, ⟨(some 18), none, .ix none (.t 16) (.t 17)⟩, ⟨(some 19), none, .bin .eql (some .int) (.t 18) (.c (.int .u8 123))⟩])
    (.cond (.t 19) (.seq (.line [⟨(some 21), none, .move (.t 0)⟩, ⟨(some 22), none, .move (.t 5)⟩, ⟨(some 23), none, .bin .add none (.t 22) (.c (.int .i64 1))⟩, ⟨(some 24), none, .call (.c (.func (.func 58) #[] #[])) [(.t 21), (.t 23), (.c (.string ⟨#[58, 125]⟩))]⟩, ⟨(some 20), none, .move (.t 24)⟩, ⟨(some 25), none, .ext (.t 20) 0⟩, ⟨(some 26), none, .ext (.t 20) 1⟩, ⟨(some 7), none, .move (.t 25)⟩, ⟨(some 8), none, .move (.t 26)⟩])
     (.seq (.seq (.line [⟨(some 27), none, .move (.t 8)⟩, ⟨(some 28), none, .move (.t 0)⟩, ⟨(some 29), none, .len true (.t 28)⟩, ⟨(some 30), none, .bin .lss none (.t 27) (.t 29)⟩, ⟨(some 31), none, .move (.t 30)⟩, ⟨(some 32), (some (31, true)), .move (.t 0)⟩, ⟨(some 33), (some (31, true)), .move (.t 8)⟩, ⟨(some 34), (some (31, true)), .ix none (.t 32) (.t 33)⟩, ⟨(some 35), (some (31, true)), .bin .eql (some .int) (.t 34) (.c (.int .u8 58))⟩, ⟨(some 36), none, .pick (.t 31) (.t 35) (.c (.bool false))⟩])
     (.cond (.t 36) (.line [⟨(some 38), none, .move (.t 0)⟩, ⟨(some 39), none, .move (.t 8)⟩, ⟨(some 40), none, .bin .add none (.t 39) (.c (.int .i64 1))⟩, ⟨(some 41), none, .call (.c (.func (.func 58) #[] #[])) [(.t 38), (.t 40), (.c (.string ⟨#[125]⟩))]⟩, ⟨(some 37), none, .move (.t 41)⟩, ⟨(some 42), none, .ext (.t 37) 0⟩, ⟨(some 43), none, .ext (.t 37) 1⟩, ⟨(some 44), none, .fa 4 (.t 6)⟩, ⟨none, none, .store none (.t 44) (.t 42)⟩, ⟨(some 8), none, .move (.t 43)⟩]) .skip))
     (.seq (.seq (.line [⟨(some 45), none, .move (.t 8)⟩, ⟨(some 46), none, .move (.t 0)⟩, ⟨(some 47), none, .len true (.t 46)⟩, ⟨(some 48), none, .bin .geq none (.t 45) (.t 47)⟩])
     (.cond (.t 48) (.seq (.line [⟨(some 49), none, .build [(.slice none 0 0)] []⟩, ⟨none, none, .store (some 1) (.t 2) (.t 49)⟩, ⟨(some 3), none, .move (.c (.int .i64 4))⟩])
      .ret) .skip))
     (.seq (.line [⟨(some 51), none, .move (.t 7)⟩, ⟨(some 52), none, .call (.c (.func (.func 59) #[] #[])) [(.t 51)]⟩, ⟨(some 50), none, .move (.t 52)⟩, ⟨(some 53), none, .ext (.t 50) 0⟩, ⟨(some 54), none, .ext (.t 50) 1⟩, ⟨(some 55), none, .fa 1 (.t 6)⟩, ⟨none, none, .store (some 3) (.t 55) (.t 53)⟩])
     (.line [⟨(some 56), none, .move (.t 8)⟩, ⟨(some 57), none, .bin .add none (.t 56) (.c (.int .i64 1))⟩, ⟨(some 5), none, .move (.t 57)⟩]))))) .skip))
    (.seq (.line [⟨(some 59), none, .move (.t 0)⟩, ⟨(some 60), none, .move (.t 5)⟩, ⟨(some 61), none, .call (.c (.func (.func 58) #[] #[])) [(.t 59), (.t 60), (.c (.string ⟨#[123, 125]⟩))]⟩, ⟨(some 58), none, .move (.t 61)⟩, ⟨(some 62), none, .ext (.t 58) 0⟩, ⟨(some 63), none, .ext (.t 58) 1⟩, ⟨(some 64), none, .fa 0 (.t 6)⟩, ⟨none, none, .store none (.t 64) (.t 62)⟩, ⟨(some 5), none, .move (.t 63)⟩])
    (.seq (.seq (.line [⟨(some 65), none, .move (.t 5)⟩, ⟨(some 66), none, .move (.t 0)⟩, ⟨(some 67), none, .len true (.t 66)⟩, ⟨(some 68), none, .bin .lss none (.t 65) (.t 67)⟩, ⟨(some 69), none, .move (.t 68)⟩, ⟨(some 70), (some (69, true)), .move (.t 0)⟩, ⟨(some 71), (some (69, true)), .move (.t 5)⟩, ⟨(some 72), (some (69, true)), .ix none (.t 70) (.t 71)⟩, ⟨(some 73), (some (69, true)), .bin .eql (some .int) (.t 72) (.c (.int .u8 125))⟩, ⟨(some 74), none, .pick (.t 69) (.t 73) (.c (.bool false))⟩])
    (.cond (.t 74) (.seq (.line [⟨(some 75), none, .build [(.slice none 0 0)] []⟩, ⟨none, none, .store (some 1) (.t 2) (.t 75)⟩, ⟨(some 3), none, .move (.c (.int .i64 4))⟩])
     .ret) .skip))
    (.line [⟨(some 76), none, .move (.t 4)⟩, ⟨(some 77), none, .load (some 5) (.t 6)⟩, ⟨(some 78), none, .buildSl 5 1 [(.string ⟨#[]⟩), (.int .u8 0), (.bool false), (.bool false), (.string ⟨#[]⟩)] [(0, 5, (.t 77))]⟩, ⟨(some 79), none, .app 5 40 5 (.t 76) (.t 78)⟩, ⟨(some 4), none, .move (.t 79)⟩])))))))))
 (.seq (.line [⟨(some 80), none, .move (.t 4)⟩, ⟨(some 81), none, .build [(.slice none 0 0)] [(0, 1, (.t 80))]⟩, ⟨(some 9), none, .alloc 0 [(.slice none 0 0)]⟩, ⟨none, none, .store (some 1) (.t 9) (.t 81)⟩])
 (.seq (.seq (.line [⟨(some 83), none, .load (some 1) (.t 9)⟩, ⟨(some 84), none, .call (.c (.func (.func 27) #[] #[])) [(.t 83)]⟩, ⟨(some 82), none, .move (.t 84)⟩, ⟨(some 85), none, .ext (.t 82) 0⟩, ⟨(some 86), none, .ext (.t 82) 1⟩, ⟨(some 10), none, .move (.t 85)⟩, ⟨(some 11), none, .move (.t 86)⟩])
 (.seq (.line [⟨(some 87), none, .move (.t 11)⟩, ⟨(some 88), none, .bin .neq (some .int) (.t 87) (.c (.int .i64 0))⟩, ⟨(some 89), none, .move (.t 88)⟩, ⟨(some 90), (some (89, false)), .move (.t 10)⟩, ⟨(some 91), (some (89, false)), .move (.t 0)⟩, ⟨(some 92), (some (89, false)), .bin .neq (some .str) (.t 90) (.t 91)⟩, ⟨(some 93), none, .pick (.t 89) (.c (.bool true)) (.t 92)⟩])
 (.cond (.t 93) (.seq (.line [⟨(some 94), none, .build [(.slice none 0 0)] []⟩, ⟨none, none, .store (some 1) (.t 2) (.t 94)⟩, ⟨(some 3), none, .move (.c (.int .i64 4))⟩])
  .ret) .skip)))
 (.seq (.line [⟨(some 95), none, .load (some 1) (.t 9)⟩, ⟨none, none, .store (some 1) (.t 2) (.t 95)⟩, ⟨(some 3), none, .move (.c (.int .i64 0))⟩])
 .ret)))))))⟩
/-- captioner/style.Text -/
def g26 : GFun := ⟨69, [.tmp 2, .tmp 3],
 (.seq (.line [⟨(some 1), none, .box (.t 0)⟩, ⟨(some 2), none, .move (.c (.string ⟨#[]⟩))⟩, ⟨(some 3), none, .move (.c (.int .i64 0))⟩])
 (.seq (.seq (.line [⟨(some 9), none, .load (some 1) (.t 1)⟩, ⟨(some 10), none, .call (.c (.func (.func 32) #[] #[])) [(.t 9)]⟩, ⟨(some 4), none, .move (.t 10)⟩])
 (.seq (.line [⟨(some 11), none, .move (.t 4)⟩, ⟨(some 12), none, .bin .neq (some .int) (.t 11) (.c (.int .i64 0))⟩])
 (.cond (.t 12) (.seq (.line [⟨(some 13), none, .move (.t 4)⟩, ⟨(some 2), none, .move (.c (.string ⟨#[]⟩))⟩, ⟨(some 3), none, .move (.t 13)⟩])
  .ret) .skip)))
 (.seq (.line [⟨(some 5), none, .alloc 258 [(.pointer none), (.slice none 0 0)]⟩])
 (.seq (.seq (.line [⟨(some 14), none, .fa 0 (.t 1)⟩, ⟨(some 15), none, .load none (.t 14)⟩, ⟨(some 16), none, .len false (.t 15)⟩, ⟨(some 17), none, .move (.c (.int .i64 0))⟩])
 (.block 0 (.loop (.seq (.line [⟨(some 18), none, .bin .lss none (.t 17) (.t 16)⟩])
   (.seq (.cond (.t 18) .skip (.exit 0))
   (.seq (.block 1 (.seq (.line [⟨(some 19), none, .move (.t 17)⟩, ⟨(some 20), none, .ia none 5 (.t 15) (.t 17)⟩, ⟨(some 21), none, .load (some 5) (.t 20)⟩, ⟨(some 7), none, .alloc 0 [(.string ⟨#[]⟩), (.int .u8 0), (.bool false), (.bool false), (.string ⟨#[]⟩)]⟩, ⟨(some 6), none, .move (.t 19)⟩, ⟨none, none, .store (some 5) (.t 7) (.t 21)⟩])
    (.seq (.line [⟨(some 8), none, .move (.c (.string ⟨#[]⟩))⟩])
    (.seq (.seq (.line [⟨(some 22), none, .fa 1 (.t 7)⟩, ⟨(some 23), none, .fa 0 (.t 22)⟩, ⟨(some 24), none, .load none (.t 23)⟩, ⟨(some 25), none, .bin .neq (some .int) (.t 24) (.c (.int .u8 0))⟩])
    (.cond (.t 25) (.line [⟨(some 26), none, .fa 1 (.t 7)⟩, ⟨(some 27), none, .fa 0 (.t 26)⟩, ⟨(some 28), none, .load none (.t 27)⟩, ⟨(some 29), none, .bin .sub none (.t 28) (.c (.int .u8 1))⟩, ⟨(some 30), none, .fa 1 (.t 7)⟩, ⟨(some 31), none, .fa 0 (.t 30)⟩, ⟨(some 32), none, .load none (.t 31)⟩, ⟨(some 33), none, .slice .str (.c (.string ⟨#[103, 98, 99, 114, 121, 109]⟩)) (some (.t 29)) (some (.t 32)) none⟩, ⟨(some 8), none, .move (.t 33)⟩]) .skip))
    (.seq (.seq (.line [⟨(some 34), none, .fa 1 (.t 7)⟩, ⟨(some 35), none, .fa 1 (.t 34)⟩, ⟨(some 36), none, .load none (.t 35)⟩])
    (.cond (.t 36) (.line [⟨(some 37), none, .move (.t 8)⟩, ⟨(some 38), none, .bin .add none (.t 37) (.c (.string ⟨#[105]⟩))⟩, ⟨(some 8), none, .move (.t 38)⟩]) .skip))
    (.seq (.seq (.line [⟨(some 39), none, .fa 1 (.t 7)⟩, ⟨(some 40), none, .fa 2 (.t 39)⟩, ⟨(some 41), none, .load none (.t 40)⟩])
    (.cond (.t 41) (.line [⟨(some 42), none, .move (.t 8)⟩, ⟨(some 43), none, .bin .add none (.t 42) (.c (.string ⟨#[117]⟩))⟩, ⟨(some 8), none, .move (.t 43)⟩]) .skip))
    (.seq (.seq (.line [⟨(some 44), none, .fa 4 (.t 7)⟩, ⟨(some 45), none, .load none (.t 44)⟩, ⟨(some 46), none, .bin .neq (some .str) (.t 45) (.c (.string ⟨#[]⟩))⟩])
    (.cond (.t 46) (.line [⟨(some 47), none, .move (.t 8)⟩, ⟨(some 48), none, .fa 4 (.t 7)⟩, ⟨(some 49), none, .load none (.t 48)⟩, ⟨(some 50), none, .call (.c (.func (.func 60) #[] #[])) [(.t 49)]⟩, ⟨(some 51), none, .bin .add none (.c (.string ⟨#[58]⟩)) (.t 50)⟩, ⟨(some 52), none, .bin .add none (.t 47) (.t 51)⟩, ⟨(some 8), none, .move (.t 52)⟩]) .skip))
    (.seq (.seq (.line [⟨(some 53), none, .move (.t 6)⟩, ⟨(some 54), none, .bin .gtr none (.t 53) (.c (.int .i64 0))⟩, ⟨(some 55), none, .move (.t 54)⟩, ⟨(some 56), (some (55, false)), .move (.t 8)⟩, ⟨(some 57), (some (55, false)), .bin .neq (some .str) (.t 56) (.c (.string ⟨#[]⟩))⟩, ⟨(some 58), none, .pick (.t 55) (.c (.bool true)) (.t 57)⟩])
    (.cond (.t 58) (.line [⟨(some 59), none, .move (.t 8)⟩, ⟨(some 60), none, .bin .add none (.c (.string ⟨#[123]⟩)) (.t 59)⟩, ⟨(some 61), none, .bin .add none (.t 60) (.c (.string ⟨#[125]⟩))⟩, ⟨(some 62), none, .call (.c (.func (.func 54) #[] #[])) [(.t 5), (.t 61)]⟩]) .skip))
    (.line [⟨(some 63), none, .fa 0 (.t 7)⟩, ⟨(some 64), none, .load none (.t 63)⟩, ⟨(some 65), none, .call (.c (.func (.func 60) #[] #[])) [(.t 64)]⟩, ⟨(some 66), none, .call (.c (.func (.func 54) #[] #[])) [(.t 5), (.t 65)]⟩])))))))))
   (.line [⟨(some 67), none, .bin .add none (.t 17) (.c (.int .i64 1))⟩, ⟨(some 17), none, .move (.t 67)⟩])))))))
 (.seq (.line [⟨(some 68), none, .call (.c (.func (.func 55) #[] #[])) [(.t 5)]⟩, ⟨(some 2), none, .move (.t 68)⟩, ⟨(some 3), none, .move (.c (.int .i64 0))⟩])
 .ret)))))⟩
/-- captioner/captionerref09.Text -/
def g27 : GFun := ⟨53, [.tmp 2, .tmp 3],
 (.seq (.line [⟨(some 1), none, .box (.t 0)⟩, ⟨(some 2), none, .move (.c (.string ⟨#[]⟩))⟩, ⟨(some 3), none, .move (.c (.int .i64 0))⟩])
 (.seq (.seq (.line [⟨(some 9), none, .load (some 1) (.t 1)⟩, ⟨(some 10), none, .call (.c (.func (.func 33) #[] #[])) [(.t 9)]⟩, ⟨(some 4), none, .move (.t 10)⟩])
 (.seq (.line [⟨(some 11), none, .move (.t 4)⟩, ⟨(some 12), none, .bin .neq (some .int) (.t 11) (.c (.int .i64 0))⟩])
 (.cond (.t 12) (.seq (.line [⟨(some 13), none, .move (.t 4)⟩, ⟨(some 2), none, .move (.c (.string ⟨#[]⟩))⟩, ⟨(some 3), none, .move (.t 13)⟩])
  .ret) .skip)))
 (.seq (.line [⟨(some 5), none, .move (.c (.string ⟨#[]⟩))⟩])
 (.seq (.seq (.line [⟨(some 14), none, .fa 0 (.t 1)⟩, ⟨(some 15), none, .load none (.t 14)⟩, ⟨(some 16), none, .len false (.t 15)⟩, ⟨(some 17), none, .move (.c (.int .i64 0))⟩])
 (.block 0 (.loop (.seq (.line [⟨(some 18), none, .bin .lss none (.t 17) (.t 16)⟩])
   (.seq (.cond (.t 18) .skip (.exit 0))
   (.seq (.block 1 (.seq (.line [⟨(some 19), none, .move (.t 17)⟩, ⟨(some 20), none, .ia none 5 (.t 15) (.t 17)⟩, ⟨(some 21), none, .load (some 5) (.t 20)⟩, ⟨(some 7), none, .alloc 0 [(.string ⟨#[]⟩), (.int .u8 0), (.bool false), (.bool false), (.string ⟨#[]⟩)]⟩, ⟨(some 6), none, .move (.t 19)⟩, ⟨none, none, .store (some 5) (.t 7) (.t 21)⟩])
    (.seq (.line [⟨(some 22), none, .fa 1 (.t 7)⟩, ⟨(some 23), none, .load (some 3) (.t 22)⟩, ⟨(some 24), none, .call (.c (.func (.func 61) #[] #[])) [(.t 23)]⟩, ⟨(some 25), none, .bin .add none (.c (.string ⟨#[123]⟩)) (.t 24)⟩, ⟨(some 8), none, .move (.t 25)⟩])
    (.seq (.seq (.line [⟨(some 26), none, .fa 4 (.t 7)⟩, ⟨(some 27), none, .load none (.t 26)⟩, ⟨(some 28), none, .bin .neq (some .str) (.t 27) (.c (.string ⟨#[]⟩))⟩])
    (.cond (.t 28) (.line [⟨(some 29), none, .move (.t 8)⟩, ⟨(some 30), none, .fa 4 (.t 7)⟩, ⟨(some 31), none, .load none (.t 30)⟩, ⟨(some 32), none, .call (.c (.func (.func 62) #[] #[])) [(.t 31)]⟩, ⟨(some 33), none, .bin .add none (.c (.string ⟨#[58]⟩)) (.t 32)⟩, ⟨(some 34), none, .bin .add none (.t 29) (.t 33)⟩, ⟨(some 8), none, .move (.t 34)⟩]) .skip))
    (.seq (.line [⟨(some 35), none, .move (.t 8)⟩, ⟨(some 36), none, .bin .add none (.t 35) (.c (.string ⟨#[125]⟩))⟩, ⟨(some 8), none, .move (.t 36)⟩])
    (.seq (.seq (.line [⟨(some 37), none, .move (.t 6)⟩, ⟨(some 38), none, .bin .gtr none (.t 37) (.c (.int .i64 0))⟩, ⟨(some 39), none, .move (.t 38)⟩, ⟨(some 40), (some (39, false)), .move (.t 8)⟩, ⟨(some 41), (some (39, false)), .bin .neq (some .str) (.t 40) (.c (.string ⟨#[123, 125]⟩))⟩, ⟨(some 42), none, .pick (.t 39) (.c (.bool true)) (.t 41)⟩])
    (.cond (.t 42) (.line [⟨(some 43), none, .move (.t 5)⟩, ⟨(some 44), none, .move (.t 8)⟩, ⟨(some 45), none, .bin .add none (.t 43) (.t 44)⟩, ⟨(some 5), none, .move (.t 45)⟩]) .skip))
    (.line [⟨(some 46), none, .move (.t 5)⟩, ⟨(some 47), none, .fa 0 (.t 7)⟩, ⟨(some 48), none, .load none (.t 47)⟩, ⟨(some 49), none, .call (.c (.func (.func 62) #[] #[])) [(.t 48)]⟩, ⟨(some 50), none, .bin .add none (.t 46) (.t 49)⟩, ⟨(some 5), none, .move (.t 50)⟩])))))))
   (.line [⟨(some 51), none, .bin .add none (.t 17) (.c (.int .i64 1))⟩, ⟨(some 17), none, .move (.t 51)⟩])))))))
 (.seq (.line [⟨(some 52), none, .move (.t 5)⟩, ⟨(some 2), none, .move (.t 52)⟩, ⟨(some 3), none, .move (.c (.int .i64 0))⟩])
 .ret)))))⟩
/-- captioner/style.Same -/
def g28 : GFun := ⟨10, [.tmp 4],
 (.seq (.line [⟨(some 2), none, .box (.t 0)⟩, ⟨(some 3), none, .box (.t 1)⟩, ⟨(some 4), none, .move (.c (.bool false))⟩])
 (.seq (.line [⟨(some 5), none, .fa 0 (.t 2)⟩, ⟨(some 6), none, .load none (.t 5)⟩, ⟨(some 7), none, .fa 0 (.t 3)⟩, ⟨(some 8), none, .load none (.t 7)⟩, ⟨(some 9), none, .call (.c (.func (.func 63) #[] #[])) [(.t 6), (.t 8)]⟩, ⟨(some 4), none, .move (.t 9)⟩])
 .ret))⟩
/-- captioner/captionerref09.Clone -/
def g29 : GFun := ⟨22, [.tmp 2],
 (.seq (.line [⟨(some 2), none, .move (.c (.slice none 0 0))⟩])
 (.seq (.line [⟨(some 3), none, .move (.c (.slice none 0 0))⟩])
 (.seq (.seq (.line [⟨(some 6), none, .move (.t 0)⟩, ⟨(some 7), none, .len false (.t 6)⟩, ⟨(some 8), none, .move (.c (.int .i64 0))⟩])
 (.block 0 (.loop (.seq (.line [⟨(some 9), none, .bin .lss none (.t 8) (.t 7)⟩])
   (.seq (.cond (.t 9) .skip (.exit 0))
   (.seq (.block 1 (.seq (.line [⟨(some 10), none, .ia none 1 (.t 6) (.t 8)⟩, ⟨(some 11), none, .load (some 1) (.t 10)⟩, ⟨(some 5), none, .alloc 0 [(.slice none 0 0)]⟩, ⟨none, none, .store (some 1) (.t 5) (.t 11)⟩])
    (.line [⟨(some 12), none, .move (.t 3)⟩, ⟨(some 13), none, .buildSl 5 0 [(.string ⟨#[]⟩), (.int .u8 0), (.bool false), (.bool false), (.string ⟨#[]⟩)] []⟩, ⟨(some 14), none, .fa 0 (.t 5)⟩, ⟨(some 15), none, .load none (.t 14)⟩, ⟨(some 16), none, .app 5 40 5 (.t 13) (.t 15)⟩, ⟨(some 17), none, .build [(.slice none 0 0)] [(0, 1, (.t 16))]⟩, ⟨(some 18), none, .buildSl 1 1 [(.slice none 0 0)] [(0, 1, (.t 17))]⟩, ⟨(some 19), none, .app 1 24 1 (.t 12) (.t 18)⟩, ⟨(some 3), none, .move (.t 19)⟩])))
   (.line [⟨(some 20), none, .bin .add none (.t 8) (.c (.int .i64 1))⟩, ⟨(some 8), none, .move (.t 20)⟩])))))))
 (.seq (.line [⟨(some 21), none, .move (.t 3)⟩, ⟨(some 2), none, .move (.t 21)⟩])
 .ret))))⟩
/-- captioner/style.Clone -/
def g30 : GFun := ⟨24, [.tmp 2],
 (.seq (.line [⟨(some 2), none, .move (.c (.slice none 0 0))⟩])
 (.seq (.line [⟨(some 5), none, .move (.t 0)⟩, ⟨(some 6), none, .call (.c (.func (.func 64) #[] #[])) [(.t 5)]⟩, ⟨(some 3), none, .move (.t 6)⟩])
 (.seq (.seq (.line [⟨(some 7), none, .move (.t 3)⟩, ⟨(some 8), none, .len false (.t 7)⟩, ⟨(some 9), none, .move (.c (.int .i64 0))⟩])
 (.block 0 (.loop (.seq (.line [⟨(some 10), none, .bin .lss none (.t 9) (.t 8)⟩])
   (.seq (.cond (.t 10) .skip (.exit 0))
   (.seq (.block 1 (.seq (.line [⟨(some 11), none, .move (.t 9)⟩, ⟨(some 4), none, .move (.t 11)⟩])
    (.line [⟨(some 12), none, .move (.t 3)⟩, ⟨(some 13), none, .move (.t 4)⟩, ⟨(some 14), none, .move (.t 3)⟩, ⟨(some 15), none, .move (.t 4)⟩, ⟨(some 16), none, .ia none 1 (.t 14) (.t 15)⟩, ⟨(some 17), none, .fa 0 (.t 16)⟩, ⟨(some 18), none, .load none (.t 17)⟩, ⟨(some 19), none, .call (.c (.func (.func 65) #[] #[])) [(.t 18)]⟩, ⟨(some 20), none, .ia none 1 (.t 12) (.t 13)⟩, ⟨(some 21), none, .fa 0 (.t 20)⟩, ⟨none, none, .store none (.t 21) (.t 19)⟩])))
   (.line [⟨(some 22), none, .bin .add none (.t 9) (.c (.int .i64 1))⟩, ⟨(some 9), none, .move (.t 22)⟩])))))))
 (.seq (.line [⟨(some 23), none, .move (.t 3)⟩, ⟨(some 2), none, .move (.t 23)⟩])
 .ret))))⟩
/-- captioner/captionerref09.SameRows -/
def g31 : GFun := ⟨27, [.tmp 4],
 (.seq (.line [⟨(some 4), none, .move (.c (.bool false))⟩])
 (.seq (.seq (.line [⟨(some 6), none, .move (.t 0)⟩, ⟨(some 7), none, .len false (.t 6)⟩, ⟨(some 8), none, .move (.t 1)⟩, ⟨(some 9), none, .len false (.t 8)⟩, ⟨(some 10), none, .bin .neq (some .int) (.t 7) (.t 9)⟩])
 (.cond (.t 10) (.seq (.line [⟨(some 4), none, .move (.c (.bool false))⟩])
  .ret) .skip))
 (.seq (.seq (.line [⟨(some 11), none, .move (.t 0)⟩, ⟨(some 12), none, .len false (.t 11)⟩, ⟨(some 13), none, .move (.c (.int .i64 0))⟩])
 (.block 0 (.loop (.seq (.line [⟨(some 14), none, .bin .lss none (.t 13) (.t 12)⟩])
   (.seq (.cond (.t 14) .skip (.exit 0))
   (.seq (.block 1 (.seq (.line [⟨(some 15), none, .move (.t 13)⟩, ⟨(some 5), none, .move (.t 15)⟩])
    (.seq (.any [] [⟨(some 16), none, .move (.t 0)⟩, ⟨(some 17), none, .move (.t 5)⟩, ⟨(some 18), none, .ia none 1 (.t 16) (.t 17)⟩, ⟨(some 19), none, .load (some 1) (.t 18)⟩, ⟨(some 20), none, .move (.t 1)⟩, ⟨(some 21), none, .move (.t 5)⟩, ⟨(some 22), none, .ia none 1 (.t 20) (.t 21)⟩, ⟨(some 23), none, .load (some 1) (.t 22)⟩] [(false, ⟨(some 24), none, .call (.c (.func (.func 13) #[] #[])) [(.t 19), (.t 23)]⟩), (false, ⟨(some 25), none, .un .not (.t 24)⟩)])
    (.cond (.t 25) (.seq (.line [⟨(some 4), none, .move (.c (.bool false))⟩])
     .ret) .skip))))
   (.line [⟨(some 26), none, .bin .add none (.t 13) (.c (.int .i64 1))⟩, ⟨(some 13), none, .move (.t 26)⟩])))))))
 (.seq (.line [⟨(some 4), none, .move (.c (.bool true))⟩])
 .ret))))⟩
/-- captioner/style.Check -/
def g32 : GFun := ⟨50, [.tmp 2],
 (.seq (.line [⟨(some 1), none, .box (.t 0)⟩, ⟨(some 2), none, .move (.c (.int .i64 0))⟩])
 (.seq (.seq (.line [⟨(some 5), none, .fa 0 (.t 1)⟩, ⟨(some 6), none, .load none (.t 5)⟩, ⟨(some 7), none, .len false (.t 6)⟩, ⟨(some 8), none, .bin .gtr none (.t 7) (.c (.int .i64 16))⟩])
 (.cond (.t 8) (.seq (.line [⟨(some 2), none, .move (.c (.int .i64 9))⟩])
  .ret) .skip))
 (.seq (.seq (.line [⟨(some 9), none, .fa 0 (.t 1)⟩, ⟨(some 10), none, .load none (.t 9)⟩, ⟨(some 11), none, .len false (.t 10)⟩, ⟨(some 12), none, .move (.c (.int .i64 0))⟩])
 (.block 0 (.loop (.seq (.line [⟨(some 13), none, .bin .lss none (.t 12) (.t 11)⟩])
   (.seq (.cond (.t 13) .skip (.exit 0))
   (.seq (.block 1 (.seq (.line [⟨(some 14), none, .move (.t 12)⟩, ⟨(some 15), none, .ia none 5 (.t 10) (.t 12)⟩, ⟨(some 16), none, .load (some 5) (.t 15)⟩, ⟨(some 4), none, .alloc 0 [(.string ⟨#[]⟩), (.int .u8 0), (.bool false), (.bool false), (.string ⟨#[]⟩)]⟩, ⟨(some 3), none, .move (.t 14)⟩, ⟨none, none, .store (some 5) (.t 4) (.t 16)⟩])
    (.block 2 (.seq (.line [⟨(some 18), none, .fa 0 (.t 4)⟩, ⟨(some 19), none, .load none (.t 18)⟩, ⟨(some 20), none, .call (.c (.func (.func 51) #[] #[])) [(.t 19)]⟩, ⟨(some 21), none, .un .not (.t 20)⟩, ⟨(some 17), none, .move (.t 21)⟩])
     (.cond (.t 17) (.seq (.line [⟨(some 2), none, .move (.c (.int .i64 10))⟩])
      .ret) (.seq (.line [⟨(some 23), none, .fa 0 (.t 4)⟩, ⟨(some 24), none, .load none (.t 23)⟩, ⟨(some 25), none, .bin .eql (some .str) (.t 24) (.c (.string ⟨#[]⟩))⟩, ⟨(some 22), none, .move (.t 25)⟩])
      (.cond (.t 22) (.seq (.line [⟨(some 2), none, .move (.c (.int .i64 4))⟩])
       .ret) (.seq (.line [⟨(some 27), none, .fa 1 (.t 4)⟩, ⟨(some 28), none, .load (some 3) (.t 27)⟩, ⟨(some 29), none, .call (.c (.func (.func 38) #[] #[])) [(.t 28)]⟩, ⟨(some 30), none, .un .not (.t 29)⟩, ⟨(some 26), none, .move (.t 30)⟩])
       (.cond (.t 26) (.seq (.line [⟨(some 2), none, .move (.c (.int .i64 12))⟩])
        .ret) (.seq (.line [⟨(some 32), none, .fa 4 (.t 4)⟩, ⟨(some 33), none, .load none (.t 32)⟩, ⟨(some 34), none, .call (.c (.func (.func 51) #[] #[])) [(.t 33)]⟩, ⟨(some 35), none, .un .not (.t 34)⟩, ⟨(some 31), none, .move (.t 35)⟩])
        (.cond (.t 31) (.seq (.line [⟨(some 2), none, .move (.c (.int .i64 10))⟩])
         .ret) (.seq (.any [] [⟨(some 37), none, .move (.t 3)⟩, ⟨(some 38), none, .bin .gtr none (.t 37) (.c (.int .i64 0))⟩, ⟨(some 39), none, .move (.t 38)⟩, ⟨(some 40), (some (39, true)), .fa 0 (.t 1)⟩, ⟨(some 41), (some (39, true)), .load none (.t 40)⟩, ⟨(some 42), (some (39, true)), .move (.t 3)⟩, ⟨(some 43), (some (39, true)), .bin .sub none (.t 42) (.c (.int .i64 1))⟩, ⟨(some 44), (some (39, true)), .ia none 5 (.t 41) (.t 43)⟩, ⟨(some 45), (some (39, true)), .load (some 5) (.t 44)⟩, ⟨(some 46), (some (39, true)), .load (some 5) (.t 4)⟩] [(false, ⟨(some 47), (some (39, true)), .call (.c (.func (.func 66) #[] #[])) [(.t 45), (.t 46)]⟩), (false, ⟨(some 48), none, .pick (.t 39) (.t 47) (.c (.bool false))⟩), (false, ⟨(some 36), none, .move (.t 48)⟩)])
         (.cond (.t 36) (.seq (.line [⟨(some 2), none, .move (.c (.int .i64 8))⟩])
          .ret) .skip)))))))))))))
   (.line [⟨(some 49), none, .bin .add none (.t 12) (.c (.int .i64 1))⟩, ⟨(some 12), none, .move (.t 49)⟩])))))))
 (.seq (.line [⟨(some 2), none, .move (.c (.int .i64 0))⟩])
 .ret))))⟩
/-- captioner/captionerref09.Check -/
def g33 : GFun := ⟨67, [.tmp 2],
 (.seq (.line [⟨(some 1), none, .box (.t 0)⟩, ⟨(some 2), none, .move (.c (.int .i64 0))⟩])
 (.seq (.seq (.line [⟨(some 5), none, .fa 0 (.t 1)⟩, ⟨(some 6), none, .load none (.t 5)⟩, ⟨(some 7), none, .len false (.t 6)⟩, ⟨(some 8), none, .bin .gtr none (.t 7) (.c (.int .i64 16))⟩])
 (.cond (.t 8) (.seq (.line [⟨(some 2), none, .move (.c (.int .i64 9))⟩])
  .ret) .skip))
 (.seq (.seq (.line [⟨(some 9), none, .fa 0 (.t 1)⟩, ⟨(some 10), none, .load none (.t 9)⟩, ⟨(some 11), none, .len false (.t 10)⟩, ⟨(some 12), none, .move (.c (.int .i64 0))⟩])
 (.block 0 (.loop (.seq (.line [⟨(some 13), none, .bin .lss none (.t 12) (.t 11)⟩])
   (.seq (.cond (.t 13) .skip (.exit 0))
   (.seq (.block 1 (.seq (.line [⟨(some 14), none, .move (.t 12)⟩, ⟨(some 15), none, .ia none 5 (.t 10) (.t 12)⟩, ⟨(some 16), none, .load (some 5) (.t 15)⟩, ⟨(some 4), none, .alloc 0 [(.string ⟨#[]⟩), (.int .u8 0), (.bool false), (.bool false), (.string ⟨#[]⟩)]⟩, ⟨(some 3), none, .move (.t 14)⟩, ⟨none, none, .store (some 5) (.t 4) (.t 16)⟩])
    (.block 2 (.seq (.line [⟨(some 18), none, .fa 0 (.t 4)⟩, ⟨(some 19), none, .load none (.t 18)⟩, ⟨(some 20), none, .call (.c (.func (.func 52) #[] #[])) [(.t 19)]⟩, ⟨(some 21), none, .un .not (.t 20)⟩, ⟨(some 17), none, .move (.t 21)⟩])
     (.cond (.t 17) (.seq (.line [⟨(some 2), none, .move (.c (.int .i64 10))⟩])
      .ret) (.seq (.line [⟨(some 23), none, .fa 0 (.t 4)⟩, ⟨(some 24), none, .load none (.t 23)⟩, ⟨(some 25), none, .bin .eql (some .str) (.t 24) (.c (.string ⟨#[]⟩))⟩, ⟨(some 22), none, .move (.t 25)⟩])
      (.cond (.t 22) (.seq (.line [⟨(some 2), none, .move (.c (.int .i64 4))⟩])
       .ret) (.seq (.line [⟨(some 27), none, .fa 1 (.t 4)⟩, ⟨(some 28), none, .load (some 3) (.t 27)⟩, ⟨(some 29), none, .call (.c (.func (.func 39) #[] #[])) [(.t 28)]⟩, ⟨(some 30), none, .un .not (.t 29)⟩, ⟨(some 26), none, .move (.t 30)⟩])
       (.cond (.t 26) (.seq (.line [⟨(some 2), none, .move (.c (.int .i64 12))⟩])
        .ret) (.seq (.line [⟨(some 32), none, .fa 4 (.t 4)⟩, ⟨(some 33), none, .load none (.t 32)⟩, ⟨(some 34), none, .call (.c (.func (.func 52) #[] #[])) [(.t 33)]⟩, ⟨(some 35), none, .un .not (.t 34)⟩, ⟨(some 31), none, .move (.t 35)⟩])
        (.cond (.t 31) (.seq (.line [⟨(some 2), none, .move (.c (.int .i64 10))⟩])
         .ret) (.seq (.any [] [⟨(some 37), none, .move (.t 3)⟩, ⟨(some 38), none, .bin .gtr none (.t 37) (.c (.int .i64 0))⟩, ⟨(some 39), none, .move (.t 38)⟩, ⟨(some 40), (some (39, true)), .fa 0 (.t 1)⟩, ⟨(some 41), (some (39, true)), .load none (.t 40)⟩, ⟨(some 42), (some (39, true)), .move (.t 3)⟩, ⟨(some 43), (some (39, true)), .bin .sub none (.t 42) (.c (.int .i64 1))⟩, ⟨(some 44), (some (39, true)), .ia none 5 (.t 41) (.t 43)⟩, ⟨(some 45), (some (39, true)), .fa 1 (.t 44)⟩, ⟨(some 46), (some (39, true)), .load (some 3) (.t 45)⟩, ⟨(some 47), (some (39, true)), .fa 1 (.t 4)⟩, ⟨(some 48), (some (39, true)), .load (some 3) (.t 47)⟩, ⟨(some 49), (some (39, true)), .bin .eql (some (.parts [(0, none, .int), (1, none, .bool), (2, none, .bool)])) (.t 46) (.t 48)⟩, ⟨(some 50), none, .pick (.t 39) (.t 49) (.c (.bool false))⟩, ⟨(some 51), none, .move (.t 50)⟩, ⟨(some 52), (some (51, true)), .fa 0 (.t 1)⟩, ⟨(some 53), (some (51, true)), .load none (.t 52)⟩, ⟨(some 54), (some (51, true)), .move (.t 3)⟩, ⟨(some 55), (some (51, true)), .bin .sub none (.t 54) (.c (.int .i64 1))⟩, ⟨(some 56), (some (51, true)), .ia none 5 (.t 53) (.t 55)⟩, ⟨(some 57), (some (51, true)), .fa 4 (.t 56)⟩, ⟨(some 58), (some (51, true)), .load none (.t 57)⟩, ⟨(some 59), (some (51, true)), .bin .eql (some .str) (.t 58) (.c (.string ⟨#[]⟩))⟩, ⟨(some 60), none, .pick (.t 51) (.t 59) (.c (.bool false))⟩, ⟨(some 61), none, .move (.t 60)⟩, ⟨(some 62), (some (61, true)), .fa 4 (.t 4)⟩, ⟨(some 63), (some (61, true)), .load none (.t 62)⟩, ⟨(some 64), (some (61, true)), .bin .eql (some .str) (.t 63) (.c (.string ⟨#[]⟩))⟩, ⟨(some 65), none, .pick (.t 61) (.t 64) (.c (.bool false))⟩, ⟨(some 36), none, .move (.t 65)⟩] [])
         (.cond (.t 36) (.seq (.line [⟨(some 2), none, .move (.c (.int .i64 8))⟩])
          .ret) .skip)))))))))))))
   (.line [⟨(some 66), none, .bin .add none (.t 12) (.c (.int .i64 1))⟩, ⟨(some 12), none, .move (.t 66)⟩])))))))
 (.seq (.line [⟨(some 2), none, .move (.c (.int .i64 0))⟩])
 .ret))))⟩
/-- captioner/style.Norm -/
def g34 : GFun := ⟨6, [.cell 2 (some 1)],
 (.seq (.line [⟨(some 1), none, .box (.t 0)⟩, ⟨(some 2), none, .alloc 0 [(.slice none 0 0)]⟩])
 (.seq (.line [⟨(some 3), none, .fa 0 (.t 1)⟩, ⟨(some 4), none, .load none (.t 3)⟩, ⟨(some 5), none, .call (.c (.func (.func 48) #[] #[])) [(.t 4)]⟩, ⟨none, none, .store (some 1) (.t 2) (.t 5)⟩])
 .ret))⟩
/-- captioner/captionerref09.Norm -/
def g35 : GFun := ⟨64, [.cell 2 (some 1)],
 (.seq (.line [⟨(some 1), none, .box (.t 0)⟩, ⟨(some 2), none, .alloc 0 [(.slice none 0 0)]⟩])
 (.seq (.line [⟨(some 3), none, .move (.c (.slice none 0 0))⟩])
 (.seq (.seq (.line [⟨(some 7), none, .fa 0 (.t 1)⟩, ⟨(some 8), none, .load none (.t 7)⟩, ⟨(some 9), none, .len false (.t 8)⟩, ⟨(some 10), none, .move (.c (.int .i64 0))⟩])
 (.block 0 (.loop (.seq (.line [⟨(some 11), none, .bin .lss none (.t 10) (.t 9)⟩])
   (.seq (.cond (.t 11) .skip (.exit 0))
   (.seq (.block 1 (.seq (.line [⟨(some 12), none, .ia none 5 (.t 8) (.t 10)⟩, ⟨(some 13), none, .load (some 5) (.t 12)⟩, ⟨(some 5), none, .alloc 0 [(.string ⟨#[]⟩), (.int .u8 0), (.bool false), (.bool false), (.string ⟨#[]⟩)]⟩, ⟨none, none, .store (some 5) (.t 5) (.t 13)⟩])
    (.seq (.seq (.line [⟨(some 14), none, .fa 0 (.t 5)⟩, ⟨(some 15), none, .load none (.t 14)⟩, ⟨(some 16), none, .bin .eql (some .str) (.t 15) (.c (.string ⟨#[]⟩))⟩])
    (.cond (.t 16) (.exit 1) .skip))
    (.seq (.line [⟨(some 17), none, .move (.t 3)⟩, ⟨(some 18), none, .len false (.t 17)⟩, ⟨(some 6), none, .move (.t 18)⟩])
    (.seq (.seq (.any [] [⟨(some 19), none, .move (.t 6)⟩, ⟨(some 20), none, .bin .gtr none (.t 19) (.c (.int .i64 0))⟩, ⟨(some 21), none, .move (.t 20)⟩, ⟨(some 22), (some (21, true)), .move (.t 3)⟩, ⟨(some 23), (some (21, true)), .move (.t 6)⟩, ⟨(some 24), (some (21, true)), .bin .sub none (.t 23) (.c (.int .i64 1))⟩, ⟨(some 25), (some (21, true)), .ia none 5 (.t 22) (.t 24)⟩, ⟨(some 26), (some (21, true)), .fa 1 (.t 25)⟩, ⟨(some 27), (some (21, true)), .load (some 3) (.t 26)⟩, ⟨(some 28), (some (21, true)), .fa 1 (.t 5)⟩, ⟨(some 29), (some (21, true)), .load (some 3) (.t 28)⟩, ⟨(some 30), (some (21, true)), .bin .eql (some (.parts [(0, none, .int), (1, none, .bool), (2, none, .bool)])) (.t 27) (.t 29)⟩, ⟨(some 31), none, .pick (.t 21) (.t 30) (.c (.bool false))⟩, ⟨(some 32), none, .move (.t 31)⟩, ⟨(some 33), (some (32, true)), .move (.t 3)⟩, ⟨(some 34), (some (32, true)), .move (.t 6)⟩, ⟨(some 35), (some (32, true)), .bin .sub none (.t 34) (.c (.int .i64 1))⟩, ⟨(some 36), (some (32, true)), .ia none 5 (.t 33) (.t 35)⟩, ⟨(some 37), (some (32, true)), .fa 4 (.t 36)⟩, ⟨(some 38), (some (32, true)), .load none (.t 37)⟩, ⟨(some 39), (some (32, true)), .bin .eql (some .str) (.t 38) (.c (.string ⟨#[]⟩))⟩, ⟨(some 40), none, .pick (.t 32) (.t 39) (.c (.bool false))⟩, ⟨(some 41), none, .move (.t 40)⟩, ⟨(some 42), (some (41, true)), .fa 4 (.t 5)⟩, ⟨(some 43), (some (41, true)), .load none (.t 42)⟩, ⟨(some 44), (some (41, true)), .bin .eql (some .str) (.t 43) (.c (.string ⟨#[]⟩))⟩, ⟨(some 45), none, .pick (.t 41) (.t 44) (.c (.bool false))⟩] [])
    (.cond (.t 45) (.seq (.any [] [⟨(some 46), none, .move (.t 3)⟩, ⟨(some 47), none, .move (.t 6)⟩, ⟨(some 48), none, .bin .sub none (.t 47) (.c (.int .i64 1))⟩, ⟨(some 49), none, .ia none 5 (.t 46) (.t 48)⟩, ⟨(some 50), none, .fa 0 (.t 49)⟩, ⟨(some 51), none, .load none (.t 50)⟩, ⟨(some 52), none, .fa 0 (.t 5)⟩, ⟨(some 53), none, .load none (.t 52)⟩, ⟨(some 54), none, .bin .add none (.t 51) (.t 53)⟩, ⟨(some 55), none, .ia none 5 (.t 46) (.t 48)⟩, ⟨(some 56), none, .fa 0 (.t 55)⟩] [(false, ⟨none, none, .store none (.t 56) (.t 54)⟩)])
     (.exit 1)) .skip))
    (.line [⟨(some 57), none, .move (.t 3)⟩, ⟨(some 58), none, .load (some 5) (.t 5)⟩, ⟨(some 59), none, .buildSl 5 1 [(.string ⟨#[]⟩), (.int .u8 0), (.bool false), (.bool false), (.string ⟨#[]⟩)] [(0, 5, (.t 58))]⟩, ⟨(some 60), none, .app 5 40 5 (.t 57) (.t 59)⟩, ⟨(some 3), none, .move (.t 60)⟩]))))))
   (.line [⟨(some 61), none, .bin .add none (.t 10) (.c (.int .i64 1))⟩, ⟨(some 10), none, .move (.t 61)⟩])))))))
 (.seq (.line [⟨(some 62), none, .move (.t 3)⟩, ⟨(some 63), none, .build [(.slice none 0 0)] [(0, 1, (.t 62))]⟩, ⟨none, none, .store (some 1) (.t 2) (.t 63)⟩])
 .ret))))⟩
/-- captioner/captionerref09.Plain -/
def g36 : GFun := ⟨19, [.tmp 2],
 (.seq (.line [⟨(some 1), none, .box (.t 0)⟩, ⟨(some 2), none, .move (.c (.string ⟨#[]⟩))⟩])
 (.seq (.line [⟨(some 3), none, .move (.c (.string ⟨#[]⟩))⟩])
 (.seq (.seq (.line [⟨(some 6), none, .fa 0 (.t 1)⟩, ⟨(some 7), none, .load none (.t 6)⟩, ⟨(some 8), none, .len false (.t 7)⟩, ⟨(some 9), none, .move (.c (.int .i64 0))⟩])
 (.block 0 (.loop (.seq (.line [⟨(some 10), none, .bin .lss none (.t 9) (.t 8)⟩])
   (.seq (.cond (.t 10) .skip (.exit 0))
   (.seq (.block 1 (.seq (.line [⟨(some 11), none, .ia none 5 (.t 7) (.t 9)⟩, ⟨(some 12), none, .load (some 5) (.t 11)⟩, ⟨(some 5), none, .alloc 0 [(.string ⟨#[]⟩), (.int .u8 0), (.bool false), (.bool false), (.string ⟨#[]⟩)]⟩, ⟨none, none, .store (some 5) (.t 5) (.t 12)⟩])
    (.line [⟨(some 13), none, .move (.t 3)⟩, ⟨(some 14), none, .fa 0 (.t 5)⟩, ⟨(some 15), none, .load none (.t 14)⟩, ⟨(some 16), none, .bin .add none (.t 13) (.t 15)⟩, ⟨(some 3), none, .move (.t 16)⟩])))
   (.line [⟨(some 17), none, .bin .add none (.t 9) (.c (.int .i64 1))⟩, ⟨(some 9), none, .move (.t 17)⟩])))))))
 (.seq (.line [⟨(some 18), none, .move (.t 3)⟩, ⟨(some 2), none, .move (.t 18)⟩])
 .ret))))⟩
/-- captioner/captionerref09.Len -/
def g37 : GFun := ⟨24, [.tmp 2],
 (.seq (.line [⟨(some 1), none, .box (.t 0)⟩, ⟨(some 2), none, .move (.c (.int .i64 0))⟩])
 (.seq (.line [⟨(some 3), none, .move (.c (.int .i64 0))⟩])
 (.seq (.seq (.line [⟨(some 7), none, .fa 0 (.t 1)⟩, ⟨(some 8), none, .load none (.t 7)⟩, ⟨(some 9), none, .len false (.t 8)⟩, ⟨(some 10), none, .move (.c (.int .i64 0))⟩])
 (.block 0 (.loop (.seq (.line [⟨(some 11), none, .bin .lss none (.t 10) (.t 9)⟩])
   (.seq (.cond (.t 11) .skip (.exit 0))
   (.seq (.block 1 (.seq (.line [⟨(some 12), none, .ia none 5 (.t 8) (.t 10)⟩, ⟨(some 13), none, .load (some 5) (.t 12)⟩, ⟨(some 5), none, .alloc 0 [(.string ⟨#[]⟩), (.int .u8 0), (.bool false), (.bool false), (.string ⟨#[]⟩)]⟩, ⟨none, none, .store (some 5) (.t 5) (.t 13)⟩])
    (.seq (.line [⟨(some 14), none, .fa 0 (.t 5)⟩, ⟨(some 15), none, .load none (.t 14)⟩, ⟨(some 16), none, .call (.c (.func (.func 49) #[] #[])) [(.t 15)]⟩, ⟨(some 6), none, .move (.t 16)⟩])
    (.seq (.seq (.line [⟨(some 17), none, .move (.t 6)⟩, ⟨(some 18), none, .bin .lss none (.t 17) (.c (.int .i64 0))⟩])
    (.cond (.t 18) (.seq (.line [⟨(some 2), none, .move (.c (.int .i64 (-1)))⟩])
     .ret) .skip))
    (.line [⟨(some 19), none, .move (.t 3)⟩, ⟨(some 20), none, .move (.t 6)⟩, ⟨(some 21), none, .bin .add none (.t 19) (.t 20)⟩, ⟨(some 3), none, .move (.t 21)⟩])))))
   (.line [⟨(some 22), none, .bin .add none (.t 10) (.c (.int .i64 1))⟩, ⟨(some 10), none, .move (.t 22)⟩])))))))
 (.seq (.line [⟨(some 23), none, .move (.t 3)⟩, ⟨(some 2), none, .move (.t 23)⟩])
 .ret))))⟩
/-- captioner/style.Valid -/
def g38 : GFun := ⟨6, [.tmp 2],
 (.seq (.line [⟨(some 1), none, .box (.t 0)⟩, ⟨(some 2), none, .move (.c (.bool false))⟩])
 (.seq (.line [⟨(some 3), none, .fa 0 (.t 1)⟩, ⟨(some 4), none, .load none (.t 3)⟩, ⟨(some 5), none, .bin .leq none (.t 4) (.c (.int .u8 6))⟩, ⟨(some 2), none, .move (.t 5)⟩])
 .ret))⟩
/-- captioner/captionerref09.Valid -/
def g39 : GFun := ⟨6, [.tmp 2],
 (.seq (.line [⟨(some 1), none, .box (.t 0)⟩, ⟨(some 2), none, .move (.c (.bool false))⟩])
 (.seq (.line [⟨(some 3), none, .fa 0 (.t 1)⟩, ⟨(some 4), none, .load none (.t 3)⟩, ⟨(some 5), none, .bin .leq none (.t 4) (.c (.int .u8 6))⟩, ⟨(some 2), none, .move (.t 5)⟩])
 .ret))⟩
/-- captioner/style.Of -/
def g40 : GFun := ⟨10, [.cell 4 (some 1)],
 (.seq (.line [⟨(some 3), none, .box (.t 1)⟩, ⟨(some 4), none, .alloc 0 [(.slice none 0 0)]⟩])
 (.seq (.line [⟨(some 5), none, .move (.t 0)⟩, ⟨(some 6), none, .load (some 3) (.t 3)⟩, ⟨(some 7), none, .build [(.string ⟨#[]⟩), (.int .u8 0), (.bool false), (.bool false), (.string ⟨#[]⟩)] [(0, 1, (.t 5)), (1, 3, (.t 6))]⟩, ⟨(some 8), none, .buildSl 5 1 [(.string ⟨#[]⟩), (.int .u8 0), (.bool false), (.bool false), (.string ⟨#[]⟩)] [(0, 5, (.t 7))]⟩, ⟨(some 9), none, .call (.c (.func (.func 48) #[] #[])) [(.t 8)]⟩, ⟨none, none, .store (some 1) (.t 4) (.t 9)⟩])
 .ret))⟩
/-- captioner/captionerref09.Of -/
def g41 : GFun := ⟨11, [.cell 4 (some 1)],
 (.seq (.line [⟨(some 3), none, .box (.t 1)⟩, ⟨(some 4), none, .alloc 0 [(.slice none 0 0)]⟩])
 (.seq (.line [⟨(some 5), none, .move (.t 0)⟩, ⟨(some 6), none, .load (some 3) (.t 3)⟩, ⟨(some 7), none, .build [(.string ⟨#[]⟩), (.int .u8 0), (.bool false), (.bool false), (.string ⟨#[]⟩)] [(0, 1, (.t 5)), (1, 3, (.t 6))]⟩, ⟨(some 8), none, .buildSl 5 1 [(.string ⟨#[]⟩), (.int .u8 0), (.bool false), (.bool false), (.string ⟨#[]⟩)] [(0, 5, (.t 7))]⟩, ⟨(some 9), none, .build [(.slice none 0 0)] [(0, 1, (.t 8))]⟩, ⟨(some 10), none, .call (.c (.func (.func 35) #[] #[])) [(.t 9)]⟩, ⟨none, none, .store (some 1) (.t 4) (.t 10)⟩])
 .ret))⟩
/-- captioner/style.SameRows -/
def g42 : GFun := ⟨8, [.tmp 4],
 (.seq (.line [⟨(some 4), none, .move (.c (.bool false))⟩])
 (.seq (.line [⟨(some 5), none, .move (.t 0)⟩, ⟨(some 6), none, .move (.t 1)⟩, ⟨(some 7), none, .call (.c (.func (.func 67) #[] #[])) [(.t 5), (.t 6), (.c (.func (.func 28) #[] #[]))]⟩, ⟨(some 4), none, .move (.t 7)⟩])
 .ret))⟩
/-- captioner/charset.Chars -/
def g43 : GFun := ⟨19, [.tmp 2],
 (.seq (.line [⟨(some 2), none, .move (.c (.slice none 0 0))⟩])
 (.seq (.seq (.line [⟨(some 6), none, .move (.t 0)⟩, ⟨(some 7), none, .call (.c (.func (.func 51) #[] #[])) [(.t 6)]⟩, ⟨(some 8), none, .un .not (.t 7)⟩])
 (.cond (.t 8) (.seq (.line [⟨(some 2), none, .move (.c (.slice none 0 0))⟩])
  .ret) .skip))
 (.seq (.line [⟨(some 3), none, .move (.c (.slice none 0 0))⟩])
 (.seq (.seq (.line [⟨(some 9), none, .move (.t 0)⟩, ⟨(some 10), none, .rng (.t 9)⟩])
 (.block 0 (.loop (.seq (.line [⟨(some 11), none, .next (.t 10)⟩, ⟨(some 12), none, .ext (.t 11) 0⟩])
   (.seq (.cond (.t 12) .skip (.exit 0))
   (.block 1 (.seq (.line [⟨(some 13), none, .ext (.t 11) 2⟩, ⟨(some 5), none, .move (.t 13)⟩])
    (.line [⟨(some 14), none, .move (.t 3)⟩, ⟨(some 15), none, .move (.t 5)⟩, ⟨(some 16), none, .buildSl 1 1 [(.int .i32 0)] [(0, 1, (.t 15))]⟩, ⟨(some 17), none, .app 1 4 1 (.t 14) (.t 16)⟩, ⟨(some 3), none, .move (.t 17)⟩]))))))))
 (.seq (.line [⟨(some 18), none, .move (.t 3)⟩, ⟨(some 2), none, .move (.t 18)⟩])
 .ret)))))⟩
/-- captioner/captionerref08.Chars -/
def g44 : GFun := ⟨8, [.tmp 2],
 (.seq (.line [⟨(some 2), none, .move (.c (.slice none 0 0))⟩])
 (.seq (.seq (.line [⟨(some 3), none, .move (.t 0)⟩, ⟨(some 4), none, .call (.c (.func (.func 52) #[] #[])) [(.t 3)]⟩, ⟨(some 5), none, .un .not (.t 4)⟩])
 (.cond (.t 5) (.seq (.line [⟨(some 2), none, .move (.c (.slice none 0 0))⟩])
  .ret) .skip))
 (.seq (.line [⟨(some 6), none, .move (.t 0)⟩, ⟨(some 7), none, .call (.c (.func (.func 68) #[] #[])) [(.t 6)]⟩, ⟨(some 2), none, .move (.t 7)⟩])
 .ret)))⟩
/-- captioner/style.limit -/
def g45 : GFun := ⟨18, [.tmp 6, .tmp 7],
 (.seq (.line [⟨(some 6), none, .move (.c (.int .i64 0))⟩, ⟨(some 7), none, .move (.c (.int .i64 0))⟩])
 (.seq (.line [⟨(some 8), none, .move (.t 1)⟩, ⟨(some 9), none, .max (.t 8) [(.c (.int .i64 0))]⟩, ⟨(some 10), none, .move (.t 0)⟩, ⟨(some 11), none, .min (.t 9) [(.t 10)]⟩, ⟨(some 1), none, .move (.t 11)⟩])
 (.seq (.line [⟨(some 12), none, .move (.t 1)⟩, ⟨(some 13), none, .move (.t 2)⟩, ⟨(some 14), none, .move (.t 1)⟩, ⟨(some 15), none, .max (.t 13) [(.t 14)]⟩, ⟨(some 16), none, .move (.t 0)⟩, ⟨(some 17), none, .min (.t 15) [(.t 16)]⟩, ⟨(some 6), none, .move (.t 12)⟩, ⟨(some 7), none, .move (.t 17)⟩])
 .ret)))⟩
/-- captioner/charset.Len -/
def g46 : GFun := ⟨8, [.tmp 2],
 (.seq (.line [⟨(some 2), none, .move (.c (.int .i64 0))⟩])
 (.seq (.seq (.line [⟨(some 3), none, .move (.t 0)⟩, ⟨(some 4), none, .call (.c (.func (.func 51) #[] #[])) [(.t 3)]⟩, ⟨(some 5), none, .un .not (.t 4)⟩])
 (.cond (.t 5) (.seq (.line [⟨(some 2), none, .move (.c (.int .i64 (-1)))⟩])
  .ret) .skip))
 (.seq (.line [⟨(some 6), none, .move (.t 0)⟩, ⟨(some 7), none, .call (.c (.func (.func 69) #[] #[])) [(.t 6)]⟩, ⟨(some 2), none, .move (.t 7)⟩])
 .ret)))⟩
/-- captioner/charset.Slice -/
def g47 : GFun := ⟨26, [.tmp 6],
 (.seq (.line [⟨(some 6), none, .move (.c (.string ⟨#[]⟩))⟩])
 (.seq (.line [⟨(some 8), none, .move (.t 0)⟩, ⟨(some 9), none, .call (.c (.func (.func 43) #[] #[])) [(.t 8)]⟩, ⟨(some 7), none, .move (.t 9)⟩])
 (.seq (.line [⟨(some 10), none, .move (.t 1)⟩, ⟨(some 11), none, .max (.t 10) [(.c (.int .i64 0))]⟩, ⟨(some 12), none, .move (.t 7)⟩, ⟨(some 13), none, .len false (.t 12)⟩, ⟨(some 14), none, .min (.t 11) [(.t 13)]⟩, ⟨(some 1), none, .move (.t 14)⟩])
 (.seq (.line [⟨(some 15), none, .move (.t 2)⟩, ⟨(some 16), none, .move (.t 1)⟩, ⟨(some 17), none, .max (.t 15) [(.t 16)]⟩, ⟨(some 18), none, .move (.t 7)⟩, ⟨(some 19), none, .len false (.t 18)⟩, ⟨(some 20), none, .min (.t 17) [(.t 19)]⟩, ⟨(some 2), none, .move (.t 20)⟩])
 (.seq (.line [⟨(some 21), none, .move (.t 7)⟩, ⟨(some 22), none, .move (.t 1)⟩, ⟨(some 23), none, .move (.t 2)⟩, ⟨(some 24), none, .slice (.sl 1) (.t 21) (some (.t 22)) (some (.t 23)) none⟩, ⟨(some 25), none, .call (.c (.func (.func 70) #[] #[])) [(.t 24)]⟩, ⟨(some 6), none, .move (.t 25)⟩])
 .ret)))))⟩
/-- captioner/style.norm -/
def g48 : GFun := ⟨53, [.cell 2 (some 1)],
 (.seq (.line [⟨(some 2), none, .alloc 0 [(.slice none 0 0)]⟩])
 (.seq (.line [⟨(some 3), none, .alloc 0 [(.slice none 0 0)]⟩])
 (.seq (.seq (.line [⟨(some 7), none, .move (.t 0)⟩, ⟨(some 8), none, .len false (.t 7)⟩, ⟨(some 9), none, .move (.c (.int .i64 0))⟩])
 (.block 0 (.loop (.seq (.line [⟨(some 10), none, .bin .lss none (.t 9) (.t 8)⟩])
   (.seq (.cond (.t 10) .skip (.exit 0))
   (.seq (.block 1 (.seq (.line [⟨(some 11), none, .ia none 5 (.t 7) (.t 9)⟩, ⟨(some 12), none, .load (some 5) (.t 11)⟩, ⟨(some 5), none, .alloc 0 [(.string ⟨#[]⟩), (.int .u8 0), (.bool false), (.bool false), (.string ⟨#[]⟩)]⟩, ⟨none, none, .store (some 5) (.t 5) (.t 12)⟩])
    (.seq (.line [⟨(some 13), none, .fa 0 (.t 3)⟩, ⟨(some 14), none, .load none (.t 13)⟩, ⟨(some 15), none, .len false (.t 14)⟩, ⟨(some 6), none, .move (.t 15)⟩])
    (.block 2 (.seq (.line [⟨(some 23), none, .fa 0 (.t 5)⟩, ⟨(some 24), none, .load none (.t 23)⟩, ⟨(some 25), none, .bin .eql (some .str) (.t 24) (.c (.string ⟨#[]⟩))⟩, ⟨(some 22), none, .move (.t 25)⟩])
     (.cond (.t 22) .skip (.seq (.any [] [⟨(some 27), none, .move (.t 6)⟩, ⟨(some 28), none, .bin .gtr none (.t 27) (.c (.int .i64 0))⟩, ⟨(some 29), none, .move (.t 28)⟩, ⟨(some 30), (some (29, true)), .fa 0 (.t 3)⟩, ⟨(some 31), (some (29, true)), .load none (.t 30)⟩, ⟨(some 32), (some (29, true)), .move (.t 6)⟩, ⟨(some 33), (some (29, true)), .bin .sub none (.t 32) (.c (.int .i64 1))⟩, ⟨(some 34), (some (29, true)), .ia none 5 (.t 31) (.t 33)⟩, ⟨(some 35), (some (29, true)), .load (some 5) (.t 34)⟩, ⟨(some 36), (some (29, true)), .load (some 5) (.t 5)⟩] [(false, ⟨(some 37), (some (29, true)), .call (.c (.func (.func 66) #[] #[])) [(.t 35), (.t 36)]⟩), (false, ⟨(some 38), none, .pick (.t 29) (.t 37) (.c (.bool false))⟩), (false, ⟨(some 26), none, .move (.t 38)⟩)])
      (.cond (.t 26) (.any [] [⟨(some 39), none, .fa 0 (.t 3)⟩, ⟨(some 40), none, .load none (.t 39)⟩, ⟨(some 41), none, .move (.t 6)⟩, ⟨(some 42), none, .bin .sub none (.t 41) (.c (.int .i64 1))⟩, ⟨(some 43), none, .ia none 5 (.t 40) (.t 42)⟩, ⟨(some 44), none, .fa 0 (.t 43)⟩, ⟨(some 45), none, .load none (.t 44)⟩, ⟨(some 46), none, .fa 0 (.t 5)⟩, ⟨(some 47), none, .load none (.t 46)⟩, ⟨(some 48), none, .bin .add none (.t 45) (.t 47)⟩, ⟨(some 49), none, .ia none 5 (.t 40) (.t 42)⟩, ⟨(some 50), none, .fa 0 (.t 49)⟩] [(false, ⟨none, none, .store none (.t 50) (.t 48)⟩)]) (.line [⟨(some 16), none, .fa 0 (.t 3)⟩, ⟨(some 17), none, .load none (.t 16)⟩, ⟨(some 18), none, .load (some 5) (.t 5)⟩, ⟨(some 19), none, .buildSl 5 1 [(.string ⟨#[]⟩), (.int .u8 0), (.bool false), (.bool false), (.string ⟨#[]⟩)] [(0, 5, (.t 18))]⟩, ⟨(some 20), none, .app 5 40 5 (.t 17) (.t 19)⟩, ⟨(some 21), none, .fa 0 (.t 3)⟩, ⟨none, none, .store none (.t 21) (.t 20)⟩])))))))))
   (.line [⟨(some 51), none, .bin .add none (.t 9) (.c (.int .i64 1))⟩, ⟨(some 9), none, .move (.t 51)⟩])))))))
 (.seq (.line [⟨(some 52), none, .load (some 1) (.t 3)⟩, ⟨none, none, .store (some 1) (.t 2) (.t 52)⟩])
 .ret))))⟩
/-- captioner/captionerref08.Len -/
def g49 : GFun := ⟨9, [.tmp 2],
 (.seq (.line [⟨(some 2), none, .move (.c (.int .i64 0))⟩])
 (.seq (.seq (.line [⟨(some 3), none, .move (.t 0)⟩, ⟨(some 4), none, .call (.c (.func (.func 52) #[] #[])) [(.t 3)]⟩, ⟨(some 5), none, .un .not (.t 4)⟩])
 (.cond (.t 5) (.seq (.line [⟨(some 2), none, .move (.c (.int .i64 (-1)))⟩])
  .ret) .skip))
 (.seq (.line [⟨(some 6), none, .move (.t 0)⟩, ⟨(some 7), none, .call (.c (.func (.func 68) #[] #[])) [(.t 6)]⟩, ⟨(some 8), none, .len false (.t 7)⟩, ⟨(some 2), none, .move (.t 8)⟩])
 .ret)))⟩
/-- captioner/captionerref08.Slice -/
def g50 : GFun := ⟨29, [.tmp 6],
 (.seq (.line [⟨(some 6), none, .move (.c (.string ⟨#[]⟩))⟩])
 (.seq (.seq (.line [⟨(some 8), none, .move (.t 0)⟩, ⟨(some 9), none, .call (.c (.func (.func 52) #[] #[])) [(.t 8)]⟩, ⟨(some 10), none, .un .not (.t 9)⟩])
 (.cond (.t 10) (.seq (.line [⟨(some 6), none, .move (.c (.string ⟨#[]⟩))⟩])
  .ret) .skip))
 (.seq (.line [⟨(some 11), none, .move (.t 0)⟩, ⟨(some 12), none, .call (.c (.func (.func 68) #[] #[])) [(.t 11)]⟩, ⟨(some 7), none, .move (.t 12)⟩])
 (.seq (.line [⟨(some 13), none, .move (.t 1)⟩, ⟨(some 14), none, .max (.t 13) [(.c (.int .i64 0))]⟩, ⟨(some 15), none, .move (.t 7)⟩, ⟨(some 16), none, .len false (.t 15)⟩, ⟨(some 17), none, .min (.t 14) [(.t 16)]⟩, ⟨(some 1), none, .move (.t 17)⟩])
 (.seq (.line [⟨(some 18), none, .move (.t 2)⟩, ⟨(some 19), none, .move (.t 1)⟩, ⟨(some 20), none, .max (.t 18) [(.t 19)]⟩, ⟨(some 21), none, .move (.t 7)⟩, ⟨(some 22), none, .len false (.t 21)⟩, ⟨(some 23), none, .min (.t 20) [(.t 22)]⟩, ⟨(some 2), none, .move (.t 23)⟩])
 (.seq (.line [⟨(some 24), none, .move (.t 7)⟩, ⟨(some 25), none, .move (.t 1)⟩, ⟨(some 26), none, .move (.t 2)⟩, ⟨(some 27), none, .slice (.sl 1) (.t 24) (some (.t 25)) (some (.t 26)) none⟩, ⟨(some 28), none, .call (.c (.func (.func 71) #[] #[])) [(.t 27)]⟩, ⟨(some 6), none, .move (.t 28)⟩])
 .ret))))))⟩
/-- captioner/charset.Valid -/
def g51 : GFun := ⟨16, [.tmp 2],
 (.seq (.line [⟨(some 2), none, .move (.c (.bool false))⟩])
 (.seq (.seq (.line [⟨(some 5), none, .move (.t 0)⟩, ⟨(some 6), none, .call (.c (.func (.func 72) #[] #[])) [(.t 5)]⟩, ⟨(some 7), none, .un .not (.t 6)⟩])
 (.cond (.t 7) (.seq (.line [⟨(some 2), none, .move (.c (.bool false))⟩])
  .ret) .skip))
 (.seq (.seq (.line [⟨(some 8), none, .move (.t 0)⟩, ⟨(some 9), none, .rng (.t 8)⟩])
 (.block 0 (.loop (.seq (.line [⟨(some 10), none, .next (.t 9)⟩, ⟨(some 11), none, .ext (.t 10) 0⟩])
   (.seq (.cond (.t 11) .skip (.exit 0))
   (.block 1 (.seq (.line [⟨(some 12), none, .ext (.t 10) 2⟩, ⟨(some 4), none, .move (.t 12)⟩])
    (.seq (.line [⟨(some 13), none, .move (.t 4)⟩, ⟨(some 14), none, .call (.c (.func (.func 73) #[] #[])) [(.t 13)]⟩, ⟨(some 15), none, .bin .lss none (.t 14) (.c (.int .i64 0))⟩])
    (.cond (.t 15) (.seq (.line [⟨(some 2), none, .move (.c (.bool false))⟩])
     .ret) .skip)))))))))
 (.seq (.line [⟨(some 2), none, .move (.c (.bool true))⟩])
 .ret))))⟩
/-- captioner/captionerref08.Valid -/
def g52 : GFun := ⟨13, [.tmp 2],
 (.seq (.line [⟨(some 2), none, .move (.c (.bool false))⟩])
 (.seq (.seq (.line [⟨(some 5), none, .move (.t 0)⟩, ⟨(some 6), none, .rng (.t 5)⟩])
 (.block 0 (.loop (.seq (.line [⟨(some 7), none, .next (.t 6)⟩, ⟨(some 8), none, .ext (.t 7) 0⟩])
   (.seq (.cond (.t 8) .skip (.exit 0))
   (.block 1 (.seq (.line [⟨(some 9), none, .ext (.t 7) 2⟩, ⟨(some 4), none, .move (.t 9)⟩])
    (.seq (.line [⟨(some 10), none, .move (.t 4)⟩, ⟨(some 11), none, .call (.c (.func (.func 74) #[] #[])) [(.t 10)]⟩, ⟨(some 12), none, .bin .lss none (.t 11) (.c (.int .i64 0))⟩])
    (.cond (.t 12) (.seq (.line [⟨(some 2), none, .move (.c (.bool false))⟩])
     .ret) .skip)))))))))
 (.seq (.line [⟨(some 2), none, .move (.c (.bool true))⟩])
 .ret)))⟩
/-- slices.Concat[[]captioner/api.Run,captioner/api.Run] -/
def g53 : GFun := ⟨36, [.tmp 2],
 (.seq (.line [⟨(some 2), none, .move (.c (.slice none 0 0))⟩])
 (.seq (.line [⟨(some 3), none, .move (.c (.int .i64 0))⟩])
 (.seq (.seq (.line [⟨(some 9), none, .move (.t 0)⟩, ⟨(some 10), none, .len false (.t 9)⟩, ⟨(some 11), none, .move (.c (.int .i64 0))⟩])
 (.block 0 (.loop (.seq (.line [⟨(some 12), none, .bin .lss none (.t 11) (.t 10)⟩])
   (.seq (.cond (.t 12) .skip (.exit 0))
   (.seq (.block 1 (.seq (.line [⟨(some 13), none, .ia none 1 (.t 9) (.t 11)⟩, ⟨(some 14), none, .load none (.t 13)⟩, ⟨(some 5), none, .move (.t 14)⟩])
    (.seq (.line [⟨(some 15), none, .move (.t 3)⟩, ⟨(some 16), none, .move (.t 5)⟩, ⟨(some 17), none, .len false (.t 16)⟩, ⟨(some 18), none, .bin .add none (.t 15) (.t 17)⟩, ⟨(some 3), none, .move (.t 18)⟩])
    (.seq (.line [⟨(some 19), none, .move (.t 3)⟩, ⟨(some 20), none, .bin .lss none (.t 19) (.c (.int .i64 0))⟩])
    (.cond (.t 20) (.line [⟨(some 21), none, .bad⟩, ⟨none, none, .bad⟩]) .skip)))))
   (.line [⟨(some 22), none, .bin .add none (.t 11) (.c (.int .i64 1))⟩, ⟨(some 11), none, .move (.t 22)⟩])))))))
 (.seq (.line [⟨(some 23), none, .move (.t 3)⟩, ⟨(some 24), none, .call (.c (.func (.func 75) #[] #[])) [(.c (.slice none 0 0)), (.t 23)]⟩, ⟨(some 6), none, .move (.t 24)⟩])
 (.seq (.seq (.line [⟨(some 25), none, .move (.t 0)⟩, ⟨(some 26), none, .len false (.t 25)⟩, ⟨(some 27), none, .move (.c (.int .i64 0))⟩])
 (.block 2 (.loop (.seq (.line [⟨(some 28), none, .bin .lss none (.t 27) (.t 26)⟩])
   (.seq (.cond (.t 28) .skip (.exit 2))
   (.seq (.block 3 (.seq (.line [⟨(some 29), none, .ia none 1 (.t 25) (.t 27)⟩, ⟨(some 30), none, .load none (.t 29)⟩, ⟨(some 8), none, .move (.t 30)⟩])
    (.line [⟨(some 31), none, .move (.t 6)⟩, ⟨(some 32), none, .move (.t 8)⟩, ⟨(some 33), none, .app 5 40 5 (.t 31) (.t 32)⟩, ⟨(some 6), none, .move (.t 33)⟩])))
   (.line [⟨(some 34), none, .bin .add none (.t 27) (.c (.int .i64 1))⟩, ⟨(some 27), none, .move (.t 34)⟩])))))))
 (.seq (.line [⟨(some 35), none, .move (.t 6)⟩, ⟨(some 2), none, .move (.t 35)⟩])
 .ret))))))⟩
/-- (*strings.Builder).WriteString -/
def g54 : GFun := ⟨19, [.tmp 4, .tmp 5],
 (.seq (.line [⟨(some 4), none, .move (.c (.int .i64 0))⟩, ⟨(some 5), none, .move (.c .nilIface)⟩])
 (.seq (.line [⟨(some 6), none, .move (.t 0)⟩, ⟨(some 7), none, .call (.c (.func (.func 76) #[] #[])) [(.t 6)]⟩])
 (.seq (.line [⟨(some 8), none, .move (.t 0)⟩, ⟨(some 9), none, .move (.t 0)⟩, ⟨(some 10), none, .nilc (.t 9)⟩, ⟨(some 11), none, .fa 1 (.t 10)⟩, ⟨(some 12), none, .load none (.t 11)⟩, ⟨(some 13), none, .move (.t 1)⟩, ⟨(some 14), none, .app 1 1 257 (.t 12) (.t 13)⟩, ⟨(some 15), none, .nilc (.t 8)⟩, ⟨(some 16), none, .fa 1 (.t 15)⟩, ⟨none, none, .store none (.t 16) (.t 14)⟩])
 (.seq (.line [⟨(some 17), none, .move (.t 1)⟩, ⟨(some 18), none, .len true (.t 17)⟩, ⟨(some 4), none, .move (.t 18)⟩, ⟨(some 5), none, .move (.c .nilIface)⟩])
 .ret))))⟩

/-- captioner/style.tag -/
def g56 : GFun := ⟨57, [.cell 2 (some 5), .tmp 3],
 (.seq (.line [⟨(some 2), none, .alloc 0 [(.string ⟨#[]⟩), (.int .u8 0), (.bool false), (.bool false), (.string ⟨#[]⟩)]⟩, ⟨(some 3), none, .move (.c (.string ⟨#[]⟩))⟩])
 (.seq (.line [⟨(some 4), none, .alloc 0 [(.string ⟨#[]⟩), (.int .u8 0), (.bool false), (.bool false), (.string ⟨#[]⟩)]⟩])
 (.seq (.line [⟨(some 9), none, .move (.t 0)⟩, ⟨(some 10), none, .slice .str (.t 9) (some (.c (.int .i64 1))) none none⟩, ⟨(some 0), none, .move (.t 10)⟩])
 (.seq (.seq (.line [⟨(some 11), none, .move (.t 0)⟩, ⟨(some 12), none, .bin .neq (some .str) (.t 11) (.c (.string ⟨#[]⟩))⟩])
 (.cond (.t 12) (.seq (.line [⟨(some 13), none, .move (.t 0)⟩, ⟨(some 14), none, .ix none (.t 13) (.c (.int .i64 0))⟩, ⟨(some 15), none, .call (.c (.func (.func 77) #[] #[])) [(.c (.string ⟨#[103, 98, 99, 114, 121, 109]⟩)), (.t 14)]⟩, ⟨(some 5), none, .move (.t 15)⟩])
  (.seq (.line [⟨(some 16), none, .move (.t 5)⟩, ⟨(some 17), none, .bin .geq none (.t 16) (.c (.int .i64 0))⟩])
  (.cond (.t 17) (.seq (.line [⟨(some 18), none, .move (.t 5)⟩, ⟨(some 19), none, .bin .add none (.t 18) (.c (.int .i64 1))⟩, ⟨(some 20), none, .conv (.int .u8) (.t 19)⟩, ⟨(some 21), none, .fa 1 (.t 4)⟩, ⟨(some 22), none, .fa 0 (.t 21)⟩, ⟨none, none, .store none (.t 22) (.t 20)⟩])
   (.line [⟨(some 23), none, .move (.t 0)⟩, ⟨(some 24), none, .slice .str (.t 23) (some (.c (.int .i64 1))) none none⟩, ⟨(some 0), none, .move (.t 24)⟩])) .skip))) .skip))
 (.seq (.line [⟨(some 26), none, .move (.t 0)⟩, ⟨(some 27), none, .call (.c (.func (.func 78) #[] #[])) [(.t 26), (.c (.string ⟨#[105]⟩))]⟩, ⟨(some 25), none, .move (.t 27)⟩, ⟨(some 28), none, .ext (.t 25) 0⟩, ⟨(some 29), none, .ext (.t 25) 1⟩, ⟨(some 0), none, .move (.t 28)⟩, ⟨(some 30), none, .fa 1 (.t 4)⟩, ⟨(some 31), none, .fa 1 (.t 30)⟩, ⟨none, none, .store none (.t 31) (.t 29)⟩])
 (.seq (.line [⟨(some 33), none, .move (.t 0)⟩, ⟨(some 34), none, .call (.c (.func (.func 78) #[] #[])) [(.t 33), (.c (.string ⟨#[117]⟩))]⟩, ⟨(some 32), none, .move (.t 34)⟩, ⟨(some 35), none, .ext (.t 32) 0⟩, ⟨(some 36), none, .ext (.t 32) 1⟩, ⟨(some 0), none, .move (.t 35)⟩, ⟨(some 37), none, .fa 1 (.t 4)⟩, ⟨(some 38), none, .fa 2 (.t 37)⟩, ⟨none, none, .store none (.t 38) (.t 36)⟩])
 (.seq (.seq (.line [⟨(some 40), none, .move (.t 0)⟩, ⟨(some 41), none, .call (.c (.func (.func 78) #[] #[])) [(.t 40), (.c (.string ⟨#[58]⟩))]⟩, ⟨(some 39), none, .move (.t 41)⟩, ⟨(some 42), none, .ext (.t 39) 0⟩, ⟨(some 43), none, .ext (.t 39) 1⟩, ⟨(some 6), none, .move (.t 42)⟩, ⟨(some 7), none, .move (.t 43)⟩])
 (.seq (.line [⟨(some 44), none, .move (.t 7)⟩])
 (.cond (.t 44) (.seq (.line [⟨(some 8), none, .move (.c (.int .i64 0))⟩])
  (.seq (.line [⟨(some 46), none, .move (.t 6)⟩, ⟨(some 47), none, .call (.c (.func (.func 57) #[] #[])) [(.t 46)]⟩, ⟨(some 45), none, .move (.t 47)⟩, ⟨(some 48), none, .ext (.t 45) 0⟩, ⟨(some 49), none, .ext (.t 45) 1⟩, ⟨(some 50), none, .fa 4 (.t 4)⟩, ⟨none, none, .store none (.t 50) (.t 48)⟩, ⟨(some 8), none, .move (.t 49)⟩])
  (.line [⟨(some 51), none, .move (.t 6)⟩, ⟨(some 52), none, .move (.t 8)⟩, ⟨(some 53), none, .slice .str (.t 51) (some (.t 52)) none none⟩, ⟨(some 0), none, .move (.t 53)⟩]))) .skip)))
 (.seq (.any [] [⟨(some 54), none, .load (some 5) (.t 4)⟩, ⟨(some 55), none, .move (.t 0)⟩, ⟨(some 56), none, .call (.c (.func (.func 79) #[] #[])) [(.t 55), (.c (.string ⟨#[125]⟩))]⟩] [(false, ⟨none, none, .store (some 5) (.t 2) (.t 54)⟩), (false, ⟨(some 3), none, .move (.t 56)⟩)])
 .ret))))))))⟩
/-- captioner/style.plain -/
def g57 : GFun := ⟨46, [.tmp 2, .tmp 3],
 (.seq (.line [⟨(some 2), none, .move (.c (.string ⟨#[]⟩))⟩, ⟨(some 3), none, .move (.c (.int .i64 0))⟩])
 (.seq (.line [⟨(some 4), none, .move (.c (.slice none 0 0))⟩])
 (.seq (.line [⟨(some 5), none, .move (.c (.int .i64 0))⟩])
 (.seq (.block 0 (.loop (.seq (.seq (.line [⟨(some 6), none, .move (.t 5)⟩, ⟨(some 7), none, .move (.t 0)⟩, ⟨(some 8), none, .len true (.t 7)⟩, ⟨(some 9), none, .bin .lss none (.t 6) (.t 8)⟩, ⟨(some 10), none, .move (.t 9)⟩, ⟨(some 11), (some (10, true)), .move (.t 0)⟩, ⟨(some 12), (some (10, true)), .move (.t 5)⟩, ⟨(some 13), (some (10, true)), .ix none (.t 11) (.t 12)⟩, ⟨(some 14), (some (10, true)), .bin .neq (some .int) (.t 13) (.c (.int .u8 123))⟩, ⟨(some 15), none, .pick (.t 10) (.t 14) (.c (.bool false))⟩, ⟨(some 16), none, .move (.t 15)⟩, ⟨(some 17), (some (16, true)), .move (.t 0)⟩, ⟨(some 18), (some (16, true)), .move (.t 5)⟩, ⟨(some 19), (some (16, true)), .ix none (.t 17) (.t 18)⟩, ⟨(some 20), (some (16, true)), .bin .neq (some .int) (.t 19) (.c (.int .u8 125))⟩, ⟨(some 21), none, .pick (.t 16) (.t 20) (.c (.bool false))⟩])
   (.cond (.t 21) .skip (.exit 0)))
   (.block 1 (.seq (.seq (.line [⟨(some 22), none, .move (.t 0)⟩, ⟨(some 23), none, .move (.t 5)⟩, ⟨(some 24), none, .ix none (.t 22) (.t 23)⟩, ⟨(some 25), none, .bin .eql (some .int) (.t 24) (.c (.int .u8 92))⟩, ⟨(some 26), none, .move (.t 25)⟩, ⟨(some 27), (some (26, true)), .move (.t 5)⟩, ⟨(some 28), (some (26, true)), .bin .add none (.t 27) (.c (.int .i64 1))⟩, ⟨(some 29), (some (26, true)), .move (.t 0)⟩, ⟨(some 30), (some (26, true)), .len true (.t 29)⟩, ⟨(some 31), (some (26, true)), .bin .lss none (.t 28) (.t 30)⟩, ⟨(some 32), none, .pick (.t 26) (.t 31) (.c (.bool false))⟩])
    (.cond (.t 32) (.line [⟨(some 33), none, .move (.t 5)⟩, ⟨(some 34), none, .bin .add none (.t 33) (.c (.int .i64 1))⟩, ⟨(some 5), none, .move (.t 34)⟩]) .skip))
    (.seq (.line [⟨(some 35), none, .move (.t 4)⟩, ⟨(some 36), none, .move (.t 0)⟩, ⟨(some 37), none, .move (.t 5)⟩, ⟨(some 38), none, .ix none (.t 36) (.t 37)⟩, ⟨(some 39), none, .buildSl 257 1 [(.int .u8 0)] [(0, 1, (.t 38))]⟩, ⟨(some 40), none, .app 1 1 257 (.t 35) (.t 39)⟩, ⟨(some 4), none, .move (.t 40)⟩])
    (.line [⟨(some 41), none, .move (.t 5)⟩, ⟨(some 42), none, .bin .add none (.t 41) (.c (.int .i64 1))⟩, ⟨(some 5), none, .move (.t 42)⟩])))))))
 (.seq (.line [⟨(some 43), none, .move (.t 4)⟩, ⟨(some 44), none, .conv .ofBytes (.t 43)⟩, ⟨(some 45), none, .move (.t 5)⟩, ⟨(some 2), none, .move (.t 44)⟩, ⟨(some 3), none, .move (.t 45)⟩])
 .ret)))))⟩
/-- captioner/captionerref09.until -/
def g58 : GFun := ⟨62, [.tmp 6, .tmp 7],
 (.seq (.line [⟨(some 6), none, .move (.c (.string ⟨#[]⟩))⟩, ⟨(some 7), none, .move (.c (.int .i64 0))⟩])
 (.seq (.line [⟨(some 8), none, .move (.c (.string ⟨#[]⟩))⟩])
 (.seq (.block 0 (.loop (.seq (.seq (.line [⟨(some 10), none, .move (.t 1)⟩, ⟨(some 11), none, .move (.t 0)⟩, ⟨(some 12), none, .len true (.t 11)⟩, ⟨(some 13), none, .bin .lss none (.t 10) (.t 12)⟩])
   (.cond (.t 13) .skip (.exit 0)))
   (.block 1 (.seq (.seq (.line [⟨(some 14), none, .move (.t 0)⟩, ⟨(some 15), none, .move (.t 1)⟩, ⟨(some 16), none, .ix none (.t 14) (.t 15)⟩, ⟨(some 17), none, .bin .eql (some .int) (.t 16) (.c (.int .u8 92))⟩, ⟨(some 18), none, .move (.t 17)⟩, ⟨(some 19), (some (18, true)), .move (.t 1)⟩, ⟨(some 20), (some (18, true)), .bin .add none (.t 19) (.c (.int .i64 1))⟩, ⟨(some 21), (some (18, true)), .move (.t 0)⟩, ⟨(some 22), (some (18, true)), .len true (.t 21)⟩, ⟨(some 23), (some (18, true)), .bin .lss none (.t 20) (.t 22)⟩, ⟨(some 24), none, .pick (.t 18) (.t 23) (.c (.bool false))⟩])
    (.cond (.t 24) (.seq (.line [⟨(some 25), none, .move (.t 1)⟩, ⟨(some 26), none, .bin .add none (.t 25) (.c (.int .i64 1))⟩, ⟨(some 1), none, .move (.t 26)⟩])
     (.seq (.line [⟨(some 27), none, .move (.t 8)⟩, ⟨(some 28), none, .move (.t 0)⟩, ⟨(some 29), none, .move (.t 1)⟩, ⟨(some 30), none, .move (.t 1)⟩, ⟨(some 31), none, .bin .add none (.t 30) (.c (.int .i64 1))⟩, ⟨(some 32), none, .slice .str (.t 28) (some (.t 29)) (some (.t 31)) none⟩, ⟨(some 33), none, .bin .add none (.t 27) (.t 32)⟩, ⟨(some 8), none, .move (.t 33)⟩])
     (.seq (.line [⟨(some 34), none, .move (.t 1)⟩, ⟨(some 35), none, .bin .add none (.t 34) (.c (.int .i64 1))⟩, ⟨(some 1), none, .move (.t 35)⟩])
     (.exit 1)))) .skip))
    (.seq (.seq (.line [⟨(some 9), none, .move (.c (.int .i64 0))⟩])
    (.block 2 (.loop (.seq (.seq (.line [⟨(some 36), none, .move (.t 9)⟩, ⟨(some 37), none, .move (.t 2)⟩, ⟨(some 38), none, .len true (.t 37)⟩, ⟨(some 39), none, .bin .lss none (.t 36) (.t 38)⟩])
      (.cond (.t 39) .skip (.exit 2)))
      (.seq (.block 3 (.seq (.any [] [⟨(some 42), none, .move (.t 0)⟩, ⟨(some 43), none, .move (.t 1)⟩, ⟨(some 44), none, .ix none (.t 42) (.t 43)⟩, ⟨(some 45), none, .move (.t 2)⟩, ⟨(some 46), none, .move (.t 9)⟩, ⟨(some 47), none, .ix none (.t 45) (.t 46)⟩, ⟨(some 48), none, .bin .eql (some .int) (.t 44) (.t 47)⟩] [])
       (.cond (.t 48) (.seq (.line [⟨(some 49), none, .move (.t 8)⟩, ⟨(some 50), none, .move (.t 1)⟩, ⟨(some 6), none, .move (.t 49)⟩, ⟨(some 7), none, .move (.t 50)⟩])
        .ret) .skip)))
      (.line [⟨(some 40), none, .move (.t 9)⟩, ⟨(some 41), none, .bin .add none (.t 40) (.c (.int .i64 1))⟩, ⟨(some 9), none, .move (.t 41)⟩]))))))
    (.seq (.line [⟨(some 51), none, .move (.t 8)⟩, ⟨(some 52), none, .move (.t 0)⟩, ⟨(some 53), none, .move (.t 1)⟩, ⟨(some 54), none, .move (.t 1)⟩, ⟨(some 55), none, .bin .add none (.t 54) (.c (.int .i64 1))⟩, ⟨(some 56), none, .slice .str (.t 52) (some (.t 53)) (some (.t 55)) none⟩, ⟨(some 57), none, .bin .add none (.t 51) (.t 56)⟩, ⟨(some 8), none, .move (.t 57)⟩])
    (.line [⟨(some 58), none, .move (.t 1)⟩, ⟨(some 59), none, .bin .add none (.t 58) (.c (.int .i64 1))⟩, ⟨(some 1), none, .move (.t 59)⟩]))))))))
 (.seq (.line [⟨(some 60), none, .move (.t 8)⟩, ⟨(some 61), none, .move (.t 1)⟩, ⟨(some 6), none, .move (.t 60)⟩, ⟨(some 7), none, .move (.t 61)⟩])
 .ret))))⟩
/-- captioner/captionerref09.ParseLetters -/
def g59 : GFun := ⟨28, [.cell 2 (some 3), .tmp 3],
 (.seq (.line [⟨(some 2), none, .alloc 0 [(.int .u8 0), (.bool false), (.bool false)]⟩, ⟨(some 3), none, .move (.c (.bool false))⟩])
 (.seq (.seq (.line [⟨(some 4), none, .move (.c (.int .u8 0))⟩])
 (.block 0 (.loop (.seq (.seq (.line [⟨(some 7), none, .move (.t 4)⟩, ⟨(some 8), none, .bin .leq none (.t 7) (.c (.int .u8 6))⟩])
   (.cond (.t 8) .skip (.exit 0)))
   (.seq (.block 1 (.seq (.line [⟨(some 11), none, .move (.c (.int .i64 0))⟩])
    (.block 2 (.loop (.seq (.line [⟨(some 12), none, .bin .lss none (.t 11) (.c (.int .i64 4))⟩])
      (.seq (.cond (.t 12) .skip (.exit 2))
      (.seq (.block 3 (.seq (.line [⟨(some 13), none, .move (.t 11)⟩, ⟨(some 5), none, .move (.t 13)⟩])
       (.seq (.line [⟨(some 14), none, .move (.t 4)⟩, ⟨(some 15), none, .move (.t 5)⟩, ⟨(some 16), none, .bin .rem none (.t 15) (.c (.int .i64 2))⟩, ⟨(some 17), none, .bin .eql (some .int) (.t 16) (.c (.int .i64 1))⟩, ⟨(some 18), none, .move (.t 5)⟩, ⟨(some 19), none, .bin .geq none (.t 18) (.c (.int .i64 2))⟩, ⟨(some 20), none, .build [(.int .u8 0), (.bool false), (.bool false)] [(0, 1, (.t 14)), (1, 1, (.t 17)), (2, 1, (.t 19))]⟩, ⟨(some 6), none, .alloc 0 [(.int .u8 0), (.bool false), (.bool false)]⟩, ⟨none, none, .store (some 3) (.t 6) (.t 20)⟩])
       (.seq (.line [⟨(some 21), none, .load (some 3) (.t 6)⟩, ⟨(some 22), none, .call (.c (.func (.func 61) #[] #[])) [(.t 21)]⟩, ⟨(some 23), none, .move (.t 0)⟩, ⟨(some 24), none, .bin .eql (some .str) (.t 22) (.t 23)⟩])
       (.cond (.t 24) (.seq (.line [⟨(some 25), none, .load (some 3) (.t 6)⟩, ⟨none, none, .store (some 3) (.t 2) (.t 25)⟩, ⟨(some 3), none, .move (.c (.bool true))⟩])
        .ret) .skip)))))
      (.line [⟨(some 26), none, .bin .add none (.t 11) (.c (.int .i64 1))⟩, ⟨(some 11), none, .move (.t 26)⟩]))))))))
   (.line [⟨(some 9), none, .move (.t 4)⟩, ⟨(some 10), none, .bin .add none (.t 9) (.c (.int .u8 1))⟩, ⟨(some 4), none, .move (.t 10)⟩]))))))
 (.seq (.line [⟨(some 27), none, .build [(.int .u8 0), (.bool false), (.bool false)] []⟩, ⟨none, none, .store (some 3) (.t 2) (.t 27)⟩, ⟨(some 3), none, .move (.c (.bool false))⟩])
 .ret)))⟩
/-- captioner/style.escape -/
def g60 : GFun := ⟨38, [.tmp 2],
 (.seq (.line [⟨(some 2), none, .move (.c (.string ⟨#[]⟩))⟩])
 (.seq (.line [⟨(some 3), none, .move (.c (.slice none 0 0))⟩])
 (.seq (.seq (.line [⟨(some 5), none, .move (.t 0)⟩, ⟨(some 6), none, .len true (.t 5)⟩, ⟨(some 7), none, .move (.c (.int .i64 0))⟩])
 (.block 0 (.loop (.seq (.line [⟨(some 8), none, .bin .lss none (.t 7) (.t 6)⟩])
   (.seq (.cond (.t 8) .skip (.exit 0))
   (.seq (.block 1 (.seq (.line [⟨(some 9), none, .move (.t 7)⟩, ⟨(some 4), none, .move (.t 9)⟩])
    (.seq (.seq (.line [⟨(some 10), none, .move (.t 0)⟩, ⟨(some 11), none, .move (.t 4)⟩, ⟨(some 12), none, .ix none (.t 10) (.t 11)⟩, ⟨(some 13), none, .bin .eql (some .int) (.t 12) (.c (.int .u8 123))⟩, ⟨(some 14), none, .move (.t 13)⟩, ⟨(some 15), (some (14, false)), .move (.t 0)⟩, ⟨(some 16), (some (14, false)), .move (.t 4)⟩, ⟨(some 17), (some (14, false)), .ix none (.t 15) (.t 16)⟩, ⟨(some 18), (some (14, false)), .bin .eql (some .int) (.t 17) (.c (.int .u8 125))⟩, ⟨(some 19), none, .pick (.t 14) (.c (.bool true)) (.t 18)⟩, ⟨(some 20), none, .move (.t 19)⟩, ⟨(some 21), (some (20, false)), .move (.t 0)⟩, ⟨(some 22), (some (20, false)), .move (.t 4)⟩, ⟨(some 23), (some (20, false)), .ix none (.t 21) (.t 22)⟩, ⟨(some 24), (some (20, false)), .bin .eql (some .int) (.t 23) (.c (.int .u8 92))⟩, ⟨(some 25), none, .pick (.t 20) (.c (.bool true)) (.t 24)⟩])
    (.cond (.t 25) (.line [⟨(some 26), none, .move (.t 3)⟩, ⟨(some 27), none, .buildSl 257 1 [(.int .u8 0)] [(0, 1, (.c (.int .u8 92)))]⟩, ⟨(some 28), none, .app 1 1 257 (.t 26) (.t 27)⟩, ⟨(some 3), none, .move (.t 28)⟩]) .skip))
    (.line [⟨(some 29), none, .move (.t 3)⟩, ⟨(some 30), none, .move (.t 0)⟩, ⟨(some 31), none, .move (.t 4)⟩, ⟨(some 32), none, .ix none (.t 30) (.t 31)⟩, ⟨(some 33), none, .buildSl 257 1 [(.int .u8 0)] [(0, 1, (.t 32))]⟩, ⟨(some 34), none, .app 1 1 257 (.t 29) (.t 33)⟩, ⟨(some 3), none, .move (.t 34)⟩]))))
   (.line [⟨(some 35), none, .bin .add none (.t 7) (.c (.int .i64 1))⟩, ⟨(some 7), none, .move (.t 35)⟩])))))))
 (.seq (.line [⟨(some 36), none, .move (.t 3)⟩, ⟨(some 37), none, .conv .ofBytes (.t 36)⟩, ⟨(some 2), none, .move (.t 37)⟩])
 .ret))))⟩
/-- captioner/captionerref09.Letters -/
def g61 : GFun := ⟨28, [.tmp 2],
 (.seq (.line [⟨(some 1), none, .box (.t 0)⟩, ⟨(some 2), none, .move (.c (.string ⟨#[]⟩))⟩])
 (.seq (.line [⟨(some 3), none, .move (.c (.string ⟨#[63, 103, 98, 99, 114, 121, 109]⟩))⟩])
 (.seq (.line [⟨(some 4), none, .move (.c (.string ⟨#[]⟩))⟩])
 (.seq (.seq (.line [⟨(some 5), none, .fa 0 (.t 1)⟩, ⟨(some 6), none, .load none (.t 5)⟩, ⟨(some 7), none, .bin .neq (some .int) (.t 6) (.c (.int .u8 0))⟩, ⟨(some 8), none, .move (.t 7)⟩, ⟨(some 9), (some (8, true)), .load (some 3) (.t 1)⟩, ⟨(some 10), (some (8, true)), .call (.c (.func (.func 39) #[] #[])) [(.t 9)]⟩, ⟨(some 11), none, .pick (.t 8) (.t 10) (.c (.bool false))⟩])
 (.cond (.t 11) (.line [⟨(some 12), none, .move (.t 3)⟩, ⟨(some 13), none, .fa 0 (.t 1)⟩, ⟨(some 14), none, .load none (.t 13)⟩, ⟨(some 15), none, .fa 0 (.t 1)⟩, ⟨(some 16), none, .load none (.t 15)⟩, ⟨(some 17), none, .bin .add none (.t 16) (.c (.int .u8 1))⟩, ⟨(some 18), none, .slice .str (.t 12) (some (.t 14)) (some (.t 17)) none⟩, ⟨(some 4), none, .move (.t 18)⟩]) .skip))
 (.seq (.seq (.line [⟨(some 19), none, .fa 1 (.t 1)⟩, ⟨(some 20), none, .load none (.t 19)⟩])
 (.cond (.t 20) (.line [⟨(some 21), none, .move (.t 4)⟩, ⟨(some 22), none, .bin .add none (.t 21) (.c (.string ⟨#[105]⟩))⟩, ⟨(some 4), none, .move (.t 22)⟩]) .skip))
 (.seq (.seq (.line [⟨(some 23), none, .fa 2 (.t 1)⟩, ⟨(some 24), none, .load none (.t 23)⟩])
 (.cond (.t 24) (.line [⟨(some 25), none, .move (.t 4)⟩, ⟨(some 26), none, .bin .add none (.t 25) (.c (.string ⟨#[117]⟩))⟩, ⟨(some 4), none, .move (.t 26)⟩]) .skip))
 (.seq (.line [⟨(some 27), none, .move (.t 4)⟩, ⟨(some 2), none, .move (.t 27)⟩])
 .ret)))))))⟩
/-- captioner/captionerref09.escape -/
def g62 : GFun := ⟨28, [.tmp 2],
 (.seq (.line [⟨(some 2), none, .move (.c (.string ⟨#[]⟩))⟩])
 (.seq (.line [⟨(some 3), none, .move (.c (.string ⟨#[]⟩))⟩])
 (.seq (.seq (.line [⟨(some 6), none, .move (.t 0)⟩, ⟨(some 7), none, .rng (.t 6)⟩])
 (.block 0 (.loop (.seq (.line [⟨(some 8), none, .next (.t 7)⟩, ⟨(some 9), none, .ext (.t 8) 0⟩])
   (.seq (.cond (.t 9) .skip (.exit 0))
   (.block 1 (.seq (.line [⟨(some 10), none, .ext (.t 8) 2⟩, ⟨(some 5), none, .move (.t 10)⟩])
    (.seq (.seq (.line [⟨(some 11), none, .move (.t 5)⟩, ⟨(some 12), none, .bin .eql (some .int) (.t 11) (.c (.int .i32 123))⟩, ⟨(some 13), none, .move (.t 12)⟩, ⟨(some 14), (some (13, false)), .move (.t 5)⟩, ⟨(some 15), (some (13, false)), .bin .eql (some .int) (.t 14) (.c (.int .i32 125))⟩, ⟨(some 16), none, .pick (.t 13) (.c (.bool true)) (.t 15)⟩, ⟨(some 17), none, .move (.t 16)⟩, ⟨(some 18), (some (17, false)), .move (.t 5)⟩, ⟨(some 19), (some (17, false)), .bin .eql (some .int) (.t 18) (.c (.int .i32 92))⟩, ⟨(some 20), none, .pick (.t 17) (.c (.bool true)) (.t 19)⟩])
    (.cond (.t 20) (.line [⟨(some 21), none, .move (.t 3)⟩, ⟨(some 22), none, .bin .add none (.t 21) (.c (.string ⟨#[92]⟩))⟩, ⟨(some 3), none, .move (.t 22)⟩]) .skip))
    (.line [⟨(some 23), none, .move (.t 3)⟩, ⟨(some 24), none, .move (.t 5)⟩, ⟨(some 25), none, .conv .strOfInt (.t 24)⟩, ⟨(some 26), none, .bin .add none (.t 23) (.t 25)⟩, ⟨(some 3), none, .move (.t 26)⟩])))))))))
 (.seq (.line [⟨(some 27), none, .move (.t 3)⟩, ⟨(some 2), none, .move (.t 27)⟩])
 .ret))))⟩
/-- slices.Equal[[]captioner/api.Run,captioner/api.Run] -/
def g63 : GFun := ⟨26, [.tmp 4],
 (.seq (.line [⟨(some 4), none, .move (.c (.bool false))⟩])
 (.seq (.seq (.line [⟨(some 6), none, .move (.t 0)⟩, ⟨(some 7), none, .len false (.t 6)⟩, ⟨(some 8), none, .move (.t 1)⟩, ⟨(some 9), none, .len false (.t 8)⟩, ⟨(some 10), none, .bin .neq (some .int) (.t 7) (.t 9)⟩])
 (.cond (.t 10) (.seq (.line [⟨(some 4), none, .move (.c (.bool false))⟩])
  .ret) .skip))
 (.seq (.seq (.line [⟨(some 11), none, .move (.t 0)⟩, ⟨(some 12), none, .len false (.t 11)⟩, ⟨(some 13), none, .move (.c (.int .i64 0))⟩])
 (.block 0 (.loop (.seq (.line [⟨(some 14), none, .bin .lss none (.t 13) (.t 12)⟩])
   (.seq (.cond (.t 14) .skip (.exit 0))
   (.seq (.block 1 (.seq (.line [⟨(some 15), none, .move (.t 13)⟩, ⟨(some 5), none, .move (.t 15)⟩])
    (.seq (.any [] [⟨(some 16), none, .move (.t 0)⟩, ⟨(some 17), none, .move (.t 5)⟩, ⟨(some 18), none, .ia none 5 (.t 16) (.t 17)⟩, ⟨(some 19), none, .load (some 5) (.t 18)⟩, ⟨(some 20), none, .move (.t 1)⟩, ⟨(some 21), none, .move (.t 5)⟩, ⟨(some 22), none, .ia none 5 (.t 20) (.t 21)⟩, ⟨(some 23), none, .load (some 5) (.t 22)⟩, ⟨(some 24), none, .bin .neq (some (.parts [(0, none, .str), (1, (some 3), (.parts [(0, none, .int), (1, none, .bool), (2, none, .bool)])), (4, none, .str)])) (.t 19) (.t 23)⟩] [])
    (.cond (.t 24) (.seq (.line [⟨(some 4), none, .move (.c (.bool false))⟩])
     .ret) .skip))))
   (.line [⟨(some 25), none, .bin .add none (.t 13) (.c (.int .i64 1))⟩, ⟨(some 13), none, .move (.t 25)⟩])))))))
 (.seq (.line [⟨(some 4), none, .move (.c (.bool true))⟩])
 .ret))))⟩
/-- slices.Clone[[]captioner/api.Row,captioner/api.Row] -/
def g64 : GFun := ⟨8, [.tmp 2],
 (.seq (.line [⟨(some 2), none, .move (.c (.slice none 0 0))⟩])
 (.seq (.seq (.line [⟨(some 3), none, .move (.t 0)⟩, ⟨(some 4), none, .bin .eql (some .sl) (.t 3) (.c (.slice none 0 0))⟩])
 (.cond (.t 4) (.seq (.line [⟨(some 2), none, .move (.c (.slice none 0 0))⟩])
  .ret) .skip))
 (.seq (.line [⟨(some 5), none, .buildSl 1 0 [(.slice none 0 0)] []⟩, ⟨(some 6), none, .move (.t 0)⟩, ⟨(some 7), none, .app 1 24 1 (.t 5) (.t 6)⟩, ⟨(some 2), none, .move (.t 7)⟩])
 .ret)))⟩
/-- slices.Clone[[]captioner/api.Run,captioner/api.Run] -/
def g65 : GFun := ⟨8, [.tmp 2],
 (.seq (.line [⟨(some 2), none, .move (.c (.slice none 0 0))⟩])
 (.seq (.seq (.line [⟨(some 3), none, .move (.t 0)⟩, ⟨(some 4), none, .bin .eql (some .sl) (.t 3) (.c (.slice none 0 0))⟩])
 (.cond (.t 4) (.seq (.line [⟨(some 2), none, .move (.c (.slice none 0 0))⟩])
  .ret) .skip))
 (.seq (.line [⟨(some 5), none, .buildSl 5 0 [(.string ⟨#[]⟩), (.int .u8 0), (.bool false), (.bool false), (.string ⟨#[]⟩)] []⟩, ⟨(some 6), none, .move (.t 0)⟩, ⟨(some 7), none, .app 5 40 5 (.t 5) (.t 6)⟩, ⟨(some 2), none, .move (.t 7)⟩])
 .ret)))⟩
/-- captioner/style.alike -/
def g66 : GFun := ⟨20, [.tmp 4],
 (.seq (.line [⟨(some 2), none, .box (.t 0)⟩, ⟨(some 3), none, .box (.t 1)⟩, ⟨(some 4), none, .move (.c (.bool false))⟩])
 (.seq (.line [⟨(some 5), none, .fa 1 (.t 2)⟩, ⟨(some 6), none, .load (some 3) (.t 5)⟩, ⟨(some 7), none, .fa 1 (.t 3)⟩, ⟨(some 8), none, .load (some 3) (.t 7)⟩, ⟨(some 9), none, .bin .eql (some (.parts [(0, none, .int), (1, none, .bool), (2, none, .bool)])) (.t 6) (.t 8)⟩, ⟨(some 10), none, .move (.t 9)⟩, ⟨(some 11), (some (10, true)), .fa 4 (.t 2)⟩, ⟨(some 12), (some (10, true)), .load none (.t 11)⟩, ⟨(some 13), (some (10, true)), .bin .eql (some .str) (.t 12) (.c (.string ⟨#[]⟩))⟩, ⟨(some 14), none, .pick (.t 10) (.t 13) (.c (.bool false))⟩, ⟨(some 15), none, .move (.t 14)⟩, ⟨(some 16), (some (15, true)), .fa 4 (.t 3)⟩, ⟨(some 17), (some (15, true)), .load none (.t 16)⟩, ⟨(some 18), (some (15, true)), .bin .eql (some .str) (.t 17) (.c (.string ⟨#[]⟩))⟩, ⟨(some 19), none, .pick (.t 15) (.t 18) (.c (.bool false))⟩, ⟨(some 4), none, .move (.t 19)⟩])
 .ret))⟩
/-- slices.EqualFunc[[]captioner/api.Row,[]captioner/api.Row,captioner/api.Row,captioner/api.Row] -/
def g67 : GFun := ⟨32, [.tmp 6],
 (.seq (.line [⟨(some 6), none, .move (.c (.bool false))⟩])
 (.seq (.seq (.line [⟨(some 10), none, .move (.t 0)⟩, ⟨(some 11), none, .len false (.t 10)⟩, ⟨(some 12), none, .move (.t 1)⟩, ⟨(some 13), none, .len false (.t 12)⟩, ⟨(some 14), none, .bin .neq (some .int) (.t 11) (.t 13)⟩])
 (.cond (.t 14) (.seq (.line [⟨(some 6), none, .move (.c (.bool false))⟩])
  .ret) .skip))
 (.seq (.seq (.line [⟨(some 15), none, .move (.t 0)⟩, ⟨(some 16), none, .len false (.t 15)⟩, ⟨(some 17), none, .move (.c (.int .i64 0))⟩])
 (.block 0 (.loop (.seq (.line [⟨(some 18), none, .bin .lss none (.t 17) (.t 16)⟩])
   (.seq (.cond (.t 18) .skip (.exit 0))
   (.seq (.block 1 (.seq (.line [⟨(some 19), none, .move (.t 17)⟩, ⟨(some 20), none, .ia none 1 (.t 15) (.t 17)⟩, ⟨(some 21), none, .load (some 1) (.t 20)⟩, ⟨(some 8), none, .alloc 0 [(.slice none 0 0)]⟩, ⟨(some 7), none, .move (.t 19)⟩, ⟨none, none, .store (some 1) (.t 8) (.t 21)⟩])
    (.seq (.line [⟨(some 22), none, .move (.t 1)⟩, ⟨(some 23), none, .move (.t 7)⟩, ⟨(some 24), none, .ia none 1 (.t 22) (.t 23)⟩, ⟨(some 25), none, .load (some 1) (.t 24)⟩, ⟨(some 9), none, .alloc 0 [(.slice none 0 0)]⟩, ⟨none, none, .store (some 1) (.t 9) (.t 25)⟩])
    (.seq (.line [⟨(some 26), none, .move (.t 2)⟩, ⟨(some 27), none, .load (some 1) (.t 8)⟩, ⟨(some 28), none, .load (some 1) (.t 9)⟩, ⟨(some 29), none, .call (.t 26) [(.t 27), (.t 28)]⟩, ⟨(some 30), none, .un .not (.t 29)⟩])
    (.cond (.t 30) (.seq (.line [⟨(some 6), none, .move (.c (.bool false))⟩])
     .ret) .skip)))))
   (.line [⟨(some 31), none, .bin .add none (.t 17) (.c (.int .i64 1))⟩, ⟨(some 17), none, .move (.t 31)⟩])))))))
 (.seq (.line [⟨(some 6), none, .move (.c (.bool true))⟩])
 .ret))))⟩
/-- captioner/captionerref08.runes -/
def g68 : GFun := ⟨16, [.tmp 2],
 (.seq (.line [⟨(some 2), none, .move (.c (.slice none 0 0))⟩])
 (.seq (.line [⟨(some 3), none, .move (.c (.slice none 0 0))⟩])
 (.seq (.seq (.line [⟨(some 6), none, .move (.t 0)⟩, ⟨(some 7), none, .rng (.t 6)⟩])
 (.block 0 (.loop (.seq (.line [⟨(some 8), none, .next (.t 7)⟩, ⟨(some 9), none, .ext (.t 8) 0⟩])
   (.seq (.cond (.t 9) .skip (.exit 0))
   (.block 1 (.seq (.line [⟨(some 10), none, .ext (.t 8) 2⟩, ⟨(some 5), none, .move (.t 10)⟩])
    (.line [⟨(some 11), none, .move (.t 3)⟩, ⟨(some 12), none, .move (.t 5)⟩, ⟨(some 13), none, .buildSl 1 1 [(.int .i32 0)] [(0, 1, (.t 12))]⟩, ⟨(some 14), none, .app 1 4 1 (.t 11) (.t 13)⟩, ⟨(some 3), none, .move (.t 14)⟩]))))))))
 (.seq (.line [⟨(some 15), none, .move (.t 3)⟩, ⟨(some 2), none, .move (.t 15)⟩])
 .ret))))⟩
/-- unicode/utf8.RuneCountInString -/
def g69 : GFun := ⟨10, [.tmp 2],
 (.seq (.line [⟨(some 2), none, .move (.c (.int .i64 0))⟩])
 (.seq (.seq (.line [⟨(some 3), none, .move (.t 0)⟩, ⟨(some 4), none, .rng (.t 3)⟩])
 (.block 0 (.loop (.seq (.line [⟨(some 5), none, .next (.t 4)⟩, ⟨(some 6), none, .ext (.t 5) 0⟩])
   (.seq (.cond (.t 6) .skip (.exit 0))
   (.block 1 (.line [⟨(some 7), none, .move (.t 2)⟩, ⟨(some 8), none, .bin .add none (.t 7) (.c (.int .i64 1))⟩, ⟨(some 2), none, .move (.t 8)⟩])))))))
 (.seq (.line [⟨(some 9), none, .move (.t 2)⟩, ⟨(some 2), none, .move (.t 9)⟩])
 .ret)))⟩
/-- captioner/charset.Of -/
def g70 : GFun := ⟨21, [.tmp 2],
 (.seq (.line [⟨(some 2), none, .move (.c (.string ⟨#[]⟩))⟩])
 (.seq (.line [⟨(some 3), none, .move (.c (.slice none 0 0))⟩])
 (.seq (.seq (.line [⟨(some 6), none, .move (.t 0)⟩, ⟨(some 7), none, .len false (.t 6)⟩, ⟨(some 8), none, .move (.c (.int .i64 0))⟩])
 (.block 0 (.loop (.seq (.line [⟨(some 9), none, .bin .lss none (.t 8) (.t 7)⟩])
   (.seq (.cond (.t 9) .skip (.exit 0))
   (.seq (.block 1 (.seq (.line [⟨(some 10), none, .ia none 1 (.t 6) (.t 8)⟩, ⟨(some 11), none, .load none (.t 10)⟩, ⟨(some 5), none, .move (.t 11)⟩])
    (.seq (.seq (.line [⟨(some 12), none, .move (.t 5)⟩, ⟨(some 13), none, .call (.c (.func (.func 73) #[] #[])) [(.t 12)]⟩, ⟨(some 14), none, .bin .lss none (.t 13) (.c (.int .i64 0))⟩])
    (.cond (.t 14) (.seq (.line [⟨(some 2), none, .move (.c (.string ⟨#[]⟩))⟩])
     .ret) .skip))
    (.line [⟨(some 15), none, .move (.t 3)⟩, ⟨(some 16), none, .move (.t 5)⟩, ⟨(some 17), none, .call (.c (.func (.func 80) #[] #[])) [(.t 15), (.t 16)]⟩, ⟨(some 3), none, .move (.t 17)⟩]))))
   (.line [⟨(some 18), none, .bin .add none (.t 8) (.c (.int .i64 1))⟩, ⟨(some 8), none, .move (.t 18)⟩])))))))
 (.seq (.line [⟨(some 19), none, .move (.t 3)⟩, ⟨(some 20), none, .conv .ofBytes (.t 19)⟩, ⟨(some 2), none, .move (.t 20)⟩])
 .ret))))⟩
/-- captioner/captionerref08.Of -/
def g71 : GFun := ⟨21, [.tmp 2],
 (.seq (.line [⟨(some 2), none, .move (.c (.string ⟨#[]⟩))⟩])
 (.seq (.line [⟨(some 3), none, .move (.c (.string ⟨#[]⟩))⟩])
 (.seq (.seq (.line [⟨(some 6), none, .move (.t 0)⟩, ⟨(some 7), none, .len false (.t 6)⟩, ⟨(some 8), none, .move (.c (.int .i64 0))⟩])
 (.block 0 (.loop (.seq (.line [⟨(some 9), none, .bin .lss none (.t 8) (.t 7)⟩])
   (.seq (.cond (.t 9) .skip (.exit 0))
   (.seq (.block 1 (.seq (.line [⟨(some 10), none, .ia none 1 (.t 6) (.t 8)⟩, ⟨(some 11), none, .load none (.t 10)⟩, ⟨(some 5), none, .move (.t 11)⟩])
    (.seq (.seq (.line [⟨(some 12), none, .move (.t 5)⟩, ⟨(some 13), none, .call (.c (.func (.func 74) #[] #[])) [(.t 12)]⟩, ⟨(some 14), none, .bin .lss none (.t 13) (.c (.int .i64 0))⟩])
    (.cond (.t 14) (.seq (.line [⟨(some 2), none, .move (.c (.string ⟨#[]⟩))⟩])
     .ret) .skip))
    (.line [⟨(some 15), none, .move (.t 3)⟩, ⟨(some 16), none, .move (.t 5)⟩, ⟨(some 17), none, .conv .strOfInt (.t 16)⟩, ⟨(some 18), none, .bin .add none (.t 15) (.t 17)⟩, ⟨(some 3), none, .move (.t 18)⟩]))))
   (.line [⟨(some 19), none, .bin .add none (.t 8) (.c (.int .i64 1))⟩, ⟨(some 8), none, .move (.t 19)⟩])))))))
 (.seq (.line [⟨(some 20), none, .move (.t 3)⟩, ⟨(some 2), none, .move (.t 20)⟩])
 .ret))))⟩

/-- captioner/charset.Index -/
def g73 : GFun := ⟨14, [.tmp 2],
 (.seq (.line [⟨(some 2), none, .move (.c (.int .i64 0))⟩])
 (.seq (.seq (.line [⟨(some 3), none, .move (.t 0)⟩, ⟨(some 4), none, .bin .geq none (.t 3) (.c (.int .i32 32))⟩, ⟨(some 5), none, .move (.t 4)⟩, ⟨(some 6), (some (5, true)), .move (.t 0)⟩, ⟨(some 7), (some (5, true)), .bin .leq none (.t 6) (.c (.int .i32 126))⟩, ⟨(some 8), none, .pick (.t 5) (.t 7) (.c (.bool false))⟩])
 (.cond (.t 8) (.seq (.line [⟨(some 9), none, .move (.t 0)⟩, ⟨(some 10), none, .bin .sub none (.t 9) (.c (.int .i32 32))⟩, ⟨(some 11), none, .conv (.int .i64) (.t 10)⟩, ⟨(some 2), none, .move (.t 11)⟩])
  .ret) .skip))
 (.seq (.line [⟨(some 12), none, .move (.t 0)⟩, ⟨(some 13), none, .call (.c (.func (.func 82) #[] #[])) [(.c (.string ⟨#[32, 33, 34, 35, 36, 37, 38, 39, 40, 41, 42, 43, 44, 45, 46, 47, 48, 49, 50, 51, 52, 53, 54, 55, 56, 57, 58, 59, 60, 61, 62, 63, 64, 65, 66, 67, 68, 69, 70, 71, 72, 73, 74, 75, 76, 77, 78, 79, 80, 81, 82, 83, 84, 85, 86, 87, 88, 89, 90, 91, 92, 93, 94, 95, 96, 97, 98, 99, 100, 101, 102, 103, 104, 105, 106, 107, 108, 109, 110, 111, 112, 113, 114, 115, 116, 117, 118, 119, 120, 121, 122, 123, 124, 125, 126, 194, 161, 194, 162, 194, 163, 194, 164, 194, 165, 194, 166, 194, 167, 194, 169, 194, 171, 194, 174, 194, 176, 194, 183, 194, 187, 194, 189, 194, 191, 195, 128, 195, 129, 195, 130, 195, 131, 195, 132, 195, 133, 195, 134, 195, 135, 195, 136, 195, 137, 195, 138, 195, 139, 195, 140, 195, 141, 195, 142, 195, 143, 195, 145, 195, 146, 195, 147, 195, 148, 195, 149, 195, 150, 195, 152, 195, 153, 195, 154, 195, 155, 195, 156, 195, 159, 195, 160, 195, 161, 195, 162, 195, 163, 195, 164, 195, 165, 195, 166, 195, 167, 195, 168, 195, 169, 195, 170, 195, 171, 195, 172, 195, 173, 195, 174, 195, 175, 195, 177, 195, 178, 195, 179, 195, 180, 195, 181, 195, 182, 195, 184, 195, 185, 195, 186, 195, 187, 195, 188, 197, 146, 197, 147, 226, 128, 148, 226, 128, 152, 226, 128, 153, 226, 128, 156, 226, 128, 157, 226, 128, 162, 226, 128, 166, 226, 132, 162, 226, 153, 170]⟩)), (.t 12)]⟩, ⟨(some 2), none, .move (.t 13)⟩])
 .ret)))⟩
/-- captioner/captionerref08.Index -/
def g74 : GFun := ⟨26, [.tmp 2],
 (.seq (.line [⟨(some 2), none, .move (.c (.int .i64 0))⟩])
 (.seq (.seq (.line [⟨(some 6), none, .move (.t 0)⟩, ⟨(some 7), none, .bin .geq none (.t 6) (.c (.int .i32 32))⟩, ⟨(some 8), none, .move (.t 7)⟩, ⟨(some 9), (some (8, true)), .move (.t 0)⟩, ⟨(some 10), (some (8, true)), .bin .leq none (.t 9) (.c (.int .i32 126))⟩, ⟨(some 11), none, .pick (.t 8) (.t 10) (.c (.bool false))⟩])
 (.cond (.t 11) (.seq (.line [⟨(some 12), none, .move (.t 0)⟩, ⟨(some 13), none, .bin .sub none (.t 12) (.c (.int .i32 32))⟩, ⟨(some 14), none, .conv (.int .i64) (.t 13)⟩, ⟨(some 2), none, .move (.t 14)⟩])
  .ret) .skip))
 (.seq (.line [⟨(some 3), none, .move (.c (.int .i64 0))⟩])
 (.seq (.seq (.line [⟨(some 15), none, .call (.c (.func (.func 83) #[] #[])) []⟩, ⟨(some 16), none, .rng (.t 15)⟩])
 (.block 0 (.loop (.seq (.line [⟨(some 17), none, .next (.t 16)⟩, ⟨(some 18), none, .ext (.t 17) 0⟩])
   (.seq (.cond (.t 18) .skip (.exit 0))
   (.block 1 (.seq (.line [⟨(some 19), none, .ext (.t 17) 2⟩, ⟨(some 5), none, .move (.t 19)⟩])
    (.seq (.seq (.line [⟨(some 20), none, .move (.t 5)⟩, ⟨(some 21), none, .move (.t 0)⟩, ⟨(some 22), none, .bin .eql (some .int) (.t 20) (.t 21)⟩])
    (.cond (.t 22) (.seq (.line [⟨(some 23), none, .move (.t 3)⟩, ⟨(some 2), none, .move (.t 23)⟩])
     .ret) .skip))
    (.line [⟨(some 24), none, .move (.t 3)⟩, ⟨(some 25), none, .bin .add none (.t 24) (.c (.int .i64 1))⟩, ⟨(some 3), none, .move (.t 25)⟩])))))))))
 (.seq (.line [⟨(some 2), none, .move (.c (.int .i64 (-1)))⟩])
 .ret)))))⟩
/-- slices.Grow[[]captioner/api.Run,captioner/api.Run] -/
def g75 : GFun := ⟨27, [.tmp 4],
 (.seq (.line [⟨(some 4), none, .move (.c (.slice none 0 0))⟩])
 (.seq (.seq (.line [⟨(some 5), none, .move (.t 1)⟩, ⟨(some 6), none, .bin .lss none (.t 5) (.c (.int .i64 0))⟩])
 (.cond (.t 6) (.line [⟨(some 7), none, .bad⟩, ⟨none, none, .bad⟩]) .skip))
 (.seq (.seq (.line [⟨(some 8), none, .move (.t 1)⟩, ⟨(some 9), none, .move (.t 0)⟩, ⟨(some 10), none, .cap (.t 9)⟩, ⟨(some 11), none, .move (.t 0)⟩, ⟨(some 12), none, .len false (.t 11)⟩, ⟨(some 13), none, .bin .sub none (.t 10) (.t 12)⟩, ⟨(some 14), none, .bin .sub none (.t 8) (.t 13)⟩, ⟨(some 1), none, .move (.t 14)⟩])
 (.seq (.line [⟨(some 15), none, .move (.t 1)⟩, ⟨(some 16), none, .bin .gtr none (.t 15) (.c (.int .i64 0))⟩])
 (.cond (.t 16) (.line [⟨(some 17), none, .move (.t 0)⟩, ⟨(some 18), none, .move (.t 0)⟩, ⟨(some 19), none, .cap (.t 18)⟩, ⟨(some 20), none, .slice (.sl 5) (.t 17) none (some (.t 19)) none⟩, ⟨(some 21), none, .move (.t 1)⟩, ⟨(some 22), none, .appZ 5 40 5 [(.string ⟨#[]⟩), (.int .u8 0), (.bool false), (.bool false), (.string ⟨#[]⟩)] (.t 20) (.t 21)⟩, ⟨(some 23), none, .move (.t 0)⟩, ⟨(some 24), none, .len false (.t 23)⟩, ⟨(some 25), none, .slice (.sl 5) (.t 22) none (some (.t 24)) none⟩, ⟨(some 0), none, .move (.t 25)⟩]) .skip)))
 (.seq (.line [⟨(some 26), none, .move (.t 0)⟩, ⟨(some 4), none, .move (.t 26)⟩])
 .ret))))⟩

/-- strings.IndexByte -/
def g77 : GFun := ⟨8, [.tmp 4],
 (.seq (.line [⟨(some 4), none, .move (.c (.int .i64 0))⟩])
 (.seq (.line [⟨(some 5), none, .move (.t 0)⟩, ⟨(some 6), none, .move (.t 1)⟩, ⟨(some 7), none, .call (.c (.func (.func 85) #[] #[])) [(.t 5), (.t 6)]⟩, ⟨(some 4), none, .move (.t 7)⟩])
 .ret))⟩
/-- strings.CutPrefix -/
def g78 : GFun := ⟨11, [.tmp 4, .tmp 5],
 (.seq (.line [⟨(some 4), none, .move (.c (.string ⟨#[]⟩))⟩, ⟨(some 5), none, .move (.c (.bool false))⟩])
 (.seq (.line [⟨(some 6), none, .move (.t 0)⟩, ⟨(some 7), none, .move (.t 1)⟩, ⟨(some 8), none, .call (.c (.func (.func 86) #[] #[])) [(.t 6), (.t 7)]⟩, ⟨(some 9), none, .ext (.t 8) 0⟩, ⟨(some 10), none, .ext (.t 8) 1⟩, ⟨(some 4), none, .move (.t 9)⟩, ⟨(some 5), none, .move (.t 10)⟩])
 .ret))⟩
/-- strings.TrimPrefix -/
def g79 : GFun := ⟨8, [.tmp 4],
 (.seq (.line [⟨(some 4), none, .move (.c (.string ⟨#[]⟩))⟩])
 (.seq (.line [⟨(some 5), none, .move (.t 0)⟩, ⟨(some 6), none, .move (.t 1)⟩, ⟨(some 7), none, .call (.c (.func (.func 87) #[] #[])) [(.t 5), (.t 6)]⟩, ⟨(some 4), none, .move (.t 7)⟩])
 .ret))⟩
/-- unicode/utf8.AppendRune -/
def g80 : GFun := ⟨16, [.tmp 4],
 (.seq (.line [⟨(some 4), none, .move (.c (.slice none 0 0))⟩])
 (.seq (.seq (.line [⟨(some 5), none, .move (.t 1)⟩, ⟨(some 6), none, .conv (.int .u32) (.t 5)⟩, ⟨(some 7), none, .bin .leq none (.t 6) (.c (.int .u32 127))⟩])
 (.cond (.t 7) (.seq (.line [⟨(some 8), none, .move (.t 0)⟩, ⟨(some 9), none, .move (.t 1)⟩, ⟨(some 10), none, .conv (.int .u8) (.t 9)⟩, ⟨(some 11), none, .buildSl 257 1 [(.int .u8 0)] [(0, 1, (.t 10))]⟩, ⟨(some 12), none, .app 1 1 257 (.t 8) (.t 11)⟩, ⟨(some 4), none, .move (.t 12)⟩])
  .ret) .skip))
 (.seq (.line [⟨(some 13), none, .move (.t 0)⟩, ⟨(some 14), none, .move (.t 1)⟩, ⟨(some 15), none, .call (.c (.func (.func 88) #[] #[])) [(.t 13), (.t 14)]⟩, ⟨(some 4), none, .move (.t 15)⟩])
 .ret)))⟩

/-- captioner/charset.place -/
def g82 : GFun := ⟨19, [.tmp 4],
 (.seq (.line [⟨(some 4), none, .move (.c (.int .i64 0))⟩])
 (.seq (.line [⟨(some 5), none, .move (.c (.int .i64 0))⟩])
 (.seq (.seq (.line [⟨(some 8), none, .move (.t 0)⟩, ⟨(some 9), none, .rng (.t 8)⟩])
 (.block 0 (.loop (.seq (.line [⟨(some 10), none, .next (.t 9)⟩, ⟨(some 11), none, .ext (.t 10) 0⟩])
   (.seq (.cond (.t 11) .skip (.exit 0))
   (.block 1 (.seq (.line [⟨(some 12), none, .ext (.t 10) 2⟩, ⟨(some 7), none, .move (.t 12)⟩])
    (.seq (.seq (.line [⟨(some 13), none, .move (.t 7)⟩, ⟨(some 14), none, .move (.t 1)⟩, ⟨(some 15), none, .bin .eql (some .int) (.t 13) (.t 14)⟩])
    (.cond (.t 15) (.seq (.line [⟨(some 16), none, .move (.t 5)⟩, ⟨(some 4), none, .move (.t 16)⟩])
     .ret) .skip))
    (.line [⟨(some 17), none, .move (.t 5)⟩, ⟨(some 18), none, .bin .add none (.t 17) (.c (.int .i64 1))⟩, ⟨(some 5), none, .move (.t 18)⟩])))))))))
 (.seq (.line [⟨(some 4), none, .move (.c (.int .i64 (-1)))⟩])
 .ret))))⟩
/-- captioner/captionerref08.Repertoire -/
def g83 : GFun := ⟨1, [.tmp 0],
 (.seq (.line [⟨(some 0), none, .move (.c (.string ⟨#[]⟩))⟩])
 (.seq (.line [⟨(some 0), none, .move (.c (.string ⟨#[32, 33, 34, 35, 36, 37, 38, 39, 40, 41, 42, 43, 44, 45, 46, 47, 48, 49, 50, 51, 52, 53, 54, 55, 56, 57, 58, 59, 60, 61, 62, 63, 64, 65, 66, 67, 68, 69, 70, 71, 72, 73, 74, 75, 76, 77, 78, 79, 80, 81, 82, 83, 84, 85, 86, 87, 88, 89, 90, 91, 92, 93, 94, 95, 96, 97, 98, 99, 100, 101, 102, 103, 104, 105, 106, 107, 108, 109, 110, 111, 112, 113, 114, 115, 116, 117, 118, 119, 120, 121, 122, 123, 124, 125, 126, 194, 161, 194, 162, 194, 163, 194, 164, 194, 165, 194, 166, 194, 167, 194, 169, 194, 171, 194, 174, 194, 176, 194, 183, 194, 187, 194, 189, 194, 191, 195, 128, 195, 129, 195, 130, 195, 131, 195, 132, 195, 133, 195, 134, 195, 135, 195, 136, 195, 137, 195, 138, 195, 139, 195, 140, 195, 141, 195, 142, 195, 143, 195, 145, 195, 146, 195, 147, 195, 148, 195, 149, 195, 150, 195, 152, 195, 153, 195, 154, 195, 155, 195, 156, 195, 159, 195, 160, 195, 161, 195, 162, 195, 163, 195, 164, 195, 165, 195, 166, 195, 167, 195, 168, 195, 169, 195, 170, 195, 171, 195, 172, 195, 173, 195, 174, 195, 175, 195, 177, 195, 178, 195, 179, 195, 180, 195, 181, 195, 182, 195, 184, 195, 185, 195, 186, 195, 187, 195, 188, 197, 146, 197, 147, 226, 128, 148, 226, 128, 152, 226, 128, 153, 226, 128, 156, 226, 128, 157, 226, 128, 162, 226, 128, 166, 226, 132, 162, 226, 153, 170]⟩))⟩])
 .ret))⟩

/-- internal/stringslite.CutPrefix -/
def g86 : GFun := ⟨15, [.tmp 4, .tmp 5],
 (.seq (.line [⟨(some 4), none, .move (.c (.string ⟨#[]⟩))⟩, ⟨(some 5), none, .move (.c (.bool false))⟩])
 (.seq (.seq (.line [⟨(some 6), none, .move (.t 0)⟩, ⟨(some 7), none, .move (.t 1)⟩, ⟨(some 8), none, .call (.c (.func (.func 90) #[] #[])) [(.t 6), (.t 7)]⟩, ⟨(some 9), none, .un .not (.t 8)⟩])
 (.cond (.t 9) (.seq (.line [⟨(some 10), none, .move (.t 0)⟩, ⟨(some 4), none, .move (.t 10)⟩, ⟨(some 5), none, .move (.c (.bool false))⟩])
  .ret) .skip))
 (.seq (.line [⟨(some 11), none, .move (.t 0)⟩, ⟨(some 12), none, .move (.t 1)⟩, ⟨(some 13), none, .len true (.t 12)⟩, ⟨(some 14), none, .slice .str (.t 11) (some (.t 13)) none none⟩, ⟨(some 4), none, .move (.t 14)⟩, ⟨(some 5), none, .move (.c (.bool true))⟩])
 .ret)))⟩
/-- internal/stringslite.TrimPrefix -/
def g87 : GFun := ⟨13, [.tmp 4],
 (.seq (.line [⟨(some 4), none, .move (.c (.string ⟨#[]⟩))⟩])
 (.seq (.seq (.line [⟨(some 5), none, .move (.t 0)⟩, ⟨(some 6), none, .move (.t 1)⟩, ⟨(some 7), none, .call (.c (.func (.func 90) #[] #[])) [(.t 5), (.t 6)]⟩])
 (.cond (.t 7) (.seq (.line [⟨(some 8), none, .move (.t 0)⟩, ⟨(some 9), none, .move (.t 1)⟩, ⟨(some 10), none, .len true (.t 9)⟩, ⟨(some 11), none, .slice .str (.t 8) (some (.t 10)) none none⟩, ⟨(some 4), none, .move (.t 11)⟩])
  .ret) .skip))
 (.seq (.line [⟨(some 12), none, .move (.t 0)⟩, ⟨(some 4), none, .move (.t 12)⟩])
 .ret)))⟩
/-- unicode/utf8.appendRuneNonASCII -/
def g88 : GFun := ⟨78, [.tmp 4],
 (.seq (.line [⟨(some 4), none, .move (.c (.slice none 0 0))⟩])
 (.seq (.line [⟨(some 6), none, .move (.t 1)⟩, ⟨(some 7), none, .conv (.int .u32) (.t 6)⟩, ⟨(some 5), none, .move (.t 7)⟩])
 (.block 0 (.seq (.line [⟨(some 12), none, .move (.t 5)⟩, ⟨(some 13), none, .bin .leq none (.t 12) (.c (.int .u32 2047))⟩, ⟨(some 11), none, .move (.t 13)⟩])
  (.cond (.t 11) (.seq (.line [⟨(some 14), none, .move (.t 0)⟩, ⟨(some 15), none, .move (.t 1)⟩, ⟨(some 16), none, .bin .shr none (.t 15) (.c (.int .u64 6))⟩, ⟨(some 17), none, .conv (.int .u8) (.t 16)⟩, ⟨(some 18), none, .bin .or none (.c (.int .u8 192)) (.t 17)⟩, ⟨(some 19), none, .move (.t 1)⟩, ⟨(some 20), none, .conv (.int .u8) (.t 19)⟩, ⟨(some 21), none, .bin .and none (.t 20) (.c (.int .u8 63))⟩, ⟨(some 22), none, .bin .or none (.c (.int .u8 128)) (.t 21)⟩, ⟨(some 23), none, .buildSl 257 2 [(.int .u8 0)] [(0, 1, (.t 18)), (1, 1, (.t 22))]⟩, ⟨(some 24), none, .app 1 1 257 (.t 14) (.t 23)⟩, ⟨(some 4), none, .move (.t 24)⟩])
   .ret) (.seq (.seq (.line [⟨(some 26), none, .move (.t 5)⟩, ⟨(some 27), none, .bin .lss none (.t 26) (.c (.int .u32 55296))⟩, ⟨(some 25), none, .move (.t 27)⟩])
   (.cond (.t 25) .skip (.line [⟨(some 28), none, .move (.t 5)⟩, ⟨(some 29), none, .bin .lss none (.c (.int .u32 57343)) (.t 28)⟩, ⟨(some 30), none, .move (.t 29)⟩, ⟨(some 31), (some (30, true)), .move (.t 5)⟩, ⟨(some 32), (some (30, true)), .bin .leq none (.t 31) (.c (.int .u32 65535))⟩, ⟨(some 33), none, .pick (.t 30) (.t 32) (.c (.bool false))⟩, ⟨(some 25), none, .move (.t 33)⟩])))
   (.cond (.t 25) (.seq (.line [⟨(some 34), none, .move (.t 0)⟩, ⟨(some 35), none, .move (.t 1)⟩, ⟨(some 36), none, .bin .shr none (.t 35) (.c (.int .u64 12))⟩, ⟨(some 37), none, .conv (.int .u8) (.t 36)⟩, ⟨(some 38), none, .bin .or none (.c (.int .u8 224)) (.t 37)⟩, ⟨(some 39), none, .move (.t 1)⟩, ⟨(some 40), none, .bin .shr none (.t 39) (.c (.int .u64 6))⟩, ⟨(some 41), none, .conv (.int .u8) (.t 40)⟩, ⟨(some 42), none, .bin .and none (.t 41) (.c (.int .u8 63))⟩, ⟨(some 43), none, .bin .or none (.c (.int .u8 128)) (.t 42)⟩, ⟨(some 44), none, .move (.t 1)⟩, ⟨(some 45), none, .conv (.int .u8) (.t 44)⟩, ⟨(some 46), none, .bin .and none (.t 45) (.c (.int .u8 63))⟩, ⟨(some 47), none, .bin .or none (.c (.int .u8 128)) (.t 46)⟩, ⟨(some 48), none, .buildSl 257 3 [(.int .u8 0)] [(0, 1, (.t 38)), (1, 1, (.t 43)), (2, 1, (.t 47))]⟩, ⟨(some 49), none, .app 1 1 257 (.t 34) (.t 48)⟩, ⟨(some 4), none, .move (.t 49)⟩])
    .ret) (.seq (.line [⟨(some 51), none, .move (.t 5)⟩, ⟨(some 52), none, .bin .gtr none (.t 51) (.c (.int .u32 65535))⟩, ⟨(some 53), none, .move (.t 52)⟩, ⟨(some 54), (some (53, true)), .move (.t 5)⟩, ⟨(some 55), (some (53, true)), .bin .leq none (.t 54) (.c (.int .u32 1114111))⟩, ⟨(some 56), none, .pick (.t 53) (.t 55) (.c (.bool false))⟩, ⟨(some 50), none, .move (.t 56)⟩])
    (.cond (.t 50) (.seq (.line [⟨(some 57), none, .move (.t 0)⟩, ⟨(some 58), none, .move (.t 1)⟩, ⟨(some 59), none, .bin .shr none (.t 58) (.c (.int .u64 18))⟩, ⟨(some 60), none, .conv (.int .u8) (.t 59)⟩, ⟨(some 61), none, .bin .or none (.c (.int .u8 240)) (.t 60)⟩, ⟨(some 62), none, .move (.t 1)⟩, ⟨(some 63), none, .bin .shr none (.t 62) (.c (.int .u64 12))⟩, ⟨(some 64), none, .conv (.int .u8) (.t 63)⟩, ⟨(some 65), none, .bin .and none (.t 64) (.c (.int .u8 63))⟩, ⟨(some 66), none, .bin .or none (.c (.int .u8 128)) (.t 65)⟩, ⟨(some 67), none, .move (.t 1)⟩, ⟨(some 68), none, .bin .shr none (.t 67) (.c (.int .u64 6))⟩, ⟨(some 69), none, .conv (.int .u8) (.t 68)⟩, ⟨(some 70), none, .bin .and none (.t 69) (.c (.int .u8 63))⟩, ⟨(some 71), none, .bin .or none (.c (.int .u8 128)) (.t 70)⟩, ⟨(some 72), none, .move (.t 1)⟩, ⟨(some 73), none, .conv (.int .u8) (.t 72)⟩, ⟨(some 74), none, .bin .and none (.t 73) (.c (.int .u8 63))⟩, ⟨(some 75), none, .bin .or none (.c (.int .u8 128)) (.t 74)⟩, ⟨(some 76), none, .buildSl 257 4 [(.int .u8 0)] [(0, 1, (.t 61)), (1, 1, (.t 66)), (2, 1, (.t 71)), (3, 1, (.t 75))]⟩, ⟨(some 77), none, .app 1 1 257 (.t 57) (.t 76)⟩, ⟨(some 4), none, .move (.t 77)⟩])
     .ret) (.seq (.line [⟨(some 8), none, .move (.t 0)⟩, ⟨(some 9), none, .buildSl 257 3 [(.int .u8 0)] [(0, 1, (.c (.int .u8 239))), (1, 1, (.c (.int .u8 191))), (2, 1, (.c (.int .u8 189)))]⟩, ⟨(some 10), none, .app 1 1 257 (.t 8) (.t 9)⟩, ⟨(some 4), none, .move (.t 10)⟩])
     .ret))))))))))⟩
/-- internal/stringslite.HasPrefix -/
def g90 : GFun := ⟨18, [.tmp 4],
 (.seq (.line [⟨(some 4), none, .move (.c (.bool false))⟩])
 (.seq (.line [⟨(some 5), none, .move (.t 0)⟩, ⟨(some 6), none, .len true (.t 5)⟩, ⟨(some 7), none, .move (.t 1)⟩, ⟨(some 8), none, .len true (.t 7)⟩, ⟨(some 9), none, .bin .geq none (.t 6) (.t 8)⟩, ⟨(some 10), none, .move (.t 9)⟩, ⟨(some 11), (some (10, true)), .move (.t 0)⟩, ⟨(some 12), (some (10, true)), .move (.t 1)⟩, ⟨(some 13), (some (10, true)), .len true (.t 12)⟩, ⟨(some 14), (some (10, true)), .slice .str (.t 11) none (some (.t 13)) none⟩, ⟨(some 15), (some (10, true)), .move (.t 1)⟩, ⟨(some 16), (some (10, true)), .bin .eql (some .str) (.t 14) (.t 15)⟩, ⟨(some 17), none, .pick (.t 10) (.t 16) (.c (.bool false))⟩, ⟨(some 4), none, .move (.t 17)⟩])
 .ret))⟩

def G : FuncId → Option GEnt
  | 6 => some (.fn g6)
  | 7 => some (.fn g7)
  | 10 => some (.pure g10)
  | 11 => some (.fn g11)
  | 12 => some (.fn g12)
  | 13 => some (.fn g13)
  | 14 => some (.fn g14)
  | 15 => some (.fn g15)
  | 16 => some (.fn g16)
  | 17 => some (.fn g17)
  | 18 => some (.fn g18)
  | 19 => some (.fn g19)
  | 20 => some (.fn g20)
  | 21 => some (.fn g21)
  | 22 => some (.fn g22)
  | 23 => some (.fn g23)
  | 24 => some (.fn g24)
  | 25 => some (.fn g25)
  | 26 => some (.fn g26)
  | 27 => some (.fn g27)
  | 28 => some (.fn g28)
  | 29 => some (.fn g29)
  | 30 => some (.fn g30)
  | 31 => some (.fn g31)
  | 32 => some (.fn g32)
  | 33 => some (.fn g33)
  | 34 => some (.fn g34)
  | 35 => some (.fn g35)
  | 36 => some (.fn g36)
  | 37 => some (.fn g37)
  | 38 => some (.pure g38)
  | 39 => some (.pure g39)
  | 40 => some (.fn g40)
  | 41 => some (.fn g41)
  | 42 => some (.fn g42)
  | 43 => some (.fn g43)
  | 44 => some (.fn g44)
  | 45 => some (.pure g45)
  | 46 => some (.pure g46)
  | 47 => some (.pure g47)
  | 48 => some (.fn g48)
  | 49 => some (.pure g49)
  | 50 => some (.pure g50)
  | 51 => some (.pure g51)
  | 52 => some (.pure g52)
  | 53 => some (.fn g53)
  | 54 => some (.fn g54)
  | 56 => some (.pure g56)
  | 57 => some (.pure g57)
  | 58 => some (.pure g58)
  | 59 => some (.pure g59)
  | 60 => some (.pure g60)
  | 61 => some (.pure g61)
  | 62 => some (.pure g62)
  | 63 => some (.fn g63)
  | 64 => some (.fn g64)
  | 65 => some (.fn g65)
  | 66 => some (.pure g66)
  | 67 => some (.fn g67)
  | 68 => some (.fn g68)
  | 69 => some (.pure g69)
  | 70 => some (.fn g70)
  | 71 => some (.fn g71)
  | 73 => some (.pure g73)
  | 74 => some (.pure g74)
  | 75 => some (.fn g75)
  | 77 => some (.fn g77)
  | 78 => some (.pure g78)
  | 79 => some (.pure g79)
  | 80 => some (.fn g80)
  | 82 => some (.pure g82)
  | 83 => some (.pure g83)
  | 86 => some (.pure g86)
  | 87 => some (.pure g87)
  | 88 => some (.fn g88)
  | 90 => some (.pure g90)
  | 76 => some (.ext runCC)
  | 55 => some (.ext runStr)
  | 72 => some (.lib runValid)
  | 85 => some (.lib runIndexByte)
  | _ => none
theorem awake_run : (gbody (gcall G 200 14) 200 g10 [] ⟨.nil, 0, 0⟩).map (·.1) = some (.bool true) := by kernel_rfl
theorem awake_gev (H : GHeap) : gev G 10 [] H = some (.bool true, H) := by
  have h := awake_run
  simp only [Option.map_eq_some_iff] at h
  obtain ⟨⟨v, H'⟩, h1, h2⟩ := h
  simp only at h2
  subst h2
  refine gev_pure (m := 200) (H' := H') (g := g10) rfl rfl rfl ?_
  exact gbody_mono (fun f args H r h => gev_of_gcall h) (Nat.le_refl _) h1
end Go.Gh
