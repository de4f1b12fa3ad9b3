/-
  The ghost functions of this seat.
-/
import Derived.Test.YtfldcmeecpgpeaaDoorLc
import Derived.Test.YtfldcmeecpgpeaaDoorSp
import Derived.KernelRfl
namespace Go.Gh
open Go.RowKit
set_option maxRecDepth 100000

/-- captioner/captionerlaw51.GlossaryJudges -/
def g3 : GFun := ⟨36, [.tmp 6],
 (.seq (.line [⟨(some 6), none, .move (.c (.bool false))⟩])
 (.seq (.seq (.line [⟨(some 7), none, .call (.c (.func (.func 6) #[] #[])) []⟩, ⟨(some 8), none, .un .not (.t 7)⟩, ⟨(some 9), none, .move (.t 8)⟩, ⟨(some 10), (some (9, false)), .move (.t 1)⟩, ⟨(some 11), (some (9, false)), .move (.t 2)⟩, ⟨(some 12), (some (9, false)), .call (.c (.func (.func 7) #[] #[])) [(.t 10), (.t 11)]⟩, ⟨(some 13), (some (9, false)), .move (.t 1)⟩, ⟨(some 14), (some (9, false)), .move (.t 2)⟩, ⟨(some 15), (some (9, false)), .call (.c (.func (.func 8) #[] #[])) [(.t 13), (.t 14)]⟩, ⟨(some 16), (some (9, false)), .bin .neq (some .bool) (.t 12) (.t 15)⟩, ⟨(some 17), none, .pick (.t 9) (.c (.bool true)) (.t 16)⟩])
 (.cond (.t 17) (.seq (.line [⟨(some 6), none, .move (.c (.bool false))⟩])
  .ret) .skip))
 (.seq (.line [⟨(some 18), none, .move (.t 0)⟩, ⟨(some 19), none, .move (.t 1)⟩, ⟨(some 20), none, .call (.c (.func (.func 10) #[] #[])) [(.t 18), (.t 19)]⟩, ⟨(some 21), none, .move (.t 0)⟩, ⟨(some 22), none, .move (.t 1)⟩, ⟨(some 23), none, .call (.c (.func (.func 11) #[] #[])) [(.t 21), (.t 22)]⟩, ⟨(some 24), none, .call (.c (.func (.func 9) #[] #[])) [(.t 20), (.t 23)]⟩, ⟨(some 25), none, .move (.t 24)⟩, ⟨(some 26), (some (25, true)), .move (.t 0)⟩, ⟨(some 27), (some (25, true)), .move (.t 1)⟩, ⟨(some 28), (some (25, true)), .move (.t 2)⟩, ⟨(some 29), (some (25, true)), .call (.c (.func (.func 12) #[] #[])) [(.t 26), (.t 27), (.t 28)]⟩, ⟨(some 30), (some (25, true)), .move (.t 0)⟩, ⟨(some 31), (some (25, true)), .move (.t 1)⟩, ⟨(some 32), (some (25, true)), .move (.t 2)⟩, ⟨(some 33), (some (25, true)), .call (.c (.func (.func 13) #[] #[])) [(.t 30), (.t 31), (.t 32)]⟩, ⟨(some 34), (some (25, true)), .call (.c (.func (.func 9) #[] #[])) [(.t 29), (.t 33)]⟩, ⟨(some 35), none, .pick (.t 25) (.t 34) (.c (.bool false))⟩, ⟨(some 6), none, .move (.t 35)⟩])
 .ret)))⟩
/-- captioner/captionerlaw51.GlossaryWords -/
def g4 : GFun := ⟨82, [.tmp 6],
 (.seq (.line [⟨(some 6), none, .move (.c (.bool false))⟩])
 (.seq (.seq (.line [⟨(some 11), none, .call (.c (.func (.func 6) #[] #[])) []⟩, ⟨(some 12), none, .un .not (.t 11)⟩])
 (.cond (.t 12) (.seq (.line [⟨(some 6), none, .move (.c (.bool false))⟩])
  .ret) .skip))
 (.seq (.seq (.line [⟨(some 13), none, .move (.t 0)⟩, ⟨(some 14), none, .call (.c (.func (.func 14) #[] #[])) [(.t 13)]⟩, ⟨(some 15), none, .bin .lss none (.t 14) (.c (.int .i64 0))⟩, ⟨(some 16), none, .move (.t 15)⟩, ⟨(some 17), (some (16, false)), .move (.t 2)⟩, ⟨(some 18), (some (16, false)), .call (.c (.func (.func 14) #[] #[])) [(.t 17)]⟩, ⟨(some 19), (some (16, false)), .bin .lss none (.t 18) (.c (.int .i64 0))⟩, ⟨(some 20), none, .pick (.t 16) (.c (.bool true)) (.t 19)⟩, ⟨(some 21), none, .move (.t 20)⟩, ⟨(some 22), (some (21, false)), .move (.t 1)⟩, ⟨(some 23), (some (21, false)), .move (.t 1)⟩, ⟨(some 24), (some (21, false)), .call (.c (.func (.func 7) #[] #[])) [(.t 22), (.t 23)]⟩, ⟨(some 25), (some (21, false)), .un .not (.t 24)⟩, ⟨(some 26), none, .pick (.t 21) (.c (.bool true)) (.t 25)⟩])
 (.cond (.t 26) (.seq (.line [⟨(some 6), none, .move (.c (.bool true))⟩])
  .ret) .skip))
 (.seq (.line [⟨(some 7), none, .move (.c (.string ⟨#[]⟩))⟩])
 (.seq (.seq (.line [⟨(some 27), none, .move (.t 1)⟩, ⟨(some 28), none, .call (.c (.func (.func 15) #[] #[])) [(.t 27)]⟩, ⟨(some 29), none, .len false (.t 28)⟩, ⟨(some 30), none, .move (.c (.int .i64 0))⟩])
 (.block 0 (.loop (.seq (.line [⟨(some 31), none, .bin .lss none (.t 30) (.t 29)⟩])
   (.seq (.cond (.t 31) .skip (.exit 0))
   (.seq (.block 1 (.seq (.line [⟨(some 32), none, .ia none 1 (.t 28) (.t 30)⟩, ⟨(some 33), none, .load none (.t 32)⟩, ⟨(some 9), none, .move (.t 33)⟩])
    (.line [⟨(some 34), none, .move (.t 7)⟩, ⟨(some 35), none, .move (.t 9)⟩, ⟨(some 36), none, .call (.c (.func (.func 16) #[] #[])) [(.t 35)]⟩, ⟨(some 37), none, .conv .strOfInt (.t 36)⟩, ⟨(some 38), none, .bin .add none (.t 34) (.t 37)⟩, ⟨(some 7), none, .move (.t 38)⟩])))
   (.line [⟨(some 39), none, .bin .add none (.t 30) (.c (.int .i64 1))⟩, ⟨(some 30), none, .move (.t 39)⟩])))))))
 (.seq (.line [⟨(some 40), none, .move (.t 0)⟩, ⟨(some 41), none, .bin .add none (.t 40) (.c (.string ⟨#[32]⟩))⟩, ⟨(some 42), none, .move (.t 1)⟩, ⟨(some 43), none, .bin .add none (.t 41) (.t 42)⟩, ⟨(some 44), none, .bin .add none (.t 43) (.c (.string ⟨#[32]⟩))⟩, ⟨(some 45), none, .move (.t 2)⟩, ⟨(some 46), none, .bin .add none (.t 44) (.t 45)⟩, ⟨(some 10), none, .move (.t 46)⟩])
 (.seq (.line [⟨(some 47), none, .move (.t 10)⟩, ⟨(some 48), none, .move (.t 1)⟩, ⟨(some 49), none, .call (.c (.func (.func 7) #[] #[])) [(.t 47), (.t 48)]⟩, ⟨(some 50), none, .move (.t 49)⟩, ⟨(some 51), (some (50, true)), .move (.t 10)⟩, ⟨(some 52), (some (50, true)), .move (.t 7)⟩, ⟨(some 53), (some (50, true)), .call (.c (.func (.func 7) #[] #[])) [(.t 51), (.t 52)]⟩, ⟨(some 54), none, .pick (.t 50) (.t 53) (.c (.bool false))⟩, ⟨(some 55), none, .move (.t 54)⟩, ⟨(some 56), (some (55, true)), .move (.t 0)⟩, ⟨(some 57), (some (55, true)), .bin .add none (.t 56) (.c (.string ⟨#[10]⟩))⟩, ⟨(some 58), (some (55, true)), .move (.t 7)⟩, ⟨(some 59), (some (55, true)), .bin .add none (.t 57) (.t 58)⟩, ⟨(some 60), (some (55, true)), .bin .add none (.t 59) (.c (.string ⟨#[46]⟩))⟩, ⟨(some 61), (some (55, true)), .move (.t 2)⟩, ⟨(some 62), (some (55, true)), .bin .add none (.t 60) (.t 61)⟩, ⟨(some 63), (some (55, true)), .move (.t 1)⟩, ⟨(some 64), (some (55, true)), .call (.c (.func (.func 7) #[] #[])) [(.t 62), (.t 63)]⟩, ⟨(some 65), none, .pick (.t 55) (.t 64) (.c (.bool false))⟩, ⟨(some 66), none, .move (.t 65)⟩, ⟨(some 67), (some (66, true)), .move (.t 1)⟩, ⟨(some 68), (some (66, true)), .bin .add none (.t 67) (.c (.string ⟨#[120]⟩))⟩, ⟨(some 69), (some (66, true)), .move (.t 1)⟩, ⟨(some 70), (some (66, true)), .call (.c (.func (.func 7) #[] #[])) [(.t 68), (.t 69)]⟩, ⟨(some 71), (some (66, true)), .un .not (.t 70)⟩, ⟨(some 72), none, .pick (.t 66) (.t 71) (.c (.bool false))⟩, ⟨(some 73), none, .move (.t 72)⟩, ⟨(some 74), (some (73, true)), .move (.t 1)⟩, ⟨(some 75), (some (73, true)), .build [(.string ⟨#[]⟩), (.slice none 0 0)] [(0, 1, (.t 74))]⟩, ⟨(some 76), (some (73, true)), .buildSl 2 1 [(.string ⟨#[]⟩), (.slice none 0 0)] [(0, 2, (.t 75))]⟩, ⟨(some 77), (some (73, true)), .move (.t 10)⟩, ⟨(some 78), (some (73, true)), .call (.c (.func (.func 10) #[] #[])) [(.t 76), (.t 77)]⟩, ⟨(some 79), (some (73, true)), .len false (.t 78)⟩, ⟨(some 80), (some (73, true)), .bin .eql (some .int) (.t 79) (.c (.int .i64 1))⟩, ⟨(some 81), none, .pick (.t 73) (.t 80) (.c (.bool false))⟩, ⟨(some 6), none, .move (.t 81)⟩])
 .ret)))))))⟩
/-- captioner/captionerlaw51.GlossaryParses -/
def g5 : GFun := ⟨46, [.tmp 2],
 (.seq (.line [⟨(some 2), none, .move (.c (.bool false))⟩])
 (.seq (.seq (.line [⟨(some 8), none, .call (.c (.func (.func 6) #[] #[])) []⟩, ⟨(some 9), none, .un .not (.t 8)⟩])
 (.cond (.t 9) (.seq (.line [⟨(some 2), none, .move (.c (.bool false))⟩])
  .ret) .skip))
 (.seq (.line [⟨(some 11), none, .move (.t 0)⟩, ⟨(some 12), none, .call (.c (.func (.func 17) #[] #[])) [(.t 11)]⟩, ⟨(some 10), none, .move (.t 12)⟩, ⟨(some 13), none, .ext (.t 10) 0⟩, ⟨(some 14), none, .ext (.t 10) 1⟩, ⟨(some 3), none, .move (.t 13)⟩, ⟨(some 4), none, .move (.t 14)⟩])
 (.seq (.line [⟨(some 16), none, .move (.t 0)⟩, ⟨(some 17), none, .call (.c (.func (.func 18) #[] #[])) [(.t 16)]⟩, ⟨(some 15), none, .move (.t 17)⟩, ⟨(some 18), none, .ext (.t 15) 0⟩, ⟨(some 19), none, .ext (.t 15) 1⟩, ⟨(some 5), none, .move (.t 18)⟩, ⟨(some 6), none, .move (.t 19)⟩])
 (.seq (.seq (.line [⟨(some 20), none, .move (.t 3)⟩, ⟨(some 21), none, .move (.t 5)⟩, ⟨(some 22), none, .call (.c (.func (.func 19) #[] #[])) [(.t 20), (.t 21)]⟩, ⟨(some 23), none, .un .not (.t 22)⟩, ⟨(some 24), none, .move (.t 23)⟩, ⟨(some 25), (some (24, false)), .move (.t 4)⟩, ⟨(some 26), (some (24, false)), .len false (.t 25)⟩, ⟨(some 27), (some (24, false)), .move (.t 6)⟩, ⟨(some 28), (some (24, false)), .len false (.t 27)⟩, ⟨(some 29), (some (24, false)), .bin .neq (some .int) (.t 26) (.t 28)⟩, ⟨(some 30), none, .pick (.t 24) (.c (.bool true)) (.t 29)⟩])
 (.cond (.t 30) (.seq (.line [⟨(some 2), none, .move (.c (.bool false))⟩])
  .ret) .skip))
 (.seq (.seq (.line [⟨(some 31), none, .move (.t 4)⟩, ⟨(some 32), none, .len false (.t 31)⟩, ⟨(some 33), none, .move (.c (.int .i64 0))⟩])
 (.block 0 (.loop (.seq (.line [⟨(some 34), none, .bin .lss none (.t 33) (.t 32)⟩])
   (.seq (.cond (.t 34) .skip (.exit 0))
   (.seq (.block 1 (.seq (.line [⟨(some 35), none, .move (.t 33)⟩, ⟨(some 7), none, .move (.t 35)⟩])
    (.seq (.any [] [⟨(some 36), none, .move (.t 4)⟩, ⟨(some 37), none, .move (.t 7)⟩, ⟨(some 38), none, .ia none 3 (.t 36) (.t 37)⟩, ⟨(some 39), none, .load (some 3) (.t 38)⟩, ⟨(some 40), none, .move (.t 6)⟩, ⟨(some 41), none, .move (.t 7)⟩, ⟨(some 42), none, .ia none 3 (.t 40) (.t 41)⟩, ⟨(some 43), none, .load (some 3) (.t 42)⟩, ⟨(some 44), none, .bin .neq (some (.parts [(0, none, .int), (1, none, .int), (2, none, .int)])) (.t 39) (.t 43)⟩] [])
    (.cond (.t 44) (.seq (.line [⟨(some 2), none, .move (.c (.bool false))⟩])
     .ret) .skip))))
   (.line [⟨(some 45), none, .bin .add none (.t 33) (.c (.int .i64 1))⟩, ⟨(some 33), none, .move (.t 45)⟩])))))))
 (.seq (.line [⟨(some 2), none, .move (.c (.bool true))⟩])
 .ret)))))))⟩
/-- captioner/captionerlaw51.awake -/
def g6 : GFun := ⟨36, [.tmp 0],
 (.seq (.line [⟨(some 0), none, .move (.c (.bool false))⟩])
 (.seq (.line [⟨(some 4), none, .buildSl 1 1 [(.string ⟨#[]⟩)] [(0, 1, (.c (.string ⟨#[99, 104, 105, 101, 110]⟩)))]⟩, ⟨(some 5), none, .build [(.string ⟨#[]⟩), (.slice none 0 0)] [(0, 1, (.c (.string ⟨#[100, 111, 103]⟩))), (1, 1, (.t 4))]⟩, ⟨(some 6), none, .buildSl 2 1 [(.string ⟨#[]⟩), (.slice none 0 0)] [(0, 2, (.t 5))]⟩, ⟨(some 1), none, .move (.t 6)⟩])
 (.seq (.line [⟨(some 7), none, .move (.t 1)⟩, ⟨(some 8), none, .call (.c (.func (.func 12) #[] #[])) [(.t 7), (.c (.string ⟨#[65, 32, 100, 111, 103, 46]⟩)), (.c (.string ⟨#[85, 110, 32, 99, 104, 97, 116, 46]⟩))]⟩, ⟨(some 9), none, .move (.t 1)⟩, ⟨(some 10), none, .call (.c (.func (.func 12) #[] #[])) [(.t 9), (.c (.string ⟨#[65, 32, 100, 111, 103, 46]⟩)), (.c (.string ⟨#[85, 110, 32, 67, 104, 105, 101, 110, 33]⟩))]⟩, ⟨(some 2), none, .move (.t 8)⟩, ⟨(some 3), none, .move (.t 10)⟩])
 (.seq (.line [⟨(some 11), none, .call (.c (.func (.func 7) #[] #[])) [(.c (.string ⟨#[84, 104, 101, 32, 68, 111, 103, 10, 104, 111, 117, 115, 101]⟩)), (.c (.string ⟨#[100, 111, 103, 32, 104, 111, 117, 115, 101]⟩))]⟩, ⟨(some 12), none, .move (.t 11)⟩, ⟨(some 13), (some (12, true)), .call (.c (.func (.func 7) #[] #[])) [(.c (.string ⟨#[104, 111, 116, 100, 111, 103, 32, 104, 111, 117, 115, 101]⟩)), (.c (.string ⟨#[100, 111, 103, 32, 104, 111, 117, 115, 101]⟩))]⟩, ⟨(some 14), (some (12, true)), .un .not (.t 13)⟩, ⟨(some 15), none, .pick (.t 12) (.t 14) (.c (.bool false))⟩, ⟨(some 16), none, .move (.t 15)⟩, ⟨(some 17), (some (16, true)), .call (.c (.func (.func 7) #[] #[])) [(.c (.string ⟨#[100, 111, 103, 115]⟩)), (.c (.string ⟨#[100, 111, 103]⟩))]⟩, ⟨(some 18), (some (16, true)), .un .not (.t 17)⟩, ⟨(some 19), none, .pick (.t 16) (.t 18) (.c (.bool false))⟩, ⟨(some 20), none, .move (.t 19)⟩, ⟨(some 21), (some (20, true)), .move (.t 2)⟩, ⟨(some 22), (some (20, true)), .len false (.t 21)⟩, ⟨(some 23), (some (20, true)), .bin .eql (some .int) (.t 22) (.c (.int .i64 1))⟩, ⟨(some 24), none, .pick (.t 20) (.t 23) (.c (.bool false))⟩, ⟨(some 25), none, .move (.t 24)⟩, ⟨(some 26), (some (25, true)), .move (.t 2)⟩, ⟨(some 27), (some (25, true)), .ia none 1 (.t 26) (.c (.int .i64 0))⟩, ⟨(some 28), (some (25, true)), .load none (.t 27)⟩, ⟨(some 29), (some (25, true)), .bin .eql (some .int) (.t 28) (.c (.int .i64 0))⟩, ⟨(some 30), none, .pick (.t 25) (.t 29) (.c (.bool false))⟩, ⟨(some 31), none, .move (.t 30)⟩, ⟨(some 32), (some (31, true)), .move (.t 3)⟩, ⟨(some 33), (some (31, true)), .len false (.t 32)⟩, ⟨(some 34), (some (31, true)), .bin .eql (some .int) (.t 33) (.c (.int .i64 0))⟩, ⟨(some 35), none, .pick (.t 31) (.t 34) (.c (.bool false))⟩, ⟨(some 0), none, .move (.t 35)⟩])
 .ret))))⟩
/-- captioner/glossary.Contains -/
def g7 : GFun := ⟨54, [.tmp 4],
 (.seq (.line [⟨(some 4), none, .move (.c (.bool false))⟩])
 (.seq (.line [⟨(some 8), none, .move (.t 0)⟩, ⟨(some 9), none, .call (.c (.func (.func 20) #[] #[])) [(.t 8), (.c (.string ⟨#[10]⟩)), (.c (.string ⟨#[32]⟩))]⟩, ⟨(some 0), none, .move (.t 9)⟩])
 (.seq (.seq (.line [⟨(some 10), none, .move (.t 0)⟩, ⟨(some 11), none, .call (.c (.func (.func 21) #[] #[])) [(.t 10)]⟩, ⟨(some 12), none, .un .not (.t 11)⟩, ⟨(some 13), none, .move (.t 12)⟩, ⟨(some 14), (some (13, false)), .move (.t 1)⟩, ⟨(some 15), (some (13, false)), .call (.c (.func (.func 22) #[] #[])) [(.t 14)]⟩, ⟨(some 16), (some (13, false)), .un .not (.t 15)⟩, ⟨(some 17), none, .pick (.t 13) (.c (.bool true)) (.t 16)⟩])
 (.cond (.t 17) (.seq (.line [⟨(some 4), none, .move (.c (.bool false))⟩])
  .ret) .skip))
 (.seq (.line [⟨(some 18), none, .move (.t 0)⟩, ⟨(some 19), none, .call (.c (.func (.func 23) #[] #[])) [(.t 18)]⟩, ⟨(some 20), none, .move (.t 1)⟩, ⟨(some 21), none, .call (.c (.func (.func 23) #[] #[])) [(.t 20)]⟩, ⟨(some 5), none, .move (.t 19)⟩, ⟨(some 6), none, .move (.t 21)⟩])
 (.seq (.seq (.line [⟨(some 7), none, .move (.c (.int .i64 0))⟩])
 (.block 0 (.loop (.seq (.seq (.line [⟨(some 22), none, .move (.t 7)⟩, ⟨(some 23), none, .move (.t 6)⟩, ⟨(some 24), none, .len true (.t 23)⟩, ⟨(some 25), none, .bin .add none (.t 22) (.t 24)⟩, ⟨(some 26), none, .move (.t 5)⟩, ⟨(some 27), none, .len true (.t 26)⟩, ⟨(some 28), none, .bin .leq none (.t 25) (.t 27)⟩])
   (.cond (.t 28) .skip (.exit 0)))
   (.seq (.block 1 (.seq (.line [⟨(some 31), none, .move (.t 5)⟩, ⟨(some 32), none, .move (.t 7)⟩, ⟨(some 33), none, .move (.t 7)⟩, ⟨(some 34), none, .move (.t 6)⟩, ⟨(some 35), none, .len true (.t 34)⟩, ⟨(some 36), none, .bin .add none (.t 33) (.t 35)⟩, ⟨(some 37), none, .slice .str (.t 31) (some (.t 32)) (some (.t 36)) none⟩, ⟨(some 38), none, .move (.t 6)⟩, ⟨(some 39), none, .bin .eql (some .str) (.t 37) (.t 38)⟩, ⟨(some 40), none, .move (.t 39)⟩, ⟨(some 41), (some (40, true)), .move (.t 5)⟩, ⟨(some 42), (some (40, true)), .move (.t 7)⟩, ⟨(some 43), (some (40, true)), .bin .sub none (.t 42) (.c (.int .i64 1))⟩, ⟨(some 44), (some (40, true)), .call (.c (.func (.func 24) #[] #[])) [(.t 41), (.t 43)]⟩, ⟨(some 45), none, .pick (.t 40) (.t 44) (.c (.bool false))⟩, ⟨(some 46), none, .move (.t 45)⟩, ⟨(some 47), (some (46, true)), .move (.t 5)⟩, ⟨(some 48), (some (46, true)), .move (.t 7)⟩, ⟨(some 49), (some (46, true)), .move (.t 6)⟩, ⟨(some 50), (some (46, true)), .len true (.t 49)⟩, ⟨(some 51), (some (46, true)), .bin .add none (.t 48) (.t 50)⟩, ⟨(some 52), (some (46, true)), .call (.c (.func (.func 24) #[] #[])) [(.t 47), (.t 51)]⟩, ⟨(some 53), none, .pick (.t 46) (.t 52) (.c (.bool false))⟩])
    (.cond (.t 53) (.seq (.line [⟨(some 4), none, .move (.c (.bool true))⟩])
     .ret) .skip)))
   (.line [⟨(some 29), none, .move (.t 7)⟩, ⟨(some 30), none, .bin .add none (.t 29) (.c (.int .i64 1))⟩, ⟨(some 7), none, .move (.t 30)⟩]))))))
 (.seq (.line [⟨(some 4), none, .move (.c (.bool false))⟩])
 .ret))))))⟩
/-- captioner/captionerref51.Contains -/
def g8 : GFun := ⟨90, [.tmp 4],
 (.seq (.line [⟨(some 4), none, .move (.c (.bool false))⟩])
 (.seq (.line [⟨(some 11), none, .move (.t 0)⟩, ⟨(some 12), none, .call (.c (.func (.func 25) #[] #[])) [(.t 11)]⟩, ⟨(some 5), none, .move (.t 12)⟩])
 (.seq (.seq (.line [⟨(some 13), none, .move (.t 5)⟩, ⟨(some 14), none, .call (.c (.func (.func 26) #[] #[])) [(.t 13)]⟩, ⟨(some 15), none, .un .not (.t 14)⟩, ⟨(some 16), none, .move (.t 15)⟩, ⟨(some 17), (some (16, false)), .move (.t 1)⟩, ⟨(some 18), (some (16, false)), .call (.c (.func (.func 27) #[] #[])) [(.t 17)]⟩, ⟨(some 19), (some (16, false)), .un .not (.t 18)⟩, ⟨(some 20), none, .pick (.t 16) (.c (.bool true)) (.t 19)⟩])
 (.cond (.t 20) (.seq (.line [⟨(some 4), none, .move (.c (.bool false))⟩])
  .ret) .skip))
 (.seq (.line [⟨(some 21), none, .move (.t 5)⟩, ⟨(some 22), none, .call (.c (.func (.func 29) #[] #[])) [(.t 21)]⟩, ⟨(some 23), none, .call (.c (.func (.func 28) #[] #[])) [(.t 22)]⟩, ⟨(some 24), none, .move (.t 1)⟩, ⟨(some 25), none, .call (.c (.func (.func 29) #[] #[])) [(.t 24)]⟩, ⟨(some 26), none, .call (.c (.func (.func 28) #[] #[])) [(.t 25)]⟩, ⟨(some 6), none, .move (.t 23)⟩, ⟨(some 7), none, .move (.t 26)⟩])
 (.seq (.seq (.line [⟨(some 8), none, .move (.c (.int .i64 0))⟩])
 (.block 0 (.loop (.seq (.seq (.line [⟨(some 27), none, .move (.t 8)⟩, ⟨(some 28), none, .move (.t 7)⟩, ⟨(some 29), none, .len false (.t 28)⟩, ⟨(some 30), none, .bin .add none (.t 27) (.t 29)⟩, ⟨(some 31), none, .move (.t 6)⟩, ⟨(some 32), none, .len false (.t 31)⟩, ⟨(some 33), none, .bin .leq none (.t 30) (.t 32)⟩])
   (.cond (.t 33) .skip (.exit 0)))
   (.seq (.block 1 (.seq (.line [⟨(some 9), none, .move (.c (.bool true))⟩])
    (.seq (.seq (.line [⟨(some 36), none, .move (.t 7)⟩, ⟨(some 37), none, .len false (.t 36)⟩, ⟨(some 38), none, .move (.c (.int .i64 0))⟩])
    (.block 2 (.loop (.seq (.line [⟨(some 39), none, .bin .lss none (.t 38) (.t 37)⟩])
      (.seq (.cond (.t 39) .skip (.exit 2))
      (.seq (.block 3 (.seq (.line [⟨(some 40), none, .move (.t 38)⟩, ⟨(some 10), none, .move (.t 40)⟩])
       (.any [] [⟨(some 41), none, .move (.t 9)⟩, ⟨(some 42), none, .move (.t 41)⟩, ⟨(some 43), (some (42, true)), .move (.t 6)⟩, ⟨(some 44), (some (42, true)), .move (.t 8)⟩, ⟨(some 45), (some (42, true)), .move (.t 10)⟩, ⟨(some 46), (some (42, true)), .bin .add none (.t 44) (.t 45)⟩, ⟨(some 47), (some (42, true)), .ia none 1 (.t 43) (.t 46)⟩, ⟨(some 48), (some (42, true)), .load none (.t 47)⟩, ⟨(some 49), (some (42, true)), .move (.t 7)⟩, ⟨(some 50), (some (42, true)), .move (.t 10)⟩, ⟨(some 51), (some (42, true)), .ia none 1 (.t 49) (.t 50)⟩, ⟨(some 52), (some (42, true)), .load none (.t 51)⟩, ⟨(some 53), (some (42, true)), .bin .eql (some .int) (.t 48) (.t 52)⟩, ⟨(some 54), none, .pick (.t 42) (.t 53) (.c (.bool false))⟩, ⟨(some 9), none, .move (.t 54)⟩] [])))
      (.line [⟨(some 55), none, .bin .add none (.t 38) (.c (.int .i64 1))⟩, ⟨(some 38), none, .move (.t 55)⟩])))))))
    (.seq (.line [⟨(some 56), none, .move (.t 9)⟩, ⟨(some 57), none, .move (.t 56)⟩, ⟨(some 58), (some (57, true)), .move (.t 8)⟩, ⟨(some 59), (some (57, true)), .bin .eql (some .int) (.t 58) (.c (.int .i64 0))⟩, ⟨(some 60), (some (57, true)), .move (.t 59)⟩, ⟨(some 61), (some (60, false)), .move (.t 6)⟩, ⟨(some 62), (some (60, false)), .move (.t 8)⟩, ⟨(some 63), (some (60, false)), .bin .sub none (.t 62) (.c (.int .i64 1))⟩, ⟨(some 64), (some (60, false)), .ia none 1 (.t 61) (.t 63)⟩, ⟨(some 65), (some (60, false)), .load none (.t 64)⟩, ⟨(some 66), (some (60, false)), .call (.c (.func (.func 30) #[] #[])) [(.t 65)]⟩, ⟨(some 67), (some (60, false)), .un .not (.t 66)⟩, ⟨(some 68), (some (57, true)), .pick (.t 60) (.c (.bool true)) (.t 67)⟩, ⟨(some 69), none, .pick (.t 57) (.t 68) (.c (.bool false))⟩, ⟨(some 70), none, .move (.t 69)⟩, ⟨(some 71), (some (70, true)), .move (.t 8)⟩, ⟨(some 72), (some (70, true)), .move (.t 7)⟩, ⟨(some 73), (some (70, true)), .len false (.t 72)⟩, ⟨(some 74), (some (70, true)), .bin .add none (.t 71) (.t 73)⟩, ⟨(some 75), (some (70, true)), .move (.t 6)⟩, ⟨(some 76), (some (70, true)), .len false (.t 75)⟩, ⟨(some 77), (some (70, true)), .bin .eql (some .int) (.t 74) (.t 76)⟩, ⟨(some 78), (some (70, true)), .move (.t 77)⟩, ⟨(some 79), (some (78, false)), .move (.t 6)⟩, ⟨(some 80), (some (78, false)), .move (.t 8)⟩, ⟨(some 81), (some (78, false)), .move (.t 7)⟩, ⟨(some 82), (some (78, false)), .len false (.t 81)⟩, ⟨(some 83), (some (78, false)), .bin .add none (.t 80) (.t 82)⟩, ⟨(some 84), (some (78, false)), .ia none 1 (.t 79) (.t 83)⟩, ⟨(some 85), (some (78, false)), .load none (.t 84)⟩, ⟨(some 86), (some (78, false)), .call (.c (.func (.func 30) #[] #[])) [(.t 85)]⟩, ⟨(some 87), (some (78, false)), .un .not (.t 86)⟩, ⟨(some 88), (some (70, true)), .pick (.t 78) (.c (.bool true)) (.t 87)⟩, ⟨(some 89), none, .pick (.t 70) (.t 88) (.c (.bool false))⟩])
    (.cond (.t 89) (.seq (.line [⟨(some 4), none, .move (.c (.bool true))⟩])
     .ret) .skip)))))
   (.line [⟨(some 34), none, .move (.t 8)⟩, ⟨(some 35), none, .bin .add none (.t 34) (.c (.int .i64 1))⟩, ⟨(some 8), none, .move (.t 35)⟩]))))))
 (.seq (.line [⟨(some 4), none, .move (.c (.bool false))⟩])
 .ret))))))⟩
/-- captioner/captionerlaw51.ints -/
def g9 : GFun := ⟨26, [.tmp 4],
 (.seq (.line [⟨(some 4), none, .move (.c (.bool false))⟩])
 (.seq (.seq (.line [⟨(some 6), none, .move (.t 0)⟩, ⟨(some 7), none, .len false (.t 6)⟩, ⟨(some 8), none, .move (.t 1)⟩, ⟨(some 9), none, .len false (.t 8)⟩, ⟨(some 10), none, .bin .neq (some .int) (.t 7) (.t 9)⟩])
 (.cond (.t 10) (.seq (.line [⟨(some 4), none, .move (.c (.bool false))⟩])
  .ret) .skip))
 (.seq (.seq (.line [⟨(some 11), none, .move (.t 0)⟩, ⟨(some 12), none, .len false (.t 11)⟩, ⟨(some 13), none, .move (.c (.int .i64 0))⟩])
 (.block 0 (.loop (.seq (.line [⟨(some 14), none, .bin .lss none (.t 13) (.t 12)⟩])
   (.seq (.cond (.t 14) .skip (.exit 0))
   (.seq (.block 1 (.seq (.line [⟨(some 15), none, .move (.t 13)⟩, ⟨(some 5), none, .move (.t 15)⟩])
    (.seq (.any [] [⟨(some 16), none, .move (.t 0)⟩, ⟨(some 17), none, .move (.t 5)⟩, ⟨(some 18), none, .ia none 1 (.t 16) (.t 17)⟩, ⟨(some 19), none, .load none (.t 18)⟩, ⟨(some 20), none, .move (.t 1)⟩, ⟨(some 21), none, .move (.t 5)⟩, ⟨(some 22), none, .ia none 1 (.t 20) (.t 21)⟩, ⟨(some 23), none, .load none (.t 22)⟩, ⟨(some 24), none, .bin .neq (some .int) (.t 19) (.t 23)⟩] [])
    (.cond (.t 24) (.seq (.line [⟨(some 4), none, .move (.c (.bool false))⟩])
     .ret) .skip))))
   (.line [⟨(some 25), none, .bin .add none (.t 13) (.c (.int .i64 1))⟩, ⟨(some 13), none, .move (.t 25)⟩])))))))
 (.seq (.line [⟨(some 4), none, .move (.c (.bool true))⟩])
 .ret))))⟩
/-- captioner/glossary.Find -/
def g10 : GFun := ⟨25, [.tmp 4],
 (.seq (.line [⟨(some 4), none, .move (.c (.slice none 0 0))⟩])
 (.seq (.line [⟨(some 5), none, .move (.c (.slice none 0 0))⟩])
 (.seq (.seq (.line [⟨(some 8), none, .move (.t 0)⟩, ⟨(some 9), none, .len false (.t 8)⟩, ⟨(some 10), none, .move (.c (.int .i64 0))⟩])
 (.block 0 (.loop (.seq (.line [⟨(some 11), none, .bin .lss none (.t 10) (.t 9)⟩])
   (.seq (.cond (.t 11) .skip (.exit 0))
   (.seq (.block 1 (.seq (.line [⟨(some 12), none, .move (.t 10)⟩, ⟨(some 13), none, .ia none 2 (.t 8) (.t 10)⟩, ⟨(some 14), none, .load (some 2) (.t 13)⟩, ⟨(some 7), none, .alloc 0 [(.string ⟨#[]⟩), (.slice none 0 0)]⟩, ⟨(some 6), none, .move (.t 12)⟩, ⟨none, none, .store (some 2) (.t 7) (.t 14)⟩])
    (.seq (.line [⟨(some 15), none, .move (.t 1)⟩, ⟨(some 16), none, .fa 0 (.t 7)⟩, ⟨(some 17), none, .load none (.t 16)⟩, ⟨(some 18), none, .call (.c (.func (.func 7) #[] #[])) [(.t 15), (.t 17)]⟩])
    (.cond (.t 18) (.line [⟨(some 19), none, .move (.t 5)⟩, ⟨(some 20), none, .move (.t 6)⟩, ⟨(some 21), none, .buildSl 1 1 [(.int .i64 0)] [(0, 1, (.t 20))]⟩, ⟨(some 22), none, .app 1 8 1 (.t 19) (.t 21)⟩, ⟨(some 5), none, .move (.t 22)⟩]) .skip))))
   (.line [⟨(some 23), none, .bin .add none (.t 10) (.c (.int .i64 1))⟩, ⟨(some 10), none, .move (.t 23)⟩])))))))
 (.seq (.line [⟨(some 24), none, .move (.t 5)⟩, ⟨(some 4), none, .move (.t 24)⟩])
 .ret))))⟩
/-- captioner/captionerref51.Find -/
def g11 : GFun := ⟨25, [.tmp 4],
 (.seq (.line [⟨(some 4), none, .move (.c (.slice none 0 0))⟩])
 (.seq (.line [⟨(some 5), none, .move (.c (.slice none 0 0))⟩])
 (.seq (.seq (.line [⟨(some 8), none, .move (.t 0)⟩, ⟨(some 9), none, .len false (.t 8)⟩, ⟨(some 10), none, .move (.c (.int .i64 0))⟩])
 (.block 0 (.loop (.seq (.line [⟨(some 11), none, .bin .lss none (.t 10) (.t 9)⟩])
   (.seq (.cond (.t 11) .skip (.exit 0))
   (.seq (.block 1 (.seq (.line [⟨(some 12), none, .move (.t 10)⟩, ⟨(some 13), none, .ia none 2 (.t 8) (.t 10)⟩, ⟨(some 14), none, .load (some 2) (.t 13)⟩, ⟨(some 7), none, .alloc 0 [(.string ⟨#[]⟩), (.slice none 0 0)]⟩, ⟨(some 6), none, .move (.t 12)⟩, ⟨none, none, .store (some 2) (.t 7) (.t 14)⟩])
    (.seq (.line [⟨(some 15), none, .move (.t 1)⟩, ⟨(some 16), none, .fa 0 (.t 7)⟩, ⟨(some 17), none, .load none (.t 16)⟩, ⟨(some 18), none, .call (.c (.func (.func 8) #[] #[])) [(.t 15), (.t 17)]⟩])
    (.cond (.t 18) (.line [⟨(some 19), none, .move (.t 5)⟩, ⟨(some 20), none, .move (.t 6)⟩, ⟨(some 21), none, .buildSl 1 1 [(.int .i64 0)] [(0, 1, (.t 20))]⟩, ⟨(some 22), none, .app 1 8 1 (.t 19) (.t 21)⟩, ⟨(some 5), none, .move (.t 22)⟩]) .skip))))
   (.line [⟨(some 23), none, .bin .add none (.t 10) (.c (.int .i64 1))⟩, ⟨(some 10), none, .move (.t 23)⟩])))))))
 (.seq (.line [⟨(some 24), none, .move (.t 5)⟩, ⟨(some 4), none, .move (.t 24)⟩])
 .ret))))⟩
/-- captioner/glossary.Judge -/
def g12 : GFun := ⟨32, [.tmp 6],
 (.seq (.line [⟨(some 5), none, .box (.t 2)⟩, ⟨(some 6), none, .move (.c (.slice none 0 0))⟩])
 (.seq (.line [⟨(some 7), none, .move (.c (.slice none 0 0))⟩])
 (.seq (.seq (.line [⟨(some 10), none, .move (.t 0)⟩, ⟨(some 11), none, .move (.t 1)⟩, ⟨(some 12), none, .call (.c (.func (.func 10) #[] #[])) [(.t 10), (.t 11)]⟩, ⟨(some 13), none, .len false (.t 12)⟩, ⟨(some 14), none, .move (.c (.int .i64 0))⟩])
 (.block 0 (.loop (.seq (.line [⟨(some 15), none, .bin .lss none (.t 14) (.t 13)⟩])
   (.seq (.cond (.t 15) .skip (.exit 0))
   (.seq (.block 1 (.seq (.line [⟨(some 16), none, .ia none 1 (.t 12) (.t 14)⟩, ⟨(some 17), none, .load none (.t 16)⟩, ⟨(some 9), none, .move (.t 17)⟩])
    (.seq (.line [⟨(some 18), none, .move (.t 0)⟩, ⟨(some 19), none, .move (.t 9)⟩, ⟨(some 20), none, .ia none 2 (.t 18) (.t 19)⟩, ⟨(some 21), none, .fa 1 (.t 20)⟩, ⟨(some 22), none, .load none (.t 21)⟩, ⟨(some 23), none, .fn 32 [] [(.t 5)]⟩, ⟨(some 24), none, .call (.c (.func (.func 31) #[] #[])) [(.t 22), (.t 23)]⟩, ⟨(some 25), none, .un .not (.t 24)⟩])
    (.cond (.t 25) (.line [⟨(some 26), none, .move (.t 7)⟩, ⟨(some 27), none, .move (.t 9)⟩, ⟨(some 28), none, .buildSl 1 1 [(.int .i64 0)] [(0, 1, (.t 27))]⟩, ⟨(some 29), none, .app 1 8 1 (.t 26) (.t 28)⟩, ⟨(some 7), none, .move (.t 29)⟩]) .skip))))
   (.line [⟨(some 30), none, .bin .add none (.t 14) (.c (.int .i64 1))⟩, ⟨(some 14), none, .move (.t 30)⟩])))))))
 (.seq (.line [⟨(some 31), none, .move (.t 7)⟩, ⟨(some 6), none, .move (.t 31)⟩])
 .ret))))⟩
/-- captioner/captionerref51.Judge -/
def g13 : GFun := ⟨46, [.tmp 6],
 (.seq (.line [⟨(some 6), none, .move (.c (.slice none 0 0))⟩])
 (.seq (.line [⟨(some 7), none, .move (.c (.slice none 0 0))⟩])
 (.seq (.seq (.line [⟨(some 13), none, .move (.t 0)⟩, ⟨(some 14), none, .move (.t 1)⟩, ⟨(some 15), none, .call (.c (.func (.func 11) #[] #[])) [(.t 13), (.t 14)]⟩, ⟨(some 16), none, .len false (.t 15)⟩, ⟨(some 17), none, .move (.c (.int .i64 0))⟩])
 (.block 0 (.loop (.seq (.line [⟨(some 18), none, .bin .lss none (.t 17) (.t 16)⟩])
   (.seq (.cond (.t 18) .skip (.exit 0))
   (.seq (.block 1 (.seq (.line [⟨(some 19), none, .ia none 1 (.t 15) (.t 17)⟩, ⟨(some 20), none, .load none (.t 19)⟩, ⟨(some 9), none, .move (.t 20)⟩])
    (.seq (.line [⟨(some 10), none, .move (.c (.bool false))⟩])
    (.seq (.seq (.line [⟨(some 21), none, .move (.t 0)⟩, ⟨(some 22), none, .move (.t 9)⟩, ⟨(some 23), none, .ia none 2 (.t 21) (.t 22)⟩, ⟨(some 24), none, .fa 1 (.t 23)⟩, ⟨(some 25), none, .load none (.t 24)⟩, ⟨(some 26), none, .len false (.t 25)⟩, ⟨(some 27), none, .move (.c (.int .i64 0))⟩])
    (.block 2 (.loop (.seq (.line [⟨(some 28), none, .bin .lss none (.t 27) (.t 26)⟩])
      (.seq (.cond (.t 28) .skip (.exit 2))
      (.seq (.block 3 (.seq (.line [⟨(some 29), none, .ia none 1 (.t 25) (.t 27)⟩, ⟨(some 30), none, .load none (.t 29)⟩, ⟨(some 12), none, .move (.t 30)⟩])
       (.line [⟨(some 31), none, .move (.t 10)⟩, ⟨(some 32), none, .move (.t 31)⟩, ⟨(some 33), (some (32, false)), .move (.t 2)⟩, ⟨(some 34), (some (32, false)), .move (.t 12)⟩, ⟨(some 35), (some (32, false)), .call (.c (.func (.func 8) #[] #[])) [(.t 33), (.t 34)]⟩, ⟨(some 36), none, .pick (.t 32) (.c (.bool true)) (.t 35)⟩, ⟨(some 10), none, .move (.t 36)⟩])))
      (.line [⟨(some 37), none, .bin .add none (.t 27) (.c (.int .i64 1))⟩, ⟨(some 27), none, .move (.t 37)⟩])))))))
    (.seq (.line [⟨(some 38), none, .move (.t 10)⟩, ⟨(some 39), none, .un .not (.t 38)⟩])
    (.cond (.t 39) (.line [⟨(some 40), none, .move (.t 7)⟩, ⟨(some 41), none, .move (.t 9)⟩, ⟨(some 42), none, .buildSl 1 1 [(.int .i64 0)] [(0, 1, (.t 41))]⟩, ⟨(some 43), none, .app 1 8 1 (.t 40) (.t 42)⟩, ⟨(some 7), none, .move (.t 43)⟩]) .skip))))))
   (.line [⟨(some 44), none, .bin .add none (.t 17) (.c (.int .i64 1))⟩, ⟨(some 17), none, .move (.t 44)⟩])))))))
 (.seq (.line [⟨(some 45), none, .move (.t 7)⟩, ⟨(some 6), none, .move (.t 45)⟩])
 .ret))))⟩
/-- captioner/charset.Len -/
def g14 : GFun := ⟨8, [.tmp 2],
 (.seq (.line [⟨(some 2), none, .move (.c (.int .i64 0))⟩])
 (.seq (.seq (.line [⟨(some 3), none, .move (.t 0)⟩, ⟨(some 4), none, .call (.c (.func (.func 21) #[] #[])) [(.t 3)]⟩, ⟨(some 5), none, .un .not (.t 4)⟩])
 (.cond (.t 5) (.seq (.line [⟨(some 2), none, .move (.c (.int .i64 (-1)))⟩])
  .ret) .skip))
 (.seq (.line [⟨(some 6), none, .move (.t 0)⟩, ⟨(some 7), none, .call (.c (.func (.func 33) #[] #[])) [(.t 6)]⟩, ⟨(some 2), none, .move (.t 7)⟩])
 .ret)))⟩
/-- captioner/charset.Chars -/
def g15 : GFun := ⟨19, [.tmp 2],
 (.seq (.line [⟨(some 2), none, .move (.c (.slice none 0 0))⟩])
 (.seq (.seq (.line [⟨(some 6), none, .move (.t 0)⟩, ⟨(some 7), none, .call (.c (.func (.func 21) #[] #[])) [(.t 6)]⟩, ⟨(some 8), none, .un .not (.t 7)⟩])
 (.cond (.t 8) (.seq (.line [⟨(some 2), none, .move (.c (.slice none 0 0))⟩])
  .ret) .skip))
 (.seq (.line [⟨(some 3), none, .move (.c (.slice none 0 0))⟩])
 (.seq (.seq (.line [⟨(some 9), none, .move (.t 0)⟩, ⟨(some 10), none, .rng (.t 9)⟩])
 (.block 0 (.loop (.seq (.line [⟨(some 11), none, .next (.t 10)⟩, ⟨(some 12), none, .ext (.t 11) 0⟩])
   (.seq (.cond (.t 12) .skip (.exit 0))
   (.block 1 (.seq (.line [⟨(some 13), none, .ext (.t 11) 2⟩, ⟨(some 5), none, .move (.t 13)⟩])
    (.line [⟨(some 14), none, .move (.t 3)⟩, ⟨(some 15), none, .move (.t 5)⟩, ⟨(some 16), none, .buildSl 1 1 [(.int .i32 0)] [(0, 1, (.t 15))]⟩, ⟨(some 17), none, .app 1 4 1 (.t 14) (.t 16)⟩, ⟨(some 3), none, .move (.t 17)⟩]))))))))
 (.seq (.line [⟨(some 18), none, .move (.t 3)⟩, ⟨(some 2), none, .move (.t 18)⟩])
 .ret)))))⟩
/-- captioner/charset.Upper -/
def g16 : GFun := ⟨26, [.tmp 2],
 (.seq (.line [⟨(some 2), none, .move (.c (.int .i32 0))⟩])
 (.seq (.block 0 (.seq (.line [⟨(some 4), none, .move (.t 0)⟩, ⟨(some 5), none, .call (.c (.func (.func 34) #[] #[])) [(.t 4)]⟩, ⟨(some 6), none, .bin .lss none (.t 5) (.c (.int .i64 0))⟩, ⟨(some 3), none, .move (.t 6)⟩])
  (.cond (.t 3) (.seq (.line [⟨(some 2), none, .move (.c (.int .i32 0))⟩])
   .ret) (.seq (.seq (.line [⟨(some 8), none, .move (.t 0)⟩, ⟨(some 9), none, .bin .geq none (.t 8) (.c (.int .i32 97))⟩, ⟨(some 10), none, .move (.t 9)⟩, ⟨(some 11), (some (10, true)), .move (.t 0)⟩, ⟨(some 12), (some (10, true)), .bin .leq none (.t 11) (.c (.int .i32 122))⟩, ⟨(some 13), none, .pick (.t 10) (.t 12) (.c (.bool false))⟩, ⟨(some 7), none, .move (.t 13)⟩])
   (.cond (.t 7) .skip (.line [⟨(some 14), none, .move (.t 0)⟩, ⟨(some 15), none, .bin .geq none (.t 14) (.c (.int .i32 224))⟩, ⟨(some 16), none, .move (.t 15)⟩, ⟨(some 17), (some (16, true)), .move (.t 0)⟩, ⟨(some 18), (some (16, true)), .bin .leq none (.t 17) (.c (.int .i32 255))⟩, ⟨(some 19), none, .pick (.t 16) (.t 18) (.c (.bool false))⟩, ⟨(some 7), none, .move (.t 19)⟩])))
   (.cond (.t 7) (.seq (.line [⟨(some 20), none, .move (.t 0)⟩, ⟨(some 21), none, .bin .sub none (.t 20) (.c (.int .i32 32))⟩, ⟨(some 2), none, .move (.t 21)⟩])
    .ret) (.seq (.line [⟨(some 23), none, .move (.t 0)⟩, ⟨(some 24), none, .bin .eql (some .int) (.t 23) (.c (.int .i32 339))⟩, ⟨(some 22), none, .move (.t 24)⟩])
    (.cond (.t 22) (.seq (.line [⟨(some 2), none, .move (.c (.int .i32 338))⟩])
     .ret) .skip)))))))
 (.seq (.line [⟨(some 25), none, .move (.t 0)⟩, ⟨(some 2), none, .move (.t 25)⟩])
 .ret)))⟩
/-- captioner/glossary.Parse -/
def g17 : GFun := ⟨102, [.tmp 2, .tmp 3],
 (.seq (.line [⟨(some 2), none, .move (.c (.slice none 0 0))⟩, ⟨(some 3), none, .move (.c (.slice none 0 0))⟩])
 (.seq (.line [⟨(some 16), none, .move (.t 0)⟩, ⟨(some 17), none, .call (.c (.func (.func 35) #[] #[])) [(.t 16)]⟩, ⟨(some 15), none, .move (.t 17)⟩, ⟨(some 18), none, .ext (.t 15) 0⟩, ⟨(some 19), none, .ext (.t 15) 1⟩, ⟨(some 4), none, .move (.t 18)⟩, ⟨(some 5), none, .move (.t 19)⟩])
 (.seq (.seq (.line [⟨(some 20), none, .move (.t 5)⟩, ⟨(some 21), none, .len false (.t 20)⟩, ⟨(some 22), none, .bin .gtr none (.t 21) (.c (.int .i64 0))⟩])
 (.cond (.t 22) (.seq (.line [⟨(some 23), none, .move (.t 5)⟩, ⟨(some 2), none, .move (.c (.slice none 0 0))⟩, ⟨(some 3), none, .move (.t 23)⟩])
  .ret) .skip))
 (.seq (.line [⟨(some 6), none, .move (.c (.slice none 0 0))⟩])
 (.seq (.seq (.line [⟨(some 24), none, .move (.t 4)⟩, ⟨(some 25), none, .len false (.t 24)⟩, ⟨(some 26), none, .move (.c (.int .i64 0))⟩])
 (.block 0 (.loop (.seq (.line [⟨(some 27), none, .bin .lss none (.t 26) (.t 25)⟩])
   (.seq (.cond (.t 27) .skip (.exit 0))
   (.seq (.block 1 (.seq (.line [⟨(some 28), none, .ia none 2 (.t 24) (.t 26)⟩, ⟨(some 29), none, .load (some 2) (.t 28)⟩, ⟨(some 8), none, .alloc 0 [(.int .i64 0), (.slice none 0 0)]⟩, ⟨none, none, .store (some 2) (.t 8) (.t 29)⟩])
    (.seq (.line [⟨(some 30), none, .fa 1 (.t 8)⟩, ⟨(some 31), none, .load none (.t 30)⟩, ⟨(some 32), none, .ia none 3 (.t 31) (.c (.int .i64 0))⟩, ⟨(some 33), none, .load (some 3) (.t 32)⟩, ⟨(some 9), none, .alloc 0 [(.string ⟨#[]⟩), (.int .i64 0), (.bool false)]⟩, ⟨none, none, .store (some 3) (.t 9) (.t 33)⟩])
    (.seq (.line [⟨(some 34), none, .fa 0 (.t 8)⟩, ⟨(some 35), none, .load none (.t 34)⟩, ⟨(some 36), none, .fa 1 (.t 9)⟩, ⟨(some 37), none, .load none (.t 36)⟩, ⟨(some 38), none, .build [(.int .i64 0), (.int .i64 0), (.int .i64 0)] [(0, 1, (.t 35)), (1, 1, (.t 37)), (2, 1, (.c (.int .i64 4)))]⟩, ⟨(some 10), none, .alloc 0 [(.int .i64 0), (.int .i64 0), (.int .i64 0)]⟩, ⟨none, none, .store (some 3) (.t 10) (.t 38)⟩, ⟨(some 11), none, .move (.c (.bool true))⟩])
    (.seq (.seq (.line [⟨(some 39), none, .fa 2 (.t 9)⟩, ⟨(some 40), none, .load none (.t 39)⟩, ⟨(some 41), none, .un .not (.t 40)⟩, ⟨(some 42), none, .move (.t 41)⟩, ⟨(some 43), (some (42, true)), .fa 0 (.t 9)⟩, ⟨(some 44), (some (42, true)), .load none (.t 43)⟩, ⟨(some 45), (some (42, true)), .bin .eql (some .str) (.t 44) (.c (.string ⟨#[84, 69, 82, 77]⟩))⟩, ⟨(some 46), none, .pick (.t 42) (.t 45) (.c (.bool false))⟩])
    (.cond (.t 46) (.seq (.line [⟨(some 47), none, .load (some 2) (.t 8)⟩, ⟨(some 48), none, .call (.c (.func (.func 36) #[] #[])) [(.t 47)]⟩, ⟨(some 12), none, .move (.t 48)⟩])
     (.seq (.line [⟨(some 49), none, .move (.t 12)⟩, ⟨(some 50), none, .call (.c (.func (.func 37) #[] #[])) [(.t 49)]⟩])
     (.seq (.line [⟨(some 51), none, .move (.t 12)⟩, ⟨(some 52), none, .call (.c (.func (.func 38) #[] #[])) [(.t 51)]⟩, ⟨(some 53), none, .move (.t 12)⟩, ⟨(some 54), none, .call (.c (.func (.func 38) #[] #[])) [(.t 53)]⟩, ⟨(some 55), none, .buildSl 1 1 [(.string ⟨#[]⟩)] [(0, 1, (.t 54))]⟩, ⟨(some 56), none, .build [(.string ⟨#[]⟩), (.slice none 0 0)] [(0, 1, (.t 52)), (1, 1, (.t 55))]⟩, ⟨(some 13), none, .alloc 0 [(.string ⟨#[]⟩), (.slice none 0 0)]⟩, ⟨none, none, .store (some 2) (.t 13) (.t 56)⟩])
     (.seq (.block 2 (.loop (.seq (.seq (.line [⟨(some 57), none, .move (.t 12)⟩, ⟨(some 58), none, .call (.c (.func (.func 39) #[] #[])) [(.t 57)]⟩, ⟨(some 59), none, .bin .gtr none (.t 58) (.c (.int .i64 0))⟩])
       (.cond (.t 59) .skip (.exit 2)))
       (.block 3 (.any [] [⟨(some 60), none, .fa 1 (.t 13)⟩, ⟨(some 61), none, .load none (.t 60)⟩, ⟨(some 62), none, .move (.t 12)⟩, ⟨(some 63), none, .call (.c (.func (.func 38) #[] #[])) [(.t 62)]⟩, ⟨(some 64), none, .buildSl 1 1 [(.string ⟨#[]⟩)] [(0, 1, (.t 63))]⟩] [(false, ⟨(some 65), none, .app 1 16 1 (.t 61) (.t 64)⟩), (false, ⟨(some 66), none, .fa 1 (.t 13)⟩), (false, ⟨none, none, .store none (.t 66) (.t 65)⟩)])))))
     (.seq (.line [⟨(some 68), none, .move (.t 12)⟩, ⟨(some 69), none, .call (.c (.func (.func 40) #[] #[])) [(.t 68)]⟩, ⟨(some 67), none, .move (.t 69)⟩, ⟨(some 70), none, .ext (.t 67) 0⟩, ⟨(some 71), none, .ext (.t 67) 1⟩, ⟨none, none, .store (some 3) (.t 10) (.t 70)⟩, ⟨(some 11), none, .move (.t 71)⟩])
     (.line [⟨(some 72), none, .move (.t 6)⟩, ⟨(some 73), none, .load (some 2) (.t 13)⟩, ⟨(some 74), none, .buildSl 2 1 [(.string ⟨#[]⟩), (.slice none 0 0)] [(0, 2, (.t 73))]⟩, ⟨(some 75), none, .app 2 40 2 (.t 72) (.t 74)⟩, ⟨(some 6), none, .move (.t 75)⟩])))))) .skip))
    (.seq (.line [⟨(some 76), none, .move (.t 11)⟩, ⟨(some 77), none, .move (.t 76)⟩, ⟨(some 78), (some (77, true)), .move (.t 5)⟩, ⟨(some 79), (some (77, true)), .len false (.t 78)⟩, ⟨(some 80), (some (77, true)), .bin .lss none (.t 79) (.c (.int .i64 50))⟩, ⟨(some 81), none, .pick (.t 77) (.t 80) (.c (.bool false))⟩])
    (.cond (.t 81) (.line [⟨(some 82), none, .move (.t 5)⟩, ⟨(some 83), none, .load (some 3) (.t 10)⟩, ⟨(some 84), none, .buildSl 3 1 [(.int .i64 0), (.int .i64 0), (.int .i64 0)] [(0, 3, (.t 83))]⟩, ⟨(some 85), none, .app 3 24 3 (.t 82) (.t 84)⟩, ⟨(some 5), none, .move (.t 85)⟩]) .skip)))))))
   (.line [⟨(some 86), none, .bin .add none (.t 26) (.c (.int .i64 1))⟩, ⟨(some 26), none, .move (.t 86)⟩])))))))
 (.seq (.seq (.line [⟨(some 87), none, .move (.t 5)⟩, ⟨(some 88), none, .len false (.t 87)⟩, ⟨(some 89), none, .bin .eql (some .int) (.t 88) (.c (.int .i64 0))⟩])
 (.cond (.t 89) (.seq (.line [⟨(some 90), none, .move (.t 6)⟩, ⟨(some 91), none, .call (.c (.func (.func 41) #[] #[])) [(.t 90)]⟩, ⟨(some 14), none, .move (.t 91)⟩])
  (.seq (.line [⟨(some 92), none, .move (.t 14)⟩, ⟨(some 93), none, .bin .neq (some .int) (.t 92) (.c (.int .i64 0))⟩])
  (.cond (.t 93) (.line [⟨(some 94), none, .move (.t 14)⟩, ⟨(some 95), none, .build [(.int .i64 0), (.int .i64 0), (.int .i64 0)] [(0, 1, (.c (.int .i64 1))), (1, 1, (.c (.int .i64 1))), (2, 1, (.t 94))]⟩, ⟨(some 96), none, .buildSl 3 1 [(.int .i64 0), (.int .i64 0), (.int .i64 0)] [(0, 3, (.t 95))]⟩, ⟨(some 5), none, .move (.t 96)⟩]) .skip))) .skip))
 (.seq (.seq (.line [⟨(some 97), none, .move (.t 5)⟩, ⟨(some 98), none, .len false (.t 97)⟩, ⟨(some 99), none, .bin .gtr none (.t 98) (.c (.int .i64 0))⟩])
 (.cond (.t 99) (.seq (.line [⟨(some 100), none, .move (.t 5)⟩, ⟨(some 2), none, .move (.c (.slice none 0 0))⟩, ⟨(some 3), none, .move (.t 100)⟩])
  .ret) .skip))
 (.seq (.line [⟨(some 101), none, .move (.t 6)⟩, ⟨(some 2), none, .move (.t 101)⟩, ⟨(some 3), none, .move (.c (.slice none 0 0))⟩])
 .ret))))))))⟩
/-- captioner/captionerref51.Parse -/
def g18 : GFun := ⟨88, [.tmp 2, .tmp 3],
 (.seq (.line [⟨(some 2), none, .move (.c (.slice none 0 0))⟩, ⟨(some 3), none, .move (.c (.slice none 0 0))⟩])
 (.seq (.line [⟨(some 14), none, .move (.t 0)⟩, ⟨(some 15), none, .call (.c (.func (.func 42) #[] #[])) [(.t 14)]⟩, ⟨(some 13), none, .move (.t 15)⟩, ⟨(some 16), none, .ext (.t 13) 0⟩, ⟨(some 17), none, .ext (.t 13) 1⟩, ⟨(some 4), none, .move (.t 16)⟩, ⟨(some 5), none, .move (.t 17)⟩])
 (.seq (.seq (.line [⟨(some 18), none, .move (.t 5)⟩, ⟨(some 19), none, .len false (.t 18)⟩, ⟨(some 20), none, .bin .gtr none (.t 19) (.c (.int .i64 0))⟩])
 (.cond (.t 20) (.seq (.line [⟨(some 21), none, .move (.t 5)⟩, ⟨(some 2), none, .move (.c (.slice none 0 0))⟩, ⟨(some 3), none, .move (.t 21)⟩])
  .ret) .skip))
 (.seq (.line [⟨(some 6), none, .move (.c (.slice none 0 0))⟩])
 (.seq (.seq (.line [⟨(some 22), none, .move (.t 4)⟩, ⟨(some 23), none, .len false (.t 22)⟩, ⟨(some 24), none, .move (.c (.int .i64 0))⟩])
 (.block 0 (.loop (.seq (.line [⟨(some 25), none, .bin .lss none (.t 24) (.t 23)⟩])
   (.seq (.cond (.t 25) .skip (.exit 0))
   (.seq (.block 1 (.seq (.line [⟨(some 26), none, .ia none 2 (.t 22) (.t 24)⟩, ⟨(some 27), none, .load (some 2) (.t 26)⟩, ⟨(some 8), none, .alloc 0 [(.int .i64 0), (.slice none 0 0)]⟩, ⟨none, none, .store (some 2) (.t 8) (.t 27)⟩])
    (.seq (.seq (.line [⟨(some 28), none, .fa 1 (.t 8)⟩, ⟨(some 29), none, .load none (.t 28)⟩, ⟨(some 30), none, .ia none 3 (.t 29) (.c (.int .i64 0))⟩, ⟨(some 31), none, .fa 2 (.t 30)⟩, ⟨(some 32), none, .load none (.t 31)⟩, ⟨(some 33), none, .move (.t 32)⟩, ⟨(some 34), (some (33, false)), .fa 1 (.t 8)⟩, ⟨(some 35), (some (33, false)), .load none (.t 34)⟩, ⟨(some 36), (some (33, false)), .ia none 3 (.t 35) (.c (.int .i64 0))⟩, ⟨(some 37), (some (33, false)), .fa 0 (.t 36)⟩, ⟨(some 38), (some (33, false)), .load none (.t 37)⟩, ⟨(some 39), (some (33, false)), .bin .neq (some .str) (.t 38) (.c (.string ⟨#[84, 69, 82, 77]⟩))⟩, ⟨(some 40), none, .pick (.t 33) (.c (.bool true)) (.t 39)⟩])
    (.cond (.t 40) (.seq (.any [] [⟨(some 41), none, .move (.t 5)⟩, ⟨(some 42), none, .fa 0 (.t 8)⟩, ⟨(some 43), none, .load none (.t 42)⟩, ⟨(some 44), none, .fa 1 (.t 8)⟩, ⟨(some 45), none, .load none (.t 44)⟩, ⟨(some 46), none, .ia none 3 (.t 45) (.c (.int .i64 0))⟩, ⟨(some 47), none, .fa 1 (.t 46)⟩, ⟨(some 48), none, .load none (.t 47)⟩, ⟨(some 49), none, .build [(.int .i64 0), (.int .i64 0), (.int .i64 0)] [(0, 1, (.t 43)), (1, 1, (.t 48)), (2, 1, (.c (.int .i64 4)))]⟩, ⟨(some 50), none, .buildSl 3 1 [(.int .i64 0), (.int .i64 0), (.int .i64 0)] [(0, 3, (.t 49))]⟩] [(false, ⟨(some 51), none, .app 3 24 3 (.t 41) (.t 50)⟩), (false, ⟨(some 5), none, .move (.t 51)⟩)])
     (.exit 1)) .skip))
    (.seq (.line [⟨(some 52), none, .load (some 2) (.t 8)⟩, ⟨(some 53), none, .call (.c (.func (.func 43) #[] #[])) [(.t 52)]⟩, ⟨(some 9), none, .move (.t 53)⟩])
    (.seq (.line [⟨(some 54), none, .move (.t 9)⟩, ⟨(some 55), none, .call (.c (.func (.func 44) #[] #[])) [(.t 54)]⟩])
    (.seq (.line [⟨(some 56), none, .move (.t 6)⟩, ⟨(some 57), none, .move (.t 9)⟩, ⟨(some 58), none, .call (.c (.func (.func 45) #[] #[])) [(.t 57)]⟩, ⟨(some 59), none, .buildSl 2 1 [(.string ⟨#[]⟩), (.slice none 0 0)] [(0, 2, (.t 58))]⟩, ⟨(some 60), none, .app 2 40 2 (.t 56) (.t 59)⟩, ⟨(some 6), none, .move (.t 60)⟩])
    (.seq (.line [⟨(some 62), none, .move (.t 9)⟩, ⟨(some 63), none, .call (.c (.func (.func 46) #[] #[])) [(.t 62)]⟩, ⟨(some 61), none, .move (.t 63)⟩, ⟨(some 64), none, .ext (.t 61) 0⟩, ⟨(some 65), none, .ext (.t 61) 1⟩, ⟨(some 10), none, .alloc 0 [(.int .i64 0), (.int .i64 0), (.int .i64 0)]⟩, ⟨none, none, .store (some 3) (.t 10) (.t 64)⟩, ⟨(some 11), none, .move (.t 65)⟩])
    (.seq (.line [⟨(some 66), none, .move (.t 11)⟩])
    (.cond (.t 66) (.line [⟨(some 67), none, .move (.t 5)⟩, ⟨(some 68), none, .load (some 3) (.t 10)⟩, ⟨(some 69), none, .buildSl 3 1 [(.int .i64 0), (.int .i64 0), (.int .i64 0)] [(0, 3, (.t 68))]⟩, ⟨(some 70), none, .app 3 24 3 (.t 67) (.t 69)⟩, ⟨(some 5), none, .move (.t 70)⟩]) .skip)))))))))
   (.line [⟨(some 71), none, .bin .add none (.t 24) (.c (.int .i64 1))⟩, ⟨(some 24), none, .move (.t 71)⟩])))))))
 (.seq (.seq (.line [⟨(some 72), none, .move (.t 5)⟩, ⟨(some 73), none, .len false (.t 72)⟩, ⟨(some 74), none, .bin .gtr none (.t 73) (.c (.int .i64 0))⟩])
 (.cond (.t 74) (.seq (.any [] [⟨(some 75), none, .move (.t 5)⟩, ⟨(some 76), none, .move (.t 5)⟩, ⟨(some 77), none, .len false (.t 76)⟩, ⟨(some 78), none, .min (.t 77) [(.c (.int .i64 50))]⟩, ⟨(some 79), none, .slice (.sl 3) (.t 75) none (some (.t 78)) none⟩, ⟨(some 2), none, .move (.c (.slice none 0 0))⟩, ⟨(some 3), none, .move (.t 79)⟩] [])
  .ret) .skip))
 (.seq (.seq (.line [⟨(some 80), none, .move (.t 6)⟩, ⟨(some 81), none, .call (.c (.func (.func 47) #[] #[])) [(.t 80)]⟩, ⟨(some 12), none, .move (.t 81)⟩])
 (.seq (.line [⟨(some 82), none, .move (.t 12)⟩, ⟨(some 83), none, .bin .neq (some .int) (.t 82) (.c (.int .i64 0))⟩])
 (.cond (.t 83) (.seq (.line [⟨(some 84), none, .move (.t 12)⟩, ⟨(some 85), none, .build [(.int .i64 0), (.int .i64 0), (.int .i64 0)] [(0, 1, (.c (.int .i64 1))), (1, 1, (.c (.int .i64 1))), (2, 1, (.t 84))]⟩, ⟨(some 86), none, .buildSl 3 1 [(.int .i64 0), (.int .i64 0), (.int .i64 0)] [(0, 3, (.t 85))]⟩, ⟨(some 2), none, .move (.c (.slice none 0 0))⟩, ⟨(some 3), none, .move (.t 86)⟩])
  .ret) .skip)))
 (.seq (.line [⟨(some 87), none, .move (.t 6)⟩, ⟨(some 2), none, .move (.t 87)⟩, ⟨(some 3), none, .move (.c (.slice none 0 0))⟩])
 .ret))))))))⟩
/-- captioner/captionerlaw51.same -/
def g19 : GFun := ⟨71, [.tmp 4],
 (.seq (.line [⟨(some 4), none, .move (.c (.bool false))⟩])
 (.seq (.seq (.line [⟨(some 7), none, .move (.t 0)⟩, ⟨(some 8), none, .len false (.t 7)⟩, ⟨(some 9), none, .move (.t 1)⟩, ⟨(some 10), none, .len false (.t 9)⟩, ⟨(some 11), none, .bin .neq (some .int) (.t 8) (.t 10)⟩])
 (.cond (.t 11) (.seq (.line [⟨(some 4), none, .move (.c (.bool false))⟩])
  .ret) .skip))
 (.seq (.seq (.line [⟨(some 12), none, .move (.t 0)⟩, ⟨(some 13), none, .len false (.t 12)⟩, ⟨(some 14), none, .move (.c (.int .i64 0))⟩])
 (.block 0 (.loop (.seq (.line [⟨(some 15), none, .bin .lss none (.t 14) (.t 13)⟩])
   (.seq (.cond (.t 15) .skip (.exit 0))
   (.seq (.block 1 (.seq (.line [⟨(some 16), none, .move (.t 14)⟩, ⟨(some 5), none, .move (.t 16)⟩])
    (.seq (.seq (.any [] [⟨(some 17), none, .move (.t 0)⟩, ⟨(some 18), none, .move (.t 5)⟩, ⟨(some 19), none, .ia none 2 (.t 17) (.t 18)⟩, ⟨(some 20), none, .fa 0 (.t 19)⟩, ⟨(some 21), none, .load none (.t 20)⟩, ⟨(some 22), none, .move (.t 1)⟩, ⟨(some 23), none, .move (.t 5)⟩, ⟨(some 24), none, .ia none 2 (.t 22) (.t 23)⟩, ⟨(some 25), none, .fa 0 (.t 24)⟩, ⟨(some 26), none, .load none (.t 25)⟩, ⟨(some 27), none, .bin .neq (some .str) (.t 21) (.t 26)⟩, ⟨(some 28), none, .move (.t 27)⟩, ⟨(some 29), (some (28, false)), .move (.t 0)⟩, ⟨(some 30), (some (28, false)), .move (.t 5)⟩, ⟨(some 31), (some (28, false)), .ia none 2 (.t 29) (.t 30)⟩, ⟨(some 32), (some (28, false)), .fa 1 (.t 31)⟩, ⟨(some 33), (some (28, false)), .load none (.t 32)⟩, ⟨(some 34), (some (28, false)), .len false (.t 33)⟩, ⟨(some 35), (some (28, false)), .move (.t 1)⟩, ⟨(some 36), (some (28, false)), .move (.t 5)⟩, ⟨(some 37), (some (28, false)), .ia none 2 (.t 35) (.t 36)⟩, ⟨(some 38), (some (28, false)), .fa 1 (.t 37)⟩, ⟨(some 39), (some (28, false)), .load none (.t 38)⟩, ⟨(some 40), (some (28, false)), .len false (.t 39)⟩, ⟨(some 41), (some (28, false)), .bin .neq (some .int) (.t 34) (.t 40)⟩, ⟨(some 42), none, .pick (.t 28) (.c (.bool true)) (.t 41)⟩] [])
    (.cond (.t 42) (.seq (.line [⟨(some 4), none, .move (.c (.bool false))⟩])
     .ret) .skip))
    (.seq (.line [⟨(some 43), none, .move (.t 0)⟩, ⟨(some 44), none, .move (.t 5)⟩, ⟨(some 45), none, .ia none 2 (.t 43) (.t 44)⟩, ⟨(some 46), none, .fa 1 (.t 45)⟩, ⟨(some 47), none, .load none (.t 46)⟩, ⟨(some 48), none, .len false (.t 47)⟩, ⟨(some 49), none, .move (.c (.int .i64 0))⟩])
    (.block 2 (.loop (.seq (.line [⟨(some 50), none, .bin .lss none (.t 49) (.t 48)⟩])
      (.seq (.cond (.t 50) .skip (.exit 2))
      (.seq (.block 3 (.seq (.line [⟨(some 51), none, .move (.t 49)⟩, ⟨(some 6), none, .move (.t 51)⟩])
       (.seq (.any [] [⟨(some 52), none, .move (.t 0)⟩, ⟨(some 53), none, .move (.t 5)⟩, ⟨(some 54), none, .ia none 2 (.t 52) (.t 53)⟩, ⟨(some 55), none, .fa 1 (.t 54)⟩, ⟨(some 56), none, .load none (.t 55)⟩, ⟨(some 57), none, .move (.t 6)⟩, ⟨(some 58), none, .ia none 1 (.t 56) (.t 57)⟩, ⟨(some 59), none, .load none (.t 58)⟩, ⟨(some 60), none, .move (.t 1)⟩, ⟨(some 61), none, .move (.t 5)⟩, ⟨(some 62), none, .ia none 2 (.t 60) (.t 61)⟩, ⟨(some 63), none, .fa 1 (.t 62)⟩, ⟨(some 64), none, .load none (.t 63)⟩, ⟨(some 65), none, .move (.t 6)⟩, ⟨(some 66), none, .ia none 1 (.t 64) (.t 65)⟩, ⟨(some 67), none, .load none (.t 66)⟩, ⟨(some 68), none, .bin .neq (some .str) (.t 59) (.t 67)⟩] [])
       (.cond (.t 68) (.seq (.line [⟨(some 4), none, .move (.c (.bool false))⟩])
        .ret) .skip))))
      (.line [⟨(some 69), none, .bin .add none (.t 49) (.c (.int .i64 1))⟩, ⟨(some 49), none, .move (.t 69)⟩]))))))))))
   (.line [⟨(some 70), none, .bin .add none (.t 14) (.c (.int .i64 1))⟩, ⟨(some 14), none, .move (.t 70)⟩])))))))
 (.seq (.line [⟨(some 4), none, .move (.c (.bool true))⟩])
 .ret))))⟩

/-- captioner/charset.Valid -/
def g21 : GFun := ⟨16, [.tmp 2],
 (.seq (.line [⟨(some 2), none, .move (.c (.bool false))⟩])
 (.seq (.seq (.line [⟨(some 5), none, .move (.t 0)⟩, ⟨(some 6), none, .call (.c (.func (.func 49) #[] #[])) [(.t 5)]⟩, ⟨(some 7), none, .un .not (.t 6)⟩])
 (.cond (.t 7) (.seq (.line [⟨(some 2), none, .move (.c (.bool false))⟩])
  .ret) .skip))
 (.seq (.seq (.line [⟨(some 8), none, .move (.t 0)⟩, ⟨(some 9), none, .rng (.t 8)⟩])
 (.block 0 (.loop (.seq (.line [⟨(some 10), none, .next (.t 9)⟩, ⟨(some 11), none, .ext (.t 10) 0⟩])
   (.seq (.cond (.t 11) .skip (.exit 0))
   (.block 1 (.seq (.line [⟨(some 12), none, .ext (.t 10) 2⟩, ⟨(some 4), none, .move (.t 12)⟩])
    (.seq (.line [⟨(some 13), none, .move (.t 4)⟩, ⟨(some 14), none, .call (.c (.func (.func 34) #[] #[])) [(.t 13)]⟩, ⟨(some 15), none, .bin .lss none (.t 14) (.c (.int .i64 0))⟩])
    (.cond (.t 15) (.seq (.line [⟨(some 2), none, .move (.c (.bool false))⟩])
     .ret) .skip)))))))))
 (.seq (.line [⟨(some 2), none, .move (.c (.bool true))⟩])
 .ret))))⟩
/-- captioner/glossary.phrase -/
def g22 : GFun := ⟨32, [.tmp 2],
 (.seq (.line [⟨(some 2), none, .move (.c (.bool false))⟩])
 (.seq (.line [⟨(some 3), none, .move (.t 0)⟩, ⟨(some 4), none, .call (.c (.func (.func 21) #[] #[])) [(.t 3)]⟩, ⟨(some 5), none, .move (.t 4)⟩, ⟨(some 6), (some (5, true)), .move (.t 0)⟩, ⟨(some 7), (some (5, true)), .bin .neq (some .str) (.t 6) (.c (.string ⟨#[]⟩))⟩, ⟨(some 8), none, .pick (.t 5) (.t 7) (.c (.bool false))⟩, ⟨(some 9), none, .move (.t 8)⟩, ⟨(some 10), (some (9, true)), .move (.t 0)⟩, ⟨(some 11), (some (9, true)), .ix none (.t 10) (.c (.int .i64 0))⟩, ⟨(some 12), (some (9, true)), .bin .neq (some .int) (.t 11) (.c (.int .u8 32))⟩, ⟨(some 13), none, .pick (.t 9) (.t 12) (.c (.bool false))⟩, ⟨(some 14), none, .move (.t 13)⟩, ⟨(some 15), (some (14, true)), .move (.t 0)⟩, ⟨(some 16), (some (14, true)), .move (.t 0)⟩, ⟨(some 17), (some (14, true)), .len true (.t 16)⟩, ⟨(some 18), (some (14, true)), .bin .sub none (.t 17) (.c (.int .i64 1))⟩, ⟨(some 19), (some (14, true)), .ix none (.t 15) (.t 18)⟩, ⟨(some 20), (some (14, true)), .bin .neq (some .int) (.t 19) (.c (.int .u8 32))⟩, ⟨(some 21), none, .pick (.t 14) (.t 20) (.c (.bool false))⟩, ⟨(some 22), none, .move (.t 21)⟩, ⟨(some 23), (some (22, true)), .move (.t 0)⟩, ⟨(some 24), (some (22, true)), .call (.c (.func (.func 50) #[] #[])) [(.t 23), (.c (.string ⟨#[32, 32]⟩))]⟩, ⟨(some 25), (some (22, true)), .un .not (.t 24)⟩, ⟨(some 26), none, .pick (.t 22) (.t 25) (.c (.bool false))⟩, ⟨(some 27), none, .move (.t 26)⟩, ⟨(some 28), (some (27, true)), .move (.t 0)⟩, ⟨(some 29), (some (27, true)), .len true (.t 28)⟩, ⟨(some 30), (some (27, true)), .bin .leq none (.t 29) (.c (.int .i64 400))⟩, ⟨(some 31), none, .pick (.t 27) (.t 30) (.c (.bool false))⟩, ⟨(some 2), none, .move (.t 31)⟩])
 .ret))⟩
/-- captioner/charset.Fold -/
def g23 : GFun := ⟨24, [.tmp 2],
 (.seq (.line [⟨(some 2), none, .move (.c (.string ⟨#[]⟩))⟩])
 (.seq (.line [⟨(some 6), none, .move (.t 0)⟩, ⟨(some 7), none, .call (.c (.func (.func 15) #[] #[])) [(.t 6)]⟩, ⟨(some 3), none, .move (.t 7)⟩])
 (.seq (.seq (.line [⟨(some 8), none, .move (.t 3)⟩, ⟨(some 9), none, .len false (.t 8)⟩, ⟨(some 10), none, .move (.c (.int .i64 0))⟩])
 (.block 0 (.loop (.seq (.line [⟨(some 11), none, .bin .lss none (.t 10) (.t 9)⟩])
   (.seq (.cond (.t 11) .skip (.exit 0))
   (.seq (.block 1 (.seq (.line [⟨(some 12), none, .move (.t 10)⟩, ⟨(some 13), none, .ia none 1 (.t 8) (.t 10)⟩, ⟨(some 14), none, .load none (.t 13)⟩, ⟨(some 4), none, .move (.t 12)⟩, ⟨(some 5), none, .move (.t 14)⟩])
    (.line [⟨(some 15), none, .move (.t 3)⟩, ⟨(some 16), none, .move (.t 4)⟩, ⟨(some 17), none, .move (.t 5)⟩, ⟨(some 18), none, .call (.c (.func (.func 52) #[] #[])) [(.t 17)]⟩, ⟨(some 19), none, .call (.c (.func (.func 51) #[] #[])) [(.t 18)]⟩, ⟨(some 20), none, .ia none 1 (.t 15) (.t 16)⟩, ⟨none, none, .store none (.t 20) (.t 19)⟩])))
   (.line [⟨(some 21), none, .bin .add none (.t 10) (.c (.int .i64 1))⟩, ⟨(some 10), none, .move (.t 21)⟩])))))))
 (.seq (.line [⟨(some 22), none, .move (.t 3)⟩, ⟨(some 23), none, .call (.c (.func (.func 53) #[] #[])) [(.t 22)]⟩, ⟨(some 2), none, .move (.t 23)⟩])
 .ret))))⟩
/-- captioner/glossary.border -/
def g24 : GFun := ⟨25, [.tmp 4],
 (.seq (.line [⟨(some 4), none, .move (.c (.bool false))⟩])
 (.seq (.seq (.line [⟨(some 6), none, .move (.t 1)⟩, ⟨(some 7), none, .bin .lss none (.t 6) (.c (.int .i64 0))⟩, ⟨(some 8), none, .move (.t 7)⟩, ⟨(some 9), (some (8, false)), .move (.t 1)⟩, ⟨(some 10), (some (8, false)), .move (.t 0)⟩, ⟨(some 11), (some (8, false)), .len true (.t 10)⟩, ⟨(some 12), (some (8, false)), .bin .geq none (.t 9) (.t 11)⟩, ⟨(some 13), none, .pick (.t 8) (.c (.bool true)) (.t 12)⟩])
 (.cond (.t 13) (.seq (.line [⟨(some 4), none, .move (.c (.bool true))⟩])
  .ret) .skip))
 (.seq (.line [⟨(some 14), none, .move (.t 0)⟩, ⟨(some 15), none, .move (.t 1)⟩, ⟨(some 16), none, .ix none (.t 14) (.t 15)⟩, ⟨(some 17), none, .conv (.int .i32) (.t 16)⟩, ⟨(some 18), none, .call (.c (.func (.func 54) #[] #[])) [(.t 17)]⟩, ⟨(some 5), none, .move (.t 18)⟩])
 (.seq (.line [⟨(some 19), none, .move (.t 5)⟩, ⟨(some 20), none, .bin .neq (some .int) (.t 19) (.c (.int .u8 3))⟩, ⟨(some 21), none, .move (.t 20)⟩, ⟨(some 22), (some (21, true)), .move (.t 5)⟩, ⟨(some 23), (some (21, true)), .bin .neq (some .int) (.t 22) (.c (.int .u8 2))⟩, ⟨(some 24), none, .pick (.t 21) (.t 23) (.c (.bool false))⟩, ⟨(some 4), none, .move (.t 24)⟩])
 .ret))))⟩
/-- captioner/captionerref51.flat -/
def g25 : GFun := ⟨30, [.tmp 2],
 (.seq (.line [⟨(some 2), none, .move (.c (.string ⟨#[]⟩))⟩])
 (.seq (.line [⟨(some 3), none, .move (.c (.string ⟨#[]⟩))⟩])
 (.seq (.line [⟨(some 4), none, .move (.c (.int .i64 0))⟩])
 (.seq (.seq (.line [⟨(some 5), none, .move (.c (.int .i64 0))⟩])
 (.block 0 (.loop (.seq (.seq (.line [⟨(some 6), none, .move (.t 5)⟩, ⟨(some 7), none, .move (.t 0)⟩, ⟨(some 8), none, .len true (.t 7)⟩, ⟨(some 9), none, .bin .lss none (.t 6) (.t 8)⟩])
   (.cond (.t 9) .skip (.exit 0)))
   (.seq (.block 1 (.seq (.line [⟨(some 12), none, .move (.t 0)⟩, ⟨(some 13), none, .move (.t 5)⟩, ⟨(some 14), none, .ix none (.t 12) (.t 13)⟩, ⟨(some 15), none, .bin .eql (some .int) (.t 14) (.c (.int .u8 10))⟩])
    (.cond (.t 15) (.seq (.line [⟨(some 16), none, .move (.t 3)⟩, ⟨(some 17), none, .move (.t 0)⟩, ⟨(some 18), none, .move (.t 4)⟩, ⟨(some 19), none, .move (.t 5)⟩, ⟨(some 20), none, .slice .str (.t 17) (some (.t 18)) (some (.t 19)) none⟩, ⟨(some 21), none, .bin .add none (.t 20) (.c (.string ⟨#[32]⟩))⟩, ⟨(some 22), none, .bin .add none (.t 16) (.t 21)⟩, ⟨(some 3), none, .move (.t 22)⟩])
     (.line [⟨(some 23), none, .move (.t 5)⟩, ⟨(some 24), none, .bin .add none (.t 23) (.c (.int .i64 1))⟩, ⟨(some 4), none, .move (.t 24)⟩])) .skip)))
   (.line [⟨(some 10), none, .move (.t 5)⟩, ⟨(some 11), none, .bin .add none (.t 10) (.c (.int .i64 1))⟩, ⟨(some 5), none, .move (.t 11)⟩]))))))
 (.seq (.line [⟨(some 25), none, .move (.t 3)⟩, ⟨(some 26), none, .move (.t 0)⟩, ⟨(some 27), none, .move (.t 4)⟩, ⟨(some 28), none, .slice .str (.t 26) (some (.t 27)) none none⟩, ⟨(some 29), none, .bin .add none (.t 25) (.t 28)⟩, ⟨(some 2), none, .move (.t 29)⟩])
 .ret)))))⟩
/-- captioner/captionerref08.Valid -/
def g26 : GFun := ⟨13, [.tmp 2],
 (.seq (.line [⟨(some 2), none, .move (.c (.bool false))⟩])
 (.seq (.seq (.line [⟨(some 5), none, .move (.t 0)⟩, ⟨(some 6), none, .rng (.t 5)⟩])
 (.block 0 (.loop (.seq (.line [⟨(some 7), none, .next (.t 6)⟩, ⟨(some 8), none, .ext (.t 7) 0⟩])
   (.seq (.cond (.t 8) .skip (.exit 0))
   (.block 1 (.seq (.line [⟨(some 9), none, .ext (.t 7) 2⟩, ⟨(some 4), none, .move (.t 9)⟩])
    (.seq (.line [⟨(some 10), none, .move (.t 4)⟩, ⟨(some 11), none, .call (.c (.func (.func 55) #[] #[])) [(.t 10)]⟩, ⟨(some 12), none, .bin .lss none (.t 11) (.c (.int .i64 0))⟩])
    (.cond (.t 12) (.seq (.line [⟨(some 2), none, .move (.c (.bool false))⟩])
     .ret) .skip)))))))))
 (.seq (.line [⟨(some 2), none, .move (.c (.bool true))⟩])
 .ret)))⟩
/-- captioner/captionerref51.Phrase -/
def g27 : GFun := ⟨46, [.tmp 2],
 (.seq (.line [⟨(some 2), none, .move (.c (.bool false))⟩])
 (.seq (.seq (.line [⟨(some 4), none, .move (.t 0)⟩, ⟨(some 5), none, .call (.c (.func (.func 26) #[] #[])) [(.t 4)]⟩, ⟨(some 6), none, .un .not (.t 5)⟩, ⟨(some 7), none, .move (.t 6)⟩, ⟨(some 8), (some (7, false)), .move (.t 0)⟩, ⟨(some 9), (some (7, false)), .bin .eql (some .str) (.t 8) (.c (.string ⟨#[]⟩))⟩, ⟨(some 10), none, .pick (.t 7) (.c (.bool true)) (.t 9)⟩, ⟨(some 11), none, .move (.t 10)⟩, ⟨(some 12), (some (11, false)), .move (.t 0)⟩, ⟨(some 13), (some (11, false)), .len true (.t 12)⟩, ⟨(some 14), (some (11, false)), .bin .gtr none (.t 13) (.c (.int .i64 400))⟩, ⟨(some 15), none, .pick (.t 11) (.c (.bool true)) (.t 14)⟩, ⟨(some 16), none, .move (.t 15)⟩, ⟨(some 17), (some (16, false)), .move (.t 0)⟩, ⟨(some 18), (some (16, false)), .ix none (.t 17) (.c (.int .i64 0))⟩, ⟨(some 19), (some (16, false)), .bin .eql (some .int) (.t 18) (.c (.int .u8 32))⟩, ⟨(some 20), none, .pick (.t 16) (.c (.bool true)) (.t 19)⟩, ⟨(some 21), none, .move (.t 20)⟩, ⟨(some 22), (some (21, false)), .move (.t 0)⟩, ⟨(some 23), (some (21, false)), .move (.t 0)⟩, ⟨(some 24), (some (21, false)), .len true (.t 23)⟩, ⟨(some 25), (some (21, false)), .bin .sub none (.t 24) (.c (.int .i64 1))⟩, ⟨(some 26), (some (21, false)), .ix none (.t 22) (.t 25)⟩, ⟨(some 27), (some (21, false)), .bin .eql (some .int) (.t 26) (.c (.int .u8 32))⟩, ⟨(some 28), none, .pick (.t 21) (.c (.bool true)) (.t 27)⟩])
 (.cond (.t 28) (.seq (.line [⟨(some 2), none, .move (.c (.bool false))⟩])
  .ret) .skip))
 (.seq (.seq (.line [⟨(some 3), none, .move (.c (.int .i64 1))⟩])
 (.block 0 (.loop (.seq (.seq (.line [⟨(some 29), none, .move (.t 3)⟩, ⟨(some 30), none, .move (.t 0)⟩, ⟨(some 31), none, .len true (.t 30)⟩, ⟨(some 32), none, .bin .lss none (.t 29) (.t 31)⟩])
   (.cond (.t 32) .skip (.exit 0)))
   (.seq (.block 1 (.seq (.line [⟨(some 35), none, .move (.t 0)⟩, ⟨(some 36), none, .move (.t 3)⟩, ⟨(some 37), none, .ix none (.t 35) (.t 36)⟩, ⟨(some 38), none, .bin .eql (some .int) (.t 37) (.c (.int .u8 32))⟩, ⟨(some 39), none, .move (.t 38)⟩, ⟨(some 40), (some (39, true)), .move (.t 0)⟩, ⟨(some 41), (some (39, true)), .move (.t 3)⟩, ⟨(some 42), (some (39, true)), .bin .sub none (.t 41) (.c (.int .i64 1))⟩, ⟨(some 43), (some (39, true)), .ix none (.t 40) (.t 42)⟩, ⟨(some 44), (some (39, true)), .bin .eql (some .int) (.t 43) (.c (.int .u8 32))⟩, ⟨(some 45), none, .pick (.t 39) (.t 44) (.c (.bool false))⟩])
    (.cond (.t 45) (.seq (.line [⟨(some 2), none, .move (.c (.bool false))⟩])
     .ret) .skip)))
   (.line [⟨(some 33), none, .move (.t 3)⟩, ⟨(some 34), none, .bin .add none (.t 33) (.c (.int .i64 1))⟩, ⟨(some 3), none, .move (.t 34)⟩]))))))
 (.seq (.line [⟨(some 2), none, .move (.c (.bool true))⟩])
 .ret))))⟩
/-- captioner/captionerref08.Chars -/
def g28 : GFun := ⟨8, [.tmp 2],
 (.seq (.line [⟨(some 2), none, .move (.c (.slice none 0 0))⟩])
 (.seq (.seq (.line [⟨(some 3), none, .move (.t 0)⟩, ⟨(some 4), none, .call (.c (.func (.func 26) #[] #[])) [(.t 3)]⟩, ⟨(some 5), none, .un .not (.t 4)⟩])
 (.cond (.t 5) (.seq (.line [⟨(some 2), none, .move (.c (.slice none 0 0))⟩])
  .ret) .skip))
 (.seq (.line [⟨(some 6), none, .move (.t 0)⟩, ⟨(some 7), none, .call (.c (.func (.func 56) #[] #[])) [(.t 6)]⟩, ⟨(some 2), none, .move (.t 7)⟩])
 .ret)))⟩
/-- captioner/captionerref08.Fold -/
def g29 : GFun := ⟨21, [.tmp 2],
 (.seq (.line [⟨(some 2), none, .move (.c (.string ⟨#[]⟩))⟩])
 (.seq (.seq (.line [⟨(some 6), none, .move (.t 0)⟩, ⟨(some 7), none, .call (.c (.func (.func 26) #[] #[])) [(.t 6)]⟩, ⟨(some 8), none, .un .not (.t 7)⟩])
 (.cond (.t 8) (.seq (.line [⟨(some 2), none, .move (.c (.string ⟨#[]⟩))⟩])
  .ret) .skip))
 (.seq (.line [⟨(some 3), none, .move (.c (.string ⟨#[]⟩))⟩])
 (.seq (.seq (.line [⟨(some 9), none, .move (.t 0)⟩, ⟨(some 10), none, .rng (.t 9)⟩])
 (.block 0 (.loop (.seq (.line [⟨(some 11), none, .next (.t 10)⟩, ⟨(some 12), none, .ext (.t 11) 0⟩])
   (.seq (.cond (.t 12) .skip (.exit 0))
   (.block 1 (.seq (.line [⟨(some 13), none, .ext (.t 11) 2⟩, ⟨(some 5), none, .move (.t 13)⟩])
    (.line [⟨(some 14), none, .move (.t 3)⟩, ⟨(some 15), none, .move (.t 5)⟩, ⟨(some 16), none, .call (.c (.func (.func 58) #[] #[])) [(.t 15)]⟩, ⟨(some 17), none, .call (.c (.func (.func 57) #[] #[])) [(.t 16)]⟩, ⟨(some 18), none, .conv .strOfInt (.t 17)⟩, ⟨(some 19), none, .bin .add none (.t 14) (.t 18)⟩, ⟨(some 3), none, .move (.t 19)⟩]))))))))
 (.seq (.line [⟨(some 20), none, .move (.t 3)⟩, ⟨(some 2), none, .move (.t 20)⟩])
 .ret)))))⟩
/-- captioner/captionerref51.joined -/
def g30 : GFun := ⟨12, [.tmp 2],
 (.seq (.line [⟨(some 2), none, .move (.c (.bool false))⟩])
 (.seq (.line [⟨(some 4), none, .move (.t 0)⟩, ⟨(some 5), none, .call (.c (.func (.func 59) #[] #[])) [(.t 4)]⟩, ⟨(some 3), none, .move (.t 5)⟩])
 (.seq (.line [⟨(some 6), none, .move (.t 3)⟩, ⟨(some 7), none, .bin .eql (some .int) (.t 6) (.c (.int .u8 3))⟩, ⟨(some 8), none, .move (.t 7)⟩, ⟨(some 9), (some (8, false)), .move (.t 3)⟩, ⟨(some 10), (some (8, false)), .bin .eql (some .int) (.t 9) (.c (.int .u8 2))⟩, ⟨(some 11), none, .pick (.t 8) (.c (.bool true)) (.t 10)⟩, ⟨(some 2), none, .move (.t 11)⟩])
 .ret)))⟩
/-- slices.ContainsFunc[[]string,string] -/
def g31 : GFun := ⟨9, [.tmp 4],
 (.seq (.line [⟨(some 4), none, .move (.c (.bool false))⟩])
 (.seq (.line [⟨(some 5), none, .move (.t 0)⟩, ⟨(some 6), none, .move (.t 1)⟩, ⟨(some 7), none, .call (.c (.func (.func 60) #[] #[])) [(.t 5), (.t 6)]⟩, ⟨(some 8), none, .bin .geq none (.t 7) (.c (.int .i64 0))⟩, ⟨(some 4), none, .move (.t 8)⟩])
 .ret))⟩
/-- captioner/glossary.Judge$1 -/
def g32 : GFun := ⟨7, [.tmp 3],
 (.seq (.line [⟨(some 3), none, .move (.c (.bool false))⟩])
 (.seq (.line [⟨(some 4), none, .load none (.t 1)⟩, ⟨(some 5), none, .move (.t 0)⟩, ⟨(some 6), none, .call (.c (.func (.func 7) #[] #[])) [(.t 4), (.t 5)]⟩, ⟨(some 3), none, .move (.t 6)⟩])
 .ret))⟩
/-- unicode/utf8.RuneCountInString -/
def g33 : GFun := ⟨10, [.tmp 2],
 (.seq (.line [⟨(some 2), none, .move (.c (.int .i64 0))⟩])
 (.seq (.seq (.line [⟨(some 3), none, .move (.t 0)⟩, ⟨(some 4), none, .rng (.t 3)⟩])
 (.block 0 (.loop (.seq (.line [⟨(some 5), none, .next (.t 4)⟩, ⟨(some 6), none, .ext (.t 5) 0⟩])
   (.seq (.cond (.t 6) .skip (.exit 0))
   (.block 1 (.line [⟨(some 7), none, .move (.t 2)⟩, ⟨(some 8), none, .bin .add none (.t 7) (.c (.int .i64 1))⟩, ⟨(some 2), none, .move (.t 8)⟩])))))))
 (.seq (.line [⟨(some 9), none, .move (.t 2)⟩, ⟨(some 2), none, .move (.t 9)⟩])
 .ret)))⟩
/-- captioner/charset.Index -/
def g34 : GFun := ⟨14, [.tmp 2],
 (.seq (.line [⟨(some 2), none, .move (.c (.int .i64 0))⟩])
 (.seq (.seq (.line [⟨(some 3), none, .move (.t 0)⟩, ⟨(some 4), none, .bin .geq none (.t 3) (.c (.int .i32 32))⟩, ⟨(some 5), none, .move (.t 4)⟩, ⟨(some 6), (some (5, true)), .move (.t 0)⟩, ⟨(some 7), (some (5, true)), .bin .leq none (.t 6) (.c (.int .i32 126))⟩, ⟨(some 8), none, .pick (.t 5) (.t 7) (.c (.bool false))⟩])
 (.cond (.t 8) (.seq (.line [⟨(some 9), none, .move (.t 0)⟩, ⟨(some 10), none, .bin .sub none (.t 9) (.c (.int .i32 32))⟩, ⟨(some 11), none, .conv (.int .i64) (.t 10)⟩, ⟨(some 2), none, .move (.t 11)⟩])
  .ret) .skip))
 (.seq (.line [⟨(some 12), none, .move (.t 0)⟩, ⟨(some 13), none, .call (.c (.func (.func 61) #[] #[])) [(.c (.string ⟨#[32, 33, 34, 35, 36, 37, 38, 39, 40, 41, 42, 43, 44, 45, 46, 47, 48, 49, 50, 51, 52, 53, 54, 55, 56, 57, 58, 59, 60, 61, 62, 63, 64, 65, 66, 67, 68, 69, 70, 71, 72, 73, 74, 75, 76, 77, 78, 79, 80, 81, 82, 83, 84, 85, 86, 87, 88, 89, 90, 91, 92, 93, 94, 95, 96, 97, 98, 99, 100, 101, 102, 103, 104, 105, 106, 107, 108, 109, 110, 111, 112, 113, 114, 115, 116, 117, 118, 119, 120, 121, 122, 123, 124, 125, 126, 194, 161, 194, 162, 194, 163, 194, 164, 194, 165, 194, 166, 194, 167, 194, 169, 194, 171, 194, 174, 194, 176, 194, 183, 194, 187, 194, 189, 194, 191, 195, 128, 195, 129, 195, 130, 195, 131, 195, 132, 195, 133, 195, 134, 195, 135, 195, 136, 195, 137, 195, 138, 195, 139, 195, 140, 195, 141, 195, 142, 195, 143, 195, 145, 195, 146, 195, 147, 195, 148, 195, 149, 195, 150, 195, 152, 195, 153, 195, 154, 195, 155, 195, 156, 195, 159, 195, 160, 195, 161, 195, 162, 195, 163, 195, 164, 195, 165, 195, 166, 195, 167, 195, 168, 195, 169, 195, 170, 195, 171, 195, 172, 195, 173, 195, 174, 195, 175, 195, 177, 195, 178, 195, 179, 195, 180, 195, 181, 195, 182, 195, 184, 195, 185, 195, 186, 195, 187, 195, 188, 197, 146, 197, 147, 226, 128, 148, 226, 128, 152, 226, 128, 153, 226, 128, 156, 226, 128, 157, 226, 128, 162, 226, 128, 166, 226, 132, 162, 226, 153, 170]⟩)), (.t 12)]⟩, ⟨(some 2), none, .move (.t 13)⟩])
 .ret)))⟩
/-- captioner/lines.Split -/
def g35 : GFun := ⟨66, [.tmp 2, .tmp 3],
 (.seq (.line [⟨(some 2), none, .move (.c (.slice none 0 0))⟩, ⟨(some 3), none, .move (.c (.slice none 0 0))⟩])
 (.seq (.seq (.line [⟨(some 10), none, .move (.t 0)⟩, ⟨(some 11), none, .len true (.t 10)⟩, ⟨(some 12), none, .bin .gtr none (.t 11) (.c (.int .i64 262144))⟩])
 (.cond (.t 12) (.seq (.line [⟨(some 13), none, .build [(.int .i64 0), (.int .i64 0), (.int .i64 0)] [(0, 1, (.c (.int .i64 1))), (1, 1, (.c (.int .i64 1))), (2, 1, (.c (.int .i64 9)))]⟩, ⟨(some 14), none, .buildSl 3 1 [(.int .i64 0), (.int .i64 0), (.int .i64 0)] [(0, 3, (.t 13))]⟩, ⟨(some 2), none, .move (.c (.slice none 0 0))⟩, ⟨(some 3), none, .move (.t 14)⟩])
  .ret) .skip))
 (.seq (.line [⟨(some 4), none, .move (.c (.slice none 0 0))⟩])
 (.seq (.line [⟨(some 5), none, .move (.c (.slice none 0 0))⟩])
 (.seq (.seq (.line [⟨(some 15), none, .move (.t 0)⟩, ⟨(some 16), none, .call (.c (.func (.func 62) #[] #[])) [(.t 15), (.c (.string ⟨#[10]⟩))]⟩, ⟨(some 17), none, .len false (.t 16)⟩, ⟨(some 18), none, .move (.c (.int .i64 0))⟩])
 (.block 0 (.loop (.seq (.line [⟨(some 19), none, .bin .lss none (.t 18) (.t 17)⟩])
   (.seq (.cond (.t 19) .skip (.exit 0))
   (.seq (.block 1 (.seq (.line [⟨(some 20), none, .move (.t 18)⟩, ⟨(some 21), none, .ia none 1 (.t 16) (.t 18)⟩, ⟨(some 22), none, .load none (.t 21)⟩, ⟨(some 6), none, .move (.t 20)⟩, ⟨(some 7), none, .move (.t 22)⟩])
    (.seq (.line [⟨(some 23), none, .move (.t 6)⟩, ⟨(some 24), none, .bin .add none (.t 23) (.c (.int .i64 1))⟩, ⟨(some 25), none, .build [(.int .i64 0), (.int .i64 0), (.int .i64 0)] [(0, 1, (.t 24))]⟩, ⟨(some 8), none, .alloc 0 [(.int .i64 0), (.int .i64 0), (.int .i64 0)]⟩, ⟨none, none, .store (some 3) (.t 8) (.t 25)⟩])
    (.seq (.line [⟨(some 9), none, .move (.c (.slice none 0 0))⟩])
    (.seq (.seq (.line [⟨(some 26), none, .move (.t 7)⟩, ⟨(some 27), none, .len true (.t 26)⟩, ⟨(some 28), none, .bin .gtr none (.t 27) (.c (.int .i64 1000))⟩])
    (.cond (.t 28) (.line [⟨(some 29), none, .fa 1 (.t 8)⟩, ⟨none, none, .store none (.t 29) (.c (.int .i64 1001))⟩, ⟨(some 30), none, .fa 2 (.t 8)⟩, ⟨none, none, .store none (.t 30) (.c (.int .i64 9))⟩]) (.seq (.line [⟨(some 32), none, .move (.t 7)⟩, ⟨(some 33), none, .call (.c (.func (.func 63) #[] #[])) [(.t 32)]⟩, ⟨(some 31), none, .move (.t 33)⟩, ⟨(some 34), none, .ext (.t 31) 0⟩, ⟨(some 35), none, .ext (.t 31) 1⟩, ⟨(some 9), none, .move (.t 34)⟩, ⟨(some 36), none, .fa 1 (.t 8)⟩, ⟨none, none, .store none (.t 36) (.t 35)⟩])
     (.seq (.line [⟨(some 37), none, .fa 1 (.t 8)⟩, ⟨(some 38), none, .load none (.t 37)⟩, ⟨(some 39), none, .bin .gtr none (.t 38) (.c (.int .i64 0))⟩])
     (.cond (.t 39) (.line [⟨(some 40), none, .fa 2 (.t 8)⟩, ⟨none, none, .store none (.t 40) (.c (.int .i64 4))⟩]) .skip)))))
    (.block 2 (.seq (.line [⟨(some 42), none, .fa 1 (.t 8)⟩, ⟨(some 43), none, .load none (.t 42)⟩, ⟨(some 44), none, .bin .gtr none (.t 43) (.c (.int .i64 0))⟩, ⟨(some 41), none, .move (.t 44)⟩])
     (.cond (.t 41) (.seq (.line [⟨(some 45), none, .move (.t 5)⟩, ⟨(some 46), none, .len false (.t 45)⟩, ⟨(some 47), none, .bin .lss none (.t 46) (.c (.int .i64 50))⟩])
      (.cond (.t 47) (.line [⟨(some 48), none, .move (.t 5)⟩, ⟨(some 49), none, .load (some 3) (.t 8)⟩, ⟨(some 50), none, .buildSl 3 1 [(.int .i64 0), (.int .i64 0), (.int .i64 0)] [(0, 3, (.t 49))]⟩, ⟨(some 51), none, .app 3 24 3 (.t 48) (.t 50)⟩, ⟨(some 5), none, .move (.t 51)⟩]) .skip)) (.seq (.line [⟨(some 53), none, .move (.t 9)⟩, ⟨(some 54), none, .len false (.t 53)⟩, ⟨(some 55), none, .bin .gtr none (.t 54) (.c (.int .i64 0))⟩, ⟨(some 52), none, .move (.t 55)⟩])
      (.cond (.t 52) (.line [⟨(some 56), none, .move (.t 4)⟩, ⟨(some 57), none, .move (.t 6)⟩, ⟨(some 58), none, .bin .add none (.t 57) (.c (.int .i64 1))⟩, ⟨(some 59), none, .move (.t 9)⟩, ⟨(some 60), none, .build [(.int .i64 0), (.slice none 0 0)] [(0, 1, (.t 58)), (1, 1, (.t 59))]⟩, ⟨(some 61), none, .buildSl 2 1 [(.int .i64 0), (.slice none 0 0)] [(0, 2, (.t 60))]⟩, ⟨(some 62), none, .app 2 32 2 (.t 56) (.t 61)⟩, ⟨(some 4), none, .move (.t 62)⟩]) .skip))))))))))
   (.line [⟨(some 63), none, .bin .add none (.t 18) (.c (.int .i64 1))⟩, ⟨(some 18), none, .move (.t 63)⟩])))))))
 (.seq (.line [⟨(some 64), none, .move (.t 4)⟩, ⟨(some 65), none, .move (.t 5)⟩, ⟨(some 2), none, .move (.t 64)⟩, ⟨(some 3), none, .move (.t 65)⟩])
 .ret))))))⟩
/-- captioner/lines.Scan -/
def g36 : GFun := ⟨11, [.tmp 2],
 (.seq (.line [⟨(some 1), none, .box (.t 0)⟩, ⟨(some 2), none, .move (.c (.pointer none))⟩])
 (.seq (.any [(.c (.slice none 0 0))] [⟨(some 3), none, .fa 0 (.t 1)⟩, ⟨(some 4), none, .load none (.t 3)⟩, ⟨(some 5), none, .fa 1 (.t 1)⟩, ⟨(some 6), none, .load none (.t 5)⟩] [(true, ⟨(some 7), none, .app 3 32 3 (.c (.slice none 0 0)) (.t 6)⟩), (false, ⟨(some 8), none, .build [(.int .i64 0), (.slice none 0 0)] [(0, 1, (.t 4)), (1, 1, (.t 7))]⟩), (false, ⟨(some 9), none, .build [(.int .i64 0), (.slice none 0 0), (.int .i64 0), (.int .i64 0), (.int .i64 0), (.int .i64 0), (.int .i64 0)] [(0, 2, (.t 8))]⟩), (false, ⟨(some 10), none, .box (.t 9)⟩), (false, ⟨(some 2), none, .move (.t 10)⟩)])
 .ret))⟩
/-- (*captioner/lines.Scanner).Word -/
def g37 : GFun := ⟨11, [.tmp 2],
 (.seq (.line [⟨(some 2), none, .move (.c (.string ⟨#[]⟩))⟩])
 (.seq (.line [⟨(some 6), none, .move (.t 0)⟩, ⟨(some 7), none, .call (.c (.func (.func 64) #[] #[])) [(.t 6), (.c (.bool false))]⟩, ⟨(some 5), none, .move (.t 7)⟩, ⟨(some 8), none, .ext (.t 5) 0⟩, ⟨(some 9), none, .ext (.t 5) 1⟩, ⟨(some 3), none, .move (.t 8)⟩, ⟨(some 4), none, .move (.t 9)⟩])
 (.seq (.line [⟨(some 10), none, .move (.t 3)⟩, ⟨(some 2), none, .move (.t 10)⟩])
 .ret)))⟩
/-- (*captioner/lines.Scanner).Quoted -/
def g38 : GFun := ⟨11, [.tmp 2],
 (.seq (.line [⟨(some 2), none, .move (.c (.string ⟨#[]⟩))⟩])
 (.seq (.line [⟨(some 6), none, .move (.t 0)⟩, ⟨(some 7), none, .call (.c (.func (.func 64) #[] #[])) [(.t 6), (.c (.bool true))]⟩, ⟨(some 5), none, .move (.t 7)⟩, ⟨(some 8), none, .ext (.t 5) 0⟩, ⟨(some 9), none, .ext (.t 5) 1⟩, ⟨(some 3), none, .move (.t 8)⟩, ⟨(some 4), none, .move (.t 9)⟩])
 (.seq (.line [⟨(some 10), none, .move (.t 3)⟩, ⟨(some 2), none, .move (.t 10)⟩])
 .ret)))⟩
/-- (*captioner/lines.Scanner).Left -/
def g39 : GFun := ⟨16, [.tmp 2],
 (.seq (.line [⟨(some 2), none, .move (.c (.int .i64 0))⟩])
 (.seq (.seq (.line [⟨(some 3), none, .move (.t 0)⟩, ⟨(some 4), none, .call (.c (.func (.func 65) #[] #[])) [(.t 3)]⟩])
 (.cond (.t 4) (.seq (.line [⟨(some 2), none, .move (.c (.int .i64 0))⟩])
  .ret) .skip))
 (.seq (.any [] [⟨(some 5), none, .move (.t 0)⟩, ⟨(some 6), none, .nilc (.t 5)⟩, ⟨(some 7), none, .fa 0 (.t 6)⟩, ⟨(some 8), none, .fa 1 (.t 7)⟩, ⟨(some 9), none, .load none (.t 8)⟩, ⟨(some 10), none, .len false (.t 9)⟩, ⟨(some 11), none, .move (.t 0)⟩, ⟨(some 12), none, .nilc (.t 11)⟩, ⟨(some 13), none, .fa 2 (.t 12)⟩, ⟨(some 14), none, .load none (.t 13)⟩, ⟨(some 15), none, .bin .sub none (.t 10) (.t 14)⟩, ⟨(some 2), none, .move (.t 15)⟩] [])
 .ret)))⟩
/-- (*captioner/lines.Scanner).End -/
def g40 : GFun := ⟨50, [.cell 2 (some 3), .tmp 3],
 (.seq (.line [⟨(some 2), none, .alloc 0 [(.int .i64 0), (.int .i64 0), (.int .i64 0)]⟩, ⟨(some 3), none, .move (.c (.bool false))⟩])
 (.seq (.block 0 (.seq (.line [⟨(some 5), none, .move (.t 0)⟩, ⟨(some 6), none, .bin .eql (some .ptr) (.t 5) (.c (.pointer none))⟩, ⟨(some 4), none, .move (.t 6)⟩])
  (.cond (.t 4) (.seq (.line [⟨(some 7), none, .build [(.int .i64 0), (.int .i64 0), (.int .i64 0)] []⟩, ⟨none, none, .store (some 3) (.t 2) (.t 7)⟩, ⟨(some 3), none, .move (.c (.bool false))⟩])
   .ret) (.seq (.line [⟨(some 9), none, .move (.t 0)⟩, ⟨(some 10), none, .nilc (.t 9)⟩, ⟨(some 11), none, .fa 4 (.t 10)⟩, ⟨(some 12), none, .fa 2 (.t 11)⟩, ⟨(some 13), none, .load none (.t 12)⟩, ⟨(some 14), none, .bin .neq (some .int) (.t 13) (.c (.int .i64 0))⟩, ⟨(some 8), none, .move (.t 14)⟩])
   (.cond (.t 8) (.seq (.line [⟨(some 15), none, .move (.t 0)⟩, ⟨(some 16), none, .nilc (.t 15)⟩, ⟨(some 17), none, .fa 4 (.t 16)⟩, ⟨(some 18), none, .load (some 3) (.t 17)⟩, ⟨none, none, .store (some 3) (.t 2) (.t 18)⟩, ⟨(some 3), none, .move (.c (.bool true))⟩])
    .ret) (.seq (.any [] [⟨(some 20), none, .move (.t 0)⟩, ⟨(some 21), none, .nilc (.t 20)⟩, ⟨(some 22), none, .fa 2 (.t 21)⟩, ⟨(some 23), none, .load none (.t 22)⟩, ⟨(some 24), none, .move (.t 0)⟩, ⟨(some 25), none, .nilc (.t 24)⟩, ⟨(some 26), none, .fa 0 (.t 25)⟩, ⟨(some 27), none, .fa 1 (.t 26)⟩, ⟨(some 28), none, .load none (.t 27)⟩, ⟨(some 29), none, .len false (.t 28)⟩, ⟨(some 30), none, .bin .lss none (.t 23) (.t 29)⟩, ⟨(some 19), none, .move (.t 30)⟩] [])
    (.cond (.t 19) (.seq (.any [] [⟨(some 31), none, .move (.t 0)⟩, ⟨(some 32), none, .nilc (.t 31)⟩, ⟨(some 33), none, .fa 0 (.t 32)⟩, ⟨(some 34), none, .fa 0 (.t 33)⟩, ⟨(some 35), none, .load none (.t 34)⟩, ⟨(some 36), none, .move (.t 0)⟩, ⟨(some 37), none, .nilc (.t 36)⟩, ⟨(some 38), none, .fa 0 (.t 37)⟩, ⟨(some 39), none, .fa 1 (.t 38)⟩, ⟨(some 40), none, .load none (.t 39)⟩, ⟨(some 41), none, .move (.t 0)⟩, ⟨(some 42), none, .nilc (.t 41)⟩, ⟨(some 43), none, .fa 2 (.t 42)⟩, ⟨(some 44), none, .load none (.t 43)⟩, ⟨(some 45), none, .ia none 3 (.t 40) (.t 44)⟩, ⟨(some 46), none, .fa 1 (.t 45)⟩, ⟨(some 47), none, .load none (.t 46)⟩, ⟨(some 48), none, .build [(.int .i64 0), (.int .i64 0), (.int .i64 0)] [(0, 1, (.t 35)), (1, 1, (.t 47)), (2, 1, (.c (.int .i64 4)))]⟩] [(false, ⟨none, none, .store (some 3) (.t 2) (.t 48)⟩), (false, ⟨(some 3), none, .move (.c (.bool true))⟩)])
     .ret) .skip)))))))
 (.seq (.line [⟨(some 49), none, .build [(.int .i64 0), (.int .i64 0), (.int .i64 0)] []⟩, ⟨none, none, .store (some 3) (.t 2) (.t 49)⟩, ⟨(some 3), none, .move (.c (.bool false))⟩])
 .ret)))⟩
/-- captioner/glossary.Check -/
def g41 : GFun := ⟨58, [.tmp 2],
 (.seq (.line [⟨(some 2), none, .move (.c (.int .i64 0))⟩])
 (.seq (.seq (.line [⟨(some 7), none, .move (.t 0)⟩, ⟨(some 8), none, .len false (.t 7)⟩, ⟨(some 9), none, .bin .gtr none (.t 8) (.c (.int .i64 64))⟩])
 (.cond (.t 9) (.seq (.line [⟨(some 2), none, .move (.c (.int .i64 9))⟩])
  .ret) .skip))
 (.seq (.seq (.line [⟨(some 10), none, .move (.t 0)⟩, ⟨(some 11), none, .len false (.t 10)⟩, ⟨(some 12), none, .move (.c (.int .i64 0))⟩])
 (.block 0 (.loop (.seq (.line [⟨(some 13), none, .bin .lss none (.t 12) (.t 11)⟩])
   (.seq (.cond (.t 13) .skip (.exit 0))
   (.seq (.block 1 (.seq (.line [⟨(some 14), none, .move (.t 12)⟩, ⟨(some 15), none, .ia none 2 (.t 10) (.t 12)⟩, ⟨(some 16), none, .load (some 2) (.t 15)⟩, ⟨(some 4), none, .alloc 0 [(.string ⟨#[]⟩), (.slice none 0 0)]⟩, ⟨(some 3), none, .move (.t 14)⟩, ⟨none, none, .store (some 2) (.t 4) (.t 16)⟩])
    (.seq (.block 2 (.seq (.line [⟨(some 18), none, .fa 0 (.t 4)⟩, ⟨(some 19), none, .load none (.t 18)⟩, ⟨(some 20), none, .call (.c (.func (.func 22) #[] #[])) [(.t 19)]⟩, ⟨(some 21), none, .un .not (.t 20)⟩, ⟨(some 17), none, .move (.t 21)⟩])
     (.cond (.t 17) (.seq (.line [⟨(some 2), none, .move (.c (.int .i64 4))⟩])
      .ret) (.seq (.line [⟨(some 23), none, .move (.t 0)⟩, ⟨(some 24), none, .move (.t 3)⟩, ⟨(some 25), none, .slice (.sl 2) (.t 23) none (some (.t 24)) none⟩, ⟨(some 26), none, .fn 67 [] [(.t 4)]⟩, ⟨(some 27), none, .call (.c (.func (.func 66) #[] #[])) [(.t 25), (.t 26)]⟩, ⟨(some 22), none, .move (.t 27)⟩])
      (.cond (.t 22) (.seq (.line [⟨(some 2), none, .move (.c (.int .i64 7))⟩])
       .ret) (.seq (.line [⟨(some 29), none, .fa 1 (.t 4)⟩, ⟨(some 30), none, .load none (.t 29)⟩, ⟨(some 31), none, .len false (.t 30)⟩, ⟨(some 32), none, .bin .lss none (.t 31) (.c (.int .i64 1))⟩, ⟨(some 33), none, .move (.t 32)⟩, ⟨(some 34), (some (33, false)), .fa 1 (.t 4)⟩, ⟨(some 35), (some (33, false)), .load none (.t 34)⟩, ⟨(some 36), (some (33, false)), .len false (.t 35)⟩, ⟨(some 37), (some (33, false)), .bin .gtr none (.t 36) (.c (.int .i64 8))⟩, ⟨(some 38), none, .pick (.t 33) (.c (.bool true)) (.t 37)⟩, ⟨(some 28), none, .move (.t 38)⟩])
       (.cond (.t 28) (.seq (.line [⟨(some 2), none, .move (.c (.int .i64 9))⟩])
        .ret) .skip)))))))
    (.seq (.line [⟨(some 39), none, .fa 1 (.t 4)⟩, ⟨(some 40), none, .load none (.t 39)⟩, ⟨(some 41), none, .len false (.t 40)⟩, ⟨(some 42), none, .move (.c (.int .i64 0))⟩])
    (.block 3 (.loop (.seq (.line [⟨(some 43), none, .bin .lss none (.t 42) (.t 41)⟩])
      (.seq (.cond (.t 43) .skip (.exit 3))
      (.seq (.block 4 (.seq (.line [⟨(some 44), none, .move (.t 42)⟩, ⟨(some 45), none, .ia none 1 (.t 40) (.t 42)⟩, ⟨(some 46), none, .load none (.t 45)⟩, ⟨(some 5), none, .move (.t 44)⟩, ⟨(some 6), none, .move (.t 46)⟩])
       (.seq (.seq (.line [⟨(some 47), none, .move (.t 6)⟩, ⟨(some 48), none, .call (.c (.func (.func 22) #[] #[])) [(.t 47)]⟩, ⟨(some 49), none, .un .not (.t 48)⟩])
       (.cond (.t 49) (.seq (.line [⟨(some 2), none, .move (.c (.int .i64 4))⟩])
        .ret) .skip))
       (.seq (.line [⟨(some 50), none, .fa 1 (.t 4)⟩, ⟨(some 51), none, .load none (.t 50)⟩, ⟨(some 52), none, .move (.t 5)⟩, ⟨(some 53), none, .slice (.sl 1) (.t 51) none (some (.t 52)) none⟩, ⟨(some 54), none, .move (.t 6)⟩, ⟨(some 55), none, .call (.c (.func (.func 69) #[] #[])) [(.t 53), (.t 54)]⟩])
       (.cond (.t 55) (.seq (.line [⟨(some 2), none, .move (.c (.int .i64 7))⟩])
        .ret) .skip)))))
      (.line [⟨(some 56), none, .bin .add none (.t 42) (.c (.int .i64 1))⟩, ⟨(some 42), none, .move (.t 56)⟩]))))))))))
   (.line [⟨(some 57), none, .bin .add none (.t 12) (.c (.int .i64 1))⟩, ⟨(some 12), none, .move (.t 57)⟩])))))))
 (.seq (.line [⟨(some 2), none, .move (.c (.int .i64 0))⟩])
 .ret))))⟩
/-- captioner/captionerref07.Split -/
def g42 : GFun := ⟨78, [.tmp 2, .tmp 3],
 (.seq (.line [⟨(some 2), none, .move (.c (.slice none 0 0))⟩, ⟨(some 3), none, .move (.c (.slice none 0 0))⟩])
 (.seq (.seq (.line [⟨(some 12), none, .move (.t 0)⟩, ⟨(some 13), none, .len true (.t 12)⟩, ⟨(some 14), none, .bin .gtr none (.t 13) (.c (.int .i64 262144))⟩])
 (.cond (.t 14) (.seq (.line [⟨(some 15), none, .build [(.int .i64 0), (.int .i64 0), (.int .i64 0)] [(0, 1, (.c (.int .i64 1))), (1, 1, (.c (.int .i64 1))), (2, 1, (.c (.int .i64 9)))]⟩, ⟨(some 16), none, .buildSl 3 1 [(.int .i64 0), (.int .i64 0), (.int .i64 0)] [(0, 3, (.t 15))]⟩, ⟨(some 2), none, .move (.c (.slice none 0 0))⟩, ⟨(some 3), none, .move (.t 16)⟩])
  .ret) .skip))
 (.seq (.line [⟨(some 4), none, .move (.c (.slice none 0 0))⟩])
 (.seq (.line [⟨(some 5), none, .move (.c (.slice none 0 0))⟩])
 (.seq (.line [⟨(some 6), none, .move (.c (.int .i64 1))⟩, ⟨(some 7), none, .move (.c (.int .i64 0))⟩])
 (.seq (.seq (.line [⟨(some 8), none, .move (.c (.int .i64 0))⟩])
 (.block 0 (.loop (.seq (.seq (.line [⟨(some 17), none, .move (.t 8)⟩, ⟨(some 18), none, .move (.t 0)⟩, ⟨(some 19), none, .len true (.t 18)⟩, ⟨(some 20), none, .bin .leq none (.t 17) (.t 19)⟩])
   (.cond (.t 20) .skip (.exit 0)))
   (.seq (.block 1 (.seq (.seq (.line [⟨(some 23), none, .move (.t 8)⟩, ⟨(some 24), none, .move (.t 0)⟩, ⟨(some 25), none, .len true (.t 24)⟩, ⟨(some 26), none, .bin .lss none (.t 23) (.t 25)⟩, ⟨(some 27), none, .move (.t 26)⟩, ⟨(some 28), (some (27, true)), .move (.t 0)⟩, ⟨(some 29), (some (27, true)), .move (.t 8)⟩, ⟨(some 30), (some (27, true)), .ix none (.t 28) (.t 29)⟩, ⟨(some 31), (some (27, true)), .bin .neq (some .int) (.t 30) (.c (.int .u8 10))⟩, ⟨(some 32), none, .pick (.t 27) (.t 31) (.c (.bool false))⟩])
    (.cond (.t 32) (.exit 1) .skip))
    (.seq (.line [⟨(some 33), none, .move (.t 0)⟩, ⟨(some 34), none, .move (.t 7)⟩, ⟨(some 35), none, .move (.t 8)⟩, ⟨(some 36), none, .slice .str (.t 33) (some (.t 34)) (some (.t 35)) none⟩, ⟨(some 9), none, .move (.t 36)⟩])
    (.seq (.seq (.line [⟨(some 37), none, .move (.t 9)⟩, ⟨(some 38), none, .len true (.t 37)⟩, ⟨(some 39), none, .bin .gtr none (.t 38) (.c (.int .i64 1000))⟩])
    (.cond (.t 39) (.line [⟨(some 40), none, .move (.t 5)⟩, ⟨(some 41), none, .move (.t 6)⟩, ⟨(some 42), none, .build [(.int .i64 0), (.int .i64 0), (.int .i64 0)] [(0, 1, (.t 41)), (1, 1, (.c (.int .i64 1001))), (2, 1, (.c (.int .i64 9)))]⟩, ⟨(some 43), none, .buildSl 3 1 [(.int .i64 0), (.int .i64 0), (.int .i64 0)] [(0, 3, (.t 42))]⟩, ⟨(some 44), none, .app 3 24 3 (.t 40) (.t 43)⟩, ⟨(some 5), none, .move (.t 44)⟩]) (.seq (.line [⟨(some 46), none, .move (.t 9)⟩, ⟨(some 47), none, .call (.c (.func (.func 70) #[] #[])) [(.t 46)]⟩, ⟨(some 45), none, .move (.t 47)⟩, ⟨(some 48), none, .ext (.t 45) 0⟩, ⟨(some 49), none, .ext (.t 45) 1⟩, ⟨(some 10), none, .move (.t 48)⟩, ⟨(some 11), none, .move (.t 49)⟩])
     (.seq (.line [⟨(some 50), none, .move (.t 11)⟩, ⟨(some 51), none, .bin .geq none (.t 50) (.c (.int .i64 0))⟩])
     (.cond (.t 51) (.line [⟨(some 52), none, .move (.t 5)⟩, ⟨(some 53), none, .move (.t 6)⟩, ⟨(some 54), none, .move (.t 11)⟩, ⟨(some 55), none, .bin .add none (.t 54) (.c (.int .i64 1))⟩, ⟨(some 56), none, .build [(.int .i64 0), (.int .i64 0), (.int .i64 0)] [(0, 1, (.t 53)), (1, 1, (.t 55)), (2, 1, (.c (.int .i64 4)))]⟩, ⟨(some 57), none, .buildSl 3 1 [(.int .i64 0), (.int .i64 0), (.int .i64 0)] [(0, 3, (.t 56))]⟩, ⟨(some 58), none, .app 3 24 3 (.t 52) (.t 57)⟩, ⟨(some 5), none, .move (.t 58)⟩]) (.seq (.line [⟨(some 59), none, .move (.t 10)⟩, ⟨(some 60), none, .len false (.t 59)⟩, ⟨(some 61), none, .bin .gtr none (.t 60) (.c (.int .i64 0))⟩])
      (.cond (.t 61) (.line [⟨(some 62), none, .move (.t 4)⟩, ⟨(some 63), none, .move (.t 6)⟩, ⟨(some 64), none, .move (.t 10)⟩, ⟨(some 65), none, .build [(.int .i64 0), (.slice none 0 0)] [(0, 1, (.t 63)), (1, 1, (.t 64))]⟩, ⟨(some 66), none, .buildSl 2 1 [(.int .i64 0), (.slice none 0 0)] [(0, 2, (.t 65))]⟩, ⟨(some 67), none, .app 2 32 2 (.t 62) (.t 66)⟩, ⟨(some 4), none, .move (.t 67)⟩]) .skip)))))))
    (.seq (.line [⟨(some 68), none, .move (.t 6)⟩, ⟨(some 69), none, .bin .add none (.t 68) (.c (.int .i64 1))⟩, ⟨(some 6), none, .move (.t 69)⟩])
    (.line [⟨(some 70), none, .move (.t 8)⟩, ⟨(some 71), none, .bin .add none (.t 70) (.c (.int .i64 1))⟩, ⟨(some 7), none, .move (.t 71)⟩]))))))
   (.line [⟨(some 21), none, .move (.t 8)⟩, ⟨(some 22), none, .bin .add none (.t 21) (.c (.int .i64 1))⟩, ⟨(some 8), none, .move (.t 22)⟩]))))))
 (.seq (.any [] [⟨(some 72), none, .move (.t 4)⟩, ⟨(some 73), none, .move (.t 5)⟩, ⟨(some 74), none, .move (.t 5)⟩, ⟨(some 75), none, .len false (.t 74)⟩, ⟨(some 76), none, .min (.t 75) [(.c (.int .i64 50))]⟩, ⟨(some 77), none, .slice (.sl 3) (.t 73) none (some (.t 76)) none⟩, ⟨(some 2), none, .move (.t 72)⟩, ⟨(some 3), none, .move (.t 77)⟩] [])
 .ret)))))))⟩
/-- captioner/captionerref07.Scan -/
def g43 : GFun := ⟨6, [.tmp 2],
 (.seq (.line [⟨(some 1), none, .box (.t 0)⟩, ⟨(some 2), none, .move (.c (.pointer none))⟩])
 (.seq (.line [⟨(some 3), none, .load (some 2) (.t 1)⟩, ⟨(some 4), none, .build [(.int .i64 0), (.slice none 0 0), (.int .i64 0), (.int .i64 0), (.int .i64 0)] [(0, 2, (.t 3))]⟩, ⟨(some 5), none, .box (.t 4)⟩, ⟨(some 2), none, .move (.t 5)⟩])
 .ret))⟩
/-- (*captioner/captionerref07.Scanner).Word -/
def g44 : GFun := ⟨12, [.tmp 2],
 (.seq (.line [⟨(some 2), none, .move (.c (.string ⟨#[]⟩))⟩])
 (.seq (.line [⟨(some 6), none, .move (.t 0)⟩, ⟨(some 7), none, .call (.c (.func (.func 71) #[] #[])) [(.t 6), (.c (.bool false))]⟩, ⟨(some 5), none, .move (.t 7)⟩, ⟨(some 8), none, .ext (.t 5) 0⟩, ⟨(some 9), none, .ext (.t 5) 1⟩, ⟨(some 3), none, .alloc 0 [(.string ⟨#[]⟩), (.int .i64 0), (.bool false)]⟩, ⟨none, none, .store (some 3) (.t 3) (.t 8)⟩, ⟨(some 4), none, .move (.t 9)⟩])
 (.seq (.line [⟨(some 10), none, .fa 0 (.t 3)⟩, ⟨(some 11), none, .load none (.t 10)⟩, ⟨(some 2), none, .move (.t 11)⟩])
 .ret)))⟩
/-- captioner/captionerref51.Take -/
def g45 : GFun := ⟨32, [.cell 2 (some 2)],
 (.seq (.line [⟨(some 2), none, .alloc 0 [(.string ⟨#[]⟩), (.slice none 0 0)]⟩])
 (.seq (.line [⟨(some 4), none, .move (.t 0)⟩, ⟨(some 5), none, .call (.c (.func (.func 72) #[] #[])) [(.t 4)]⟩, ⟨(some 6), none, .build [(.string ⟨#[]⟩), (.slice none 0 0)] [(0, 1, (.t 5))]⟩, ⟨(some 3), none, .alloc 0 [(.string ⟨#[]⟩), (.slice none 0 0)]⟩, ⟨none, none, .store (some 2) (.t 3) (.t 6)⟩])
 (.seq (.any [] [⟨(some 7), none, .fa 1 (.t 3)⟩, ⟨(some 8), none, .load none (.t 7)⟩, ⟨(some 9), none, .move (.t 0)⟩, ⟨(some 10), none, .call (.c (.func (.func 72) #[] #[])) [(.t 9)]⟩, ⟨(some 11), none, .buildSl 1 1 [(.string ⟨#[]⟩)] [(0, 1, (.t 10))]⟩] [(false, ⟨(some 12), none, .app 1 16 1 (.t 8) (.t 11)⟩), (false, ⟨(some 13), none, .fa 1 (.t 3)⟩), (false, ⟨none, none, .store none (.t 13) (.t 12)⟩)])
 (.seq (.block 0 (.loop (.seq (.seq (.line [⟨(some 14), none, .move (.t 0)⟩, ⟨(some 15), none, .call (.c (.func (.func 73) #[] #[])) [(.t 14)]⟩, ⟨(some 16), none, .bin .gtr none (.t 15) (.c (.int .i64 0))⟩, ⟨(some 17), none, .move (.t 16)⟩, ⟨(some 18), (some (17, true)), .move (.t 0)⟩, ⟨(some 19), (some (17, true)), .nilc (.t 18)⟩, ⟨(some 20), (some (17, true)), .fa 3 (.t 19)⟩, ⟨(some 21), (some (17, true)), .load none (.t 20)⟩, ⟨(some 22), (some (17, true)), .bin .eql (some .int) (.t 21) (.c (.int .i64 0))⟩, ⟨(some 23), none, .pick (.t 17) (.t 22) (.c (.bool false))⟩])
   (.cond (.t 23) .skip (.exit 0)))
   (.block 1 (.any [] [⟨(some 24), none, .fa 1 (.t 3)⟩, ⟨(some 25), none, .load none (.t 24)⟩, ⟨(some 26), none, .move (.t 0)⟩, ⟨(some 27), none, .call (.c (.func (.func 72) #[] #[])) [(.t 26)]⟩, ⟨(some 28), none, .buildSl 1 1 [(.string ⟨#[]⟩)] [(0, 1, (.t 27))]⟩] [(false, ⟨(some 29), none, .app 1 16 1 (.t 25) (.t 28)⟩), (false, ⟨(some 30), none, .fa 1 (.t 3)⟩), (false, ⟨none, none, .store none (.t 30) (.t 29)⟩)])))))
 (.seq (.line [⟨(some 31), none, .load (some 2) (.t 3)⟩, ⟨none, none, .store (some 2) (.t 2) (.t 31)⟩])
 .ret)))))⟩
/-- (*captioner/captionerref07.Scanner).End -/
def g46 : GFun := ⟨48, [.cell 2 (some 3), .tmp 3],
 (.seq (.line [⟨(some 2), none, .alloc 0 [(.int .i64 0), (.int .i64 0), (.int .i64 0)]⟩, ⟨(some 3), none, .move (.c (.bool false))⟩])
 (.seq (.seq (.line [⟨(some 4), none, .move (.t 0)⟩, ⟨(some 5), none, .bin .eql (some .ptr) (.t 4) (.c (.pointer none))⟩])
 (.cond (.t 5) (.seq (.line [⟨(some 6), none, .build [(.int .i64 0), (.int .i64 0), (.int .i64 0)] []⟩, ⟨none, none, .store (some 3) (.t 2) (.t 6)⟩, ⟨(some 3), none, .move (.c (.bool false))⟩])
  .ret) .skip))
 (.seq (.seq (.line [⟨(some 7), none, .move (.t 0)⟩, ⟨(some 8), none, .nilc (.t 7)⟩, ⟨(some 9), none, .fa 3 (.t 8)⟩, ⟨(some 10), none, .load none (.t 9)⟩, ⟨(some 11), none, .bin .neq (some .int) (.t 10) (.c (.int .i64 0))⟩])
 (.cond (.t 11) (.seq (.any [] [⟨(some 12), none, .move (.t 0)⟩, ⟨(some 13), none, .nilc (.t 12)⟩, ⟨(some 14), none, .fa 0 (.t 13)⟩, ⟨(some 15), none, .fa 0 (.t 14)⟩, ⟨(some 16), none, .load none (.t 15)⟩, ⟨(some 17), none, .move (.t 0)⟩, ⟨(some 18), none, .nilc (.t 17)⟩, ⟨(some 19), none, .fa 4 (.t 18)⟩, ⟨(some 20), none, .load none (.t 19)⟩, ⟨(some 21), none, .move (.t 0)⟩, ⟨(some 22), none, .nilc (.t 21)⟩, ⟨(some 23), none, .fa 3 (.t 22)⟩, ⟨(some 24), none, .load none (.t 23)⟩, ⟨(some 25), none, .build [(.int .i64 0), (.int .i64 0), (.int .i64 0)] [(0, 1, (.t 16)), (1, 1, (.t 20)), (2, 1, (.t 24))]⟩] [(false, ⟨none, none, .store (some 3) (.t 2) (.t 25)⟩), (false, ⟨(some 3), none, .move (.c (.bool true))⟩)])
  .ret) .skip))
 (.seq (.seq (.line [⟨(some 26), none, .move (.t 0)⟩, ⟨(some 27), none, .call (.c (.func (.func 73) #[] #[])) [(.t 26)]⟩, ⟨(some 28), none, .bin .gtr none (.t 27) (.c (.int .i64 0))⟩])
 (.cond (.t 28) (.seq (.any [] [⟨(some 29), none, .move (.t 0)⟩, ⟨(some 30), none, .nilc (.t 29)⟩, ⟨(some 31), none, .fa 0 (.t 30)⟩, ⟨(some 32), none, .fa 0 (.t 31)⟩, ⟨(some 33), none, .load none (.t 32)⟩, ⟨(some 34), none, .move (.t 0)⟩, ⟨(some 35), none, .nilc (.t 34)⟩, ⟨(some 36), none, .fa 0 (.t 35)⟩, ⟨(some 37), none, .fa 1 (.t 36)⟩, ⟨(some 38), none, .load none (.t 37)⟩, ⟨(some 39), none, .move (.t 0)⟩, ⟨(some 40), none, .nilc (.t 39)⟩, ⟨(some 41), none, .fa 2 (.t 40)⟩, ⟨(some 42), none, .load none (.t 41)⟩, ⟨(some 43), none, .ia none 3 (.t 38) (.t 42)⟩, ⟨(some 44), none, .fa 1 (.t 43)⟩, ⟨(some 45), none, .load none (.t 44)⟩, ⟨(some 46), none, .build [(.int .i64 0), (.int .i64 0), (.int .i64 0)] [(0, 1, (.t 33)), (1, 1, (.t 45)), (2, 1, (.c (.int .i64 4)))]⟩] [(false, ⟨none, none, .store (some 3) (.t 2) (.t 46)⟩), (false, ⟨(some 3), none, .move (.c (.bool true))⟩)])
  .ret) .skip))
 (.seq (.line [⟨(some 47), none, .build [(.int .i64 0), (.int .i64 0), (.int .i64 0)] []⟩, ⟨none, none, .store (some 3) (.t 2) (.t 47)⟩, ⟨(some 3), none, .move (.c (.bool false))⟩])
 .ret)))))⟩
/-- captioner/captionerref51.Check -/
def g47 : GFun := ⟨75, [.tmp 2],
 (.seq (.line [⟨(some 2), none, .move (.c (.int .i64 0))⟩])
 (.seq (.seq (.line [⟨(some 11), none, .move (.t 0)⟩, ⟨(some 12), none, .len false (.t 11)⟩, ⟨(some 13), none, .bin .gtr none (.t 12) (.c (.int .i64 64))⟩])
 (.cond (.t 13) (.seq (.line [⟨(some 2), none, .move (.c (.int .i64 9))⟩])
  .ret) .skip))
 (.seq (.seq (.line [⟨(some 14), none, .move (.t 0)⟩, ⟨(some 15), none, .len false (.t 14)⟩, ⟨(some 16), none, .move (.c (.int .i64 0))⟩])
 (.block 0 (.loop (.seq (.line [⟨(some 17), none, .bin .lss none (.t 16) (.t 15)⟩])
   (.seq (.cond (.t 17) .skip (.exit 0))
   (.seq (.block 1 (.seq (.line [⟨(some 18), none, .move (.t 16)⟩, ⟨(some 19), none, .ia none 2 (.t 14) (.t 16)⟩, ⟨(some 20), none, .load (some 2) (.t 19)⟩, ⟨(some 4), none, .alloc 0 [(.string ⟨#[]⟩), (.slice none 0 0)]⟩, ⟨(some 3), none, .move (.t 18)⟩, ⟨none, none, .store (some 2) (.t 4) (.t 20)⟩])
    (.seq (.seq (.line [⟨(some 21), none, .fa 0 (.t 4)⟩, ⟨(some 22), none, .load none (.t 21)⟩, ⟨(some 23), none, .call (.c (.func (.func 27) #[] #[])) [(.t 22)]⟩, ⟨(some 24), none, .un .not (.t 23)⟩])
    (.cond (.t 24) (.seq (.line [⟨(some 2), none, .move (.c (.int .i64 4))⟩])
     .ret) .skip))
    (.seq (.seq (.line [⟨(some 25), none, .move (.t 0)⟩, ⟨(some 26), none, .move (.t 3)⟩, ⟨(some 27), none, .slice (.sl 2) (.t 25) none (some (.t 26)) none⟩, ⟨(some 28), none, .len false (.t 27)⟩, ⟨(some 29), none, .move (.c (.int .i64 0))⟩])
    (.block 2 (.loop (.seq (.line [⟨(some 30), none, .bin .lss none (.t 29) (.t 28)⟩])
      (.seq (.cond (.t 30) .skip (.exit 2))
      (.seq (.block 3 (.seq (.line [⟨(some 31), none, .ia none 2 (.t 27) (.t 29)⟩, ⟨(some 32), none, .load (some 2) (.t 31)⟩, ⟨(some 6), none, .alloc 0 [(.string ⟨#[]⟩), (.slice none 0 0)]⟩, ⟨none, none, .store (some 2) (.t 6) (.t 32)⟩])
       (.seq (.line [⟨(some 33), none, .fa 0 (.t 6)⟩, ⟨(some 34), none, .load none (.t 33)⟩, ⟨(some 35), none, .fa 0 (.t 4)⟩, ⟨(some 36), none, .load none (.t 35)⟩, ⟨(some 37), none, .call (.c (.func (.func 74) #[] #[])) [(.t 34), (.t 36)]⟩])
       (.cond (.t 37) (.seq (.line [⟨(some 2), none, .move (.c (.int .i64 7))⟩])
        .ret) .skip))))
      (.line [⟨(some 38), none, .bin .add none (.t 29) (.c (.int .i64 1))⟩, ⟨(some 29), none, .move (.t 38)⟩])))))))
    (.seq (.seq (.line [⟨(some 39), none, .fa 1 (.t 4)⟩, ⟨(some 40), none, .load none (.t 39)⟩, ⟨(some 41), none, .len false (.t 40)⟩, ⟨(some 42), none, .bin .lss none (.t 41) (.c (.int .i64 1))⟩, ⟨(some 43), none, .move (.t 42)⟩, ⟨(some 44), (some (43, false)), .fa 1 (.t 4)⟩, ⟨(some 45), (some (43, false)), .load none (.t 44)⟩, ⟨(some 46), (some (43, false)), .len false (.t 45)⟩, ⟨(some 47), (some (43, false)), .bin .gtr none (.t 46) (.c (.int .i64 8))⟩, ⟨(some 48), none, .pick (.t 43) (.c (.bool true)) (.t 47)⟩])
    (.cond (.t 48) (.seq (.line [⟨(some 2), none, .move (.c (.int .i64 9))⟩])
     .ret) .skip))
    (.seq (.line [⟨(some 49), none, .fa 1 (.t 4)⟩, ⟨(some 50), none, .load none (.t 49)⟩, ⟨(some 51), none, .len false (.t 50)⟩, ⟨(some 52), none, .move (.c (.int .i64 0))⟩])
    (.block 4 (.loop (.seq (.line [⟨(some 53), none, .bin .lss none (.t 52) (.t 51)⟩])
      (.seq (.cond (.t 53) .skip (.exit 4))
      (.seq (.block 5 (.seq (.line [⟨(some 54), none, .move (.t 52)⟩, ⟨(some 55), none, .ia none 1 (.t 50) (.t 52)⟩, ⟨(some 56), none, .load none (.t 55)⟩, ⟨(some 7), none, .move (.t 54)⟩, ⟨(some 8), none, .move (.t 56)⟩])
       (.seq (.seq (.line [⟨(some 57), none, .move (.t 8)⟩, ⟨(some 58), none, .call (.c (.func (.func 27) #[] #[])) [(.t 57)]⟩, ⟨(some 59), none, .un .not (.t 58)⟩])
       (.cond (.t 59) (.seq (.line [⟨(some 2), none, .move (.c (.int .i64 4))⟩])
        .ret) .skip))
       (.seq (.line [⟨(some 60), none, .fa 1 (.t 4)⟩, ⟨(some 61), none, .load none (.t 60)⟩, ⟨(some 62), none, .move (.t 7)⟩, ⟨(some 63), none, .slice (.sl 1) (.t 61) none (some (.t 62)) none⟩, ⟨(some 64), none, .len false (.t 63)⟩, ⟨(some 65), none, .move (.c (.int .i64 0))⟩])
       (.block 6 (.loop (.seq (.line [⟨(some 66), none, .bin .lss none (.t 65) (.t 64)⟩])
         (.seq (.cond (.t 66) .skip (.exit 6))
         (.seq (.block 7 (.seq (.line [⟨(some 67), none, .ia none 1 (.t 63) (.t 65)⟩, ⟨(some 68), none, .load none (.t 67)⟩, ⟨(some 10), none, .move (.t 68)⟩])
          (.seq (.line [⟨(some 69), none, .move (.t 10)⟩, ⟨(some 70), none, .move (.t 8)⟩, ⟨(some 71), none, .call (.c (.func (.func 74) #[] #[])) [(.t 69), (.t 70)]⟩])
          (.cond (.t 71) (.seq (.line [⟨(some 2), none, .move (.c (.int .i64 7))⟩])
           .ret) .skip))))
         (.line [⟨(some 72), none, .bin .add none (.t 65) (.c (.int .i64 1))⟩, ⟨(some 65), none, .move (.t 72)⟩]))))))))))
      (.line [⟨(some 73), none, .bin .add none (.t 52) (.c (.int .i64 1))⟩, ⟨(some 52), none, .move (.t 73)⟩]))))))))))))
   (.line [⟨(some 74), none, .bin .add none (.t 16) (.c (.int .i64 1))⟩, ⟨(some 16), none, .move (.t 74)⟩])))))))
 (.seq (.line [⟨(some 2), none, .move (.c (.int .i64 0))⟩])
 .ret))))⟩


/-- captioner/charset.Lower -/
def g51 : GFun := ⟨26, [.tmp 2],
 (.seq (.line [⟨(some 2), none, .move (.c (.int .i32 0))⟩])
 (.seq (.block 0 (.seq (.line [⟨(some 4), none, .move (.t 0)⟩, ⟨(some 5), none, .call (.c (.func (.func 34) #[] #[])) [(.t 4)]⟩, ⟨(some 6), none, .bin .lss none (.t 5) (.c (.int .i64 0))⟩, ⟨(some 3), none, .move (.t 6)⟩])
  (.cond (.t 3) (.seq (.line [⟨(some 2), none, .move (.c (.int .i32 0))⟩])
   .ret) (.seq (.seq (.line [⟨(some 8), none, .move (.t 0)⟩, ⟨(some 9), none, .bin .geq none (.t 8) (.c (.int .i32 65))⟩, ⟨(some 10), none, .move (.t 9)⟩, ⟨(some 11), (some (10, true)), .move (.t 0)⟩, ⟨(some 12), (some (10, true)), .bin .leq none (.t 11) (.c (.int .i32 90))⟩, ⟨(some 13), none, .pick (.t 10) (.t 12) (.c (.bool false))⟩, ⟨(some 7), none, .move (.t 13)⟩])
   (.cond (.t 7) .skip (.line [⟨(some 14), none, .move (.t 0)⟩, ⟨(some 15), none, .bin .geq none (.t 14) (.c (.int .i32 192))⟩, ⟨(some 16), none, .move (.t 15)⟩, ⟨(some 17), (some (16, true)), .move (.t 0)⟩, ⟨(some 18), (some (16, true)), .bin .lss none (.t 17) (.c (.int .i32 223))⟩, ⟨(some 19), none, .pick (.t 16) (.t 18) (.c (.bool false))⟩, ⟨(some 7), none, .move (.t 19)⟩])))
   (.cond (.t 7) (.seq (.line [⟨(some 20), none, .move (.t 0)⟩, ⟨(some 21), none, .bin .add none (.t 20) (.c (.int .i32 32))⟩, ⟨(some 2), none, .move (.t 21)⟩])
    .ret) (.seq (.line [⟨(some 23), none, .move (.t 0)⟩, ⟨(some 24), none, .bin .eql (some .int) (.t 23) (.c (.int .i32 338))⟩, ⟨(some 22), none, .move (.t 24)⟩])
    (.cond (.t 22) (.seq (.line [⟨(some 2), none, .move (.c (.int .i32 339))⟩])
     .ret) .skip)))))))
 (.seq (.line [⟨(some 25), none, .move (.t 0)⟩, ⟨(some 2), none, .move (.t 25)⟩])
 .ret)))⟩
/-- captioner/charset.Base -/
def g52 : GFun := ⟨17, [.tmp 2],
 (.seq (.line [⟨(some 2), none, .move (.c (.int .i32 0))⟩])
 (.seq (.line [⟨(some 4), none, .move (.t 0)⟩, ⟨(some 5), none, .call (.c (.func (.func 34) #[] #[])) [(.t 4)]⟩, ⟨(some 3), none, .move (.t 5)⟩])
 (.seq (.block 0 (.seq (.line [⟨(some 7), none, .move (.t 3)⟩, ⟨(some 8), none, .bin .lss none (.t 7) (.c (.int .i64 0))⟩, ⟨(some 6), none, .move (.t 8)⟩])
  (.cond (.t 6) (.seq (.line [⟨(some 2), none, .move (.c (.int .i32 0))⟩])
   .ret) (.seq (.line [⟨(some 10), none, .move (.t 3)⟩, ⟨(some 11), none, .bin .lss none (.t 10) (.c (.int .i64 95))⟩, ⟨(some 9), none, .move (.t 11)⟩])
   (.cond (.t 9) (.seq (.line [⟨(some 12), none, .move (.t 0)⟩, ⟨(some 2), none, .move (.t 12)⟩])
    .ret) .skip)))))
 (.seq (.line [⟨(some 13), none, .move (.t 3)⟩, ⟨(some 14), none, .bin .sub none (.t 13) (.c (.int .i64 95))⟩, ⟨(some 15), none, .ix none (.c (.string ⟨#[33, 99, 76, 36, 89, 124, 83, 67, 34, 82, 111, 46, 34, 50, 63, 65, 65, 65, 65, 65, 65, 65, 67, 69, 69, 69, 69, 73, 73, 73, 73, 78, 79, 79, 79, 79, 79, 79, 85, 85, 85, 85, 115, 97, 97, 97, 97, 97, 97, 97, 99, 101, 101, 101, 101, 105, 105, 105, 105, 110, 111, 111, 111, 111, 111, 111, 117, 117, 117, 117, 79, 111, 45, 39, 39, 34, 34, 46, 46, 84, 35]⟩)) (.t 14)⟩, ⟨(some 16), none, .conv (.int .i32) (.t 15)⟩, ⟨(some 2), none, .move (.t 16)⟩])
 .ret))))⟩
/-- captioner/charset.Of -/
def g53 : GFun := ⟨21, [.tmp 2],
 (.seq (.line [⟨(some 2), none, .move (.c (.string ⟨#[]⟩))⟩])
 (.seq (.line [⟨(some 3), none, .move (.c (.slice none 0 0))⟩])
 (.seq (.seq (.line [⟨(some 6), none, .move (.t 0)⟩, ⟨(some 7), none, .len false (.t 6)⟩, ⟨(some 8), none, .move (.c (.int .i64 0))⟩])
 (.block 0 (.loop (.seq (.line [⟨(some 9), none, .bin .lss none (.t 8) (.t 7)⟩])
   (.seq (.cond (.t 9) .skip (.exit 0))
   (.seq (.block 1 (.seq (.line [⟨(some 10), none, .ia none 1 (.t 6) (.t 8)⟩, ⟨(some 11), none, .load none (.t 10)⟩, ⟨(some 5), none, .move (.t 11)⟩])
    (.seq (.seq (.line [⟨(some 12), none, .move (.t 5)⟩, ⟨(some 13), none, .call (.c (.func (.func 34) #[] #[])) [(.t 12)]⟩, ⟨(some 14), none, .bin .lss none (.t 13) (.c (.int .i64 0))⟩])
    (.cond (.t 14) (.seq (.line [⟨(some 2), none, .move (.c (.string ⟨#[]⟩))⟩])
     .ret) .skip))
    (.line [⟨(some 15), none, .move (.t 3)⟩, ⟨(some 16), none, .move (.t 5)⟩, ⟨(some 17), none, .call (.c (.func (.func 82) #[] #[])) [(.t 15), (.t 16)]⟩, ⟨(some 3), none, .move (.t 17)⟩]))))
   (.line [⟨(some 18), none, .bin .add none (.t 8) (.c (.int .i64 1))⟩, ⟨(some 8), none, .move (.t 18)⟩])))))))
 (.seq (.line [⟨(some 19), none, .move (.t 3)⟩, ⟨(some 20), none, .conv .ofBytes (.t 19)⟩, ⟨(some 2), none, .move (.t 20)⟩])
 .ret))))⟩
/-- captioner/charset.Class -/
def g54 : GFun := ⟨46, [.tmp 2],
 (.seq (.line [⟨(some 2), none, .move (.c (.int .u8 0))⟩])
 (.seq (.block 0 (.seq (.line [⟨(some 4), none, .move (.t 0)⟩, ⟨(some 5), none, .call (.c (.func (.func 34) #[] #[])) [(.t 4)]⟩, ⟨(some 6), none, .bin .lss none (.t 5) (.c (.int .i64 0))⟩, ⟨(some 3), none, .move (.t 6)⟩])
  (.cond (.t 3) (.seq (.line [⟨(some 2), none, .move (.c (.int .u8 0))⟩])
   .ret) (.seq (.line [⟨(some 8), none, .move (.t 0)⟩, ⟨(some 9), none, .bin .eql (some .int) (.t 8) (.c (.int .i32 32))⟩, ⟨(some 7), none, .move (.t 9)⟩])
   (.cond (.t 7) (.seq (.line [⟨(some 2), none, .move (.c (.int .u8 1))⟩])
    .ret) (.seq (.line [⟨(some 11), none, .move (.t 0)⟩, ⟨(some 12), none, .bin .geq none (.t 11) (.c (.int .i32 48))⟩, ⟨(some 13), none, .move (.t 12)⟩, ⟨(some 14), (some (13, true)), .move (.t 0)⟩, ⟨(some 15), (some (13, true)), .bin .leq none (.t 14) (.c (.int .i32 57))⟩, ⟨(some 16), none, .pick (.t 13) (.t 15) (.c (.bool false))⟩, ⟨(some 10), none, .move (.t 16)⟩])
    (.cond (.t 10) (.seq (.line [⟨(some 2), none, .move (.c (.int .u8 2))⟩])
     .ret) (.seq (.seq (.line [⟨(some 18), none, .move (.t 0)⟩, ⟨(some 19), none, .bin .geq none (.t 18) (.c (.int .i32 65))⟩, ⟨(some 20), none, .move (.t 19)⟩, ⟨(some 21), (some (20, true)), .move (.t 0)⟩, ⟨(some 22), (some (20, true)), .bin .leq none (.t 21) (.c (.int .i32 90))⟩, ⟨(some 23), none, .pick (.t 20) (.t 22) (.c (.bool false))⟩, ⟨(some 17), none, .move (.t 23)⟩])
     (.cond (.t 17) .skip (.seq (.line [⟨(some 24), none, .move (.t 0)⟩, ⟨(some 25), none, .bin .geq none (.t 24) (.c (.int .i32 97))⟩, ⟨(some 26), none, .move (.t 25)⟩, ⟨(some 27), (some (26, true)), .move (.t 0)⟩, ⟨(some 28), (some (26, true)), .bin .leq none (.t 27) (.c (.int .i32 122))⟩, ⟨(some 29), none, .pick (.t 26) (.t 28) (.c (.bool false))⟩, ⟨(some 17), none, .move (.t 29)⟩])
      (.cond (.t 17) .skip (.seq (.line [⟨(some 30), none, .move (.t 0)⟩, ⟨(some 31), none, .bin .geq none (.t 30) (.c (.int .i32 192))⟩, ⟨(some 32), none, .move (.t 31)⟩, ⟨(some 33), (some (32, true)), .move (.t 0)⟩, ⟨(some 34), (some (32, true)), .bin .leq none (.t 33) (.c (.int .i32 255))⟩, ⟨(some 35), none, .pick (.t 32) (.t 34) (.c (.bool false))⟩, ⟨(some 17), none, .move (.t 35)⟩])
       (.cond (.t 17) .skip (.seq (.line [⟨(some 36), none, .move (.t 0)⟩, ⟨(some 37), none, .bin .eql (some .int) (.t 36) (.c (.int .i32 338))⟩, ⟨(some 17), none, .move (.t 37)⟩])
        (.cond (.t 17) .skip (.line [⟨(some 38), none, .move (.t 0)⟩, ⟨(some 39), none, .bin .eql (some .int) (.t 38) (.c (.int .i32 339))⟩, ⟨(some 17), none, .move (.t 39)⟩])))))))))
     (.cond (.t 17) (.seq (.line [⟨(some 2), none, .move (.c (.int .u8 3))⟩])
      .ret) (.seq (.line [⟨(some 41), none, .move (.t 0)⟩, ⟨(some 42), none, .call (.c (.func (.func 83) #[] #[])) [(.c (.string ⟨#[33, 34, 39, 40, 41, 44, 45, 46, 47, 58, 59, 63, 91, 93, 194, 161, 194, 171, 194, 187, 194, 191, 226, 128, 148, 226, 128, 152, 226, 128, 153, 226, 128, 156, 226, 128, 157, 226, 128, 166]⟩)), (.t 41)]⟩, ⟨(some 40), none, .move (.t 42)⟩])
      (.cond (.t 40) (.seq (.line [⟨(some 2), none, .move (.c (.int .u8 4))⟩])
       .ret) (.seq (.line [⟨(some 44), none, .move (.t 0)⟩, ⟨(some 45), none, .bin .eql (some .int) (.t 44) (.c (.int .i32 9834))⟩, ⟨(some 43), none, .move (.t 45)⟩])
       (.cond (.t 43) (.seq (.line [⟨(some 2), none, .move (.c (.int .u8 6))⟩])
        .ret) .skip)))))))))))))
 (.seq (.line [⟨(some 2), none, .move (.c (.int .u8 5))⟩])
 .ret)))⟩
/-- captioner/captionerref08.Index -/
def g55 : GFun := ⟨26, [.tmp 2],
 (.seq (.line [⟨(some 2), none, .move (.c (.int .i64 0))⟩])
 (.seq (.seq (.line [⟨(some 6), none, .move (.t 0)⟩, ⟨(some 7), none, .bin .geq none (.t 6) (.c (.int .i32 32))⟩, ⟨(some 8), none, .move (.t 7)⟩, ⟨(some 9), (some (8, true)), .move (.t 0)⟩, ⟨(some 10), (some (8, true)), .bin .leq none (.t 9) (.c (.int .i32 126))⟩, ⟨(some 11), none, .pick (.t 8) (.t 10) (.c (.bool false))⟩])
 (.cond (.t 11) (.seq (.line [⟨(some 12), none, .move (.t 0)⟩, ⟨(some 13), none, .bin .sub none (.t 12) (.c (.int .i32 32))⟩, ⟨(some 14), none, .conv (.int .i64) (.t 13)⟩, ⟨(some 2), none, .move (.t 14)⟩])
  .ret) .skip))
 (.seq (.line [⟨(some 3), none, .move (.c (.int .i64 0))⟩])
 (.seq (.seq (.line [⟨(some 15), none, .call (.c (.func (.func 84) #[] #[])) []⟩, ⟨(some 16), none, .rng (.t 15)⟩])
 (.block 0 (.loop (.seq (.line [⟨(some 17), none, .next (.t 16)⟩, ⟨(some 18), none, .ext (.t 17) 0⟩])
   (.seq (.cond (.t 18) .skip (.exit 0))
   (.block 1 (.seq (.line [⟨(some 19), none, .ext (.t 17) 2⟩, ⟨(some 5), none, .move (.t 19)⟩])
    (.seq (.seq (.line [⟨(some 20), none, .move (.t 5)⟩, ⟨(some 21), none, .move (.t 0)⟩, ⟨(some 22), none, .bin .eql (some .int) (.t 20) (.t 21)⟩])
    (.cond (.t 22) (.seq (.line [⟨(some 23), none, .move (.t 3)⟩, ⟨(some 2), none, .move (.t 23)⟩])
     .ret) .skip))
    (.line [⟨(some 24), none, .move (.t 3)⟩, ⟨(some 25), none, .bin .add none (.t 24) (.c (.int .i64 1))⟩, ⟨(some 3), none, .move (.t 25)⟩])))))))))
 (.seq (.line [⟨(some 2), none, .move (.c (.int .i64 (-1)))⟩])
 .ret)))))⟩
/-- captioner/captionerref08.runes -/
def g56 : GFun := ⟨16, [.tmp 2],
 (.seq (.line [⟨(some 2), none, .move (.c (.slice none 0 0))⟩])
 (.seq (.line [⟨(some 3), none, .move (.c (.slice none 0 0))⟩])
 (.seq (.seq (.line [⟨(some 6), none, .move (.t 0)⟩, ⟨(some 7), none, .rng (.t 6)⟩])
 (.block 0 (.loop (.seq (.line [⟨(some 8), none, .next (.t 7)⟩, ⟨(some 9), none, .ext (.t 8) 0⟩])
   (.seq (.cond (.t 9) .skip (.exit 0))
   (.block 1 (.seq (.line [⟨(some 10), none, .ext (.t 8) 2⟩, ⟨(some 5), none, .move (.t 10)⟩])
    (.line [⟨(some 11), none, .move (.t 3)⟩, ⟨(some 12), none, .move (.t 5)⟩, ⟨(some 13), none, .buildSl 1 1 [(.int .i32 0)] [(0, 1, (.t 12))]⟩, ⟨(some 14), none, .app 1 4 1 (.t 11) (.t 13)⟩, ⟨(some 3), none, .move (.t 14)⟩]))))))))
 (.seq (.line [⟨(some 15), none, .move (.t 3)⟩, ⟨(some 2), none, .move (.t 15)⟩])
 .ret))))⟩
/-- captioner/captionerref08.Lower -/
def g57 : GFun := ⟨24, [.tmp 2],
 (.seq (.line [⟨(some 2), none, .move (.c (.int .i32 0))⟩])
 (.seq (.block 0 (.seq (.line [⟨(some 4), none, .move (.t 0)⟩, ⟨(some 5), none, .call (.c (.func (.func 55) #[] #[])) [(.t 4)]⟩, ⟨(some 6), none, .bin .lss none (.t 5) (.c (.int .i64 0))⟩, ⟨(some 3), none, .move (.t 6)⟩])
  (.cond (.t 3) (.seq (.line [⟨(some 2), none, .move (.c (.int .i32 0))⟩])
   .ret) (.seq (.line [⟨(some 8), none, .move (.t 0)⟩, ⟨(some 9), none, .bin .geq none (.t 8) (.c (.int .i32 65))⟩, ⟨(some 10), none, .move (.t 9)⟩, ⟨(some 11), (some (10, true)), .move (.t 0)⟩, ⟨(some 12), (some (10, true)), .bin .leq none (.t 11) (.c (.int .i32 90))⟩, ⟨(some 13), none, .pick (.t 10) (.t 12) (.c (.bool false))⟩, ⟨(some 14), none, .move (.t 13)⟩, ⟨(some 15), (some (14, false)), .move (.t 0)⟩, ⟨(some 16), (some (14, false)), .call (.c (.func (.func 85) #[] #[])) [(.t 15), (.c (.string ⟨#[195, 128, 195, 129, 195, 130, 195, 131, 195, 132, 195, 133, 195, 134, 195, 135, 195, 136, 195, 137, 195, 138, 195, 139, 195, 140, 195, 141, 195, 142, 195, 143, 195, 145, 195, 146, 195, 147, 195, 148, 195, 149, 195, 150, 195, 152, 195, 153, 195, 154, 195, 155, 195, 156]⟩))]⟩, ⟨(some 17), none, .pick (.t 14) (.c (.bool true)) (.t 16)⟩, ⟨(some 7), none, .move (.t 17)⟩])
   (.cond (.t 7) (.seq (.line [⟨(some 18), none, .move (.t 0)⟩, ⟨(some 19), none, .bin .add none (.t 18) (.c (.int .i32 32))⟩, ⟨(some 2), none, .move (.t 19)⟩])
    .ret) (.seq (.line [⟨(some 21), none, .move (.t 0)⟩, ⟨(some 22), none, .bin .eql (some .int) (.t 21) (.c (.int .i32 338))⟩, ⟨(some 20), none, .move (.t 22)⟩])
    (.cond (.t 20) (.seq (.line [⟨(some 2), none, .move (.c (.int .i32 339))⟩])
     .ret) .skip)))))))
 (.seq (.line [⟨(some 23), none, .move (.t 0)⟩, ⟨(some 2), none, .move (.t 23)⟩])
 .ret)))⟩
/-- captioner/captionerref08.Base -/
def g58 : GFun := ⟨25, [.tmp 2],
 (.seq (.line [⟨(some 2), none, .move (.c (.int .i32 0))⟩])
 (.seq (.seq (.line [⟨(some 6), none, .move (.t 0)⟩, ⟨(some 7), none, .call (.c (.func (.func 55) #[] #[])) [(.t 6)]⟩, ⟨(some 8), none, .bin .lss none (.t 7) (.c (.int .i64 0))⟩])
 (.cond (.t 8) (.seq (.line [⟨(some 2), none, .move (.c (.int .i32 0))⟩])
  .ret) .skip))
 (.seq (.seq (.line [⟨(some 9), none, .move (.t 0)⟩, ⟨(some 10), none, .bin .lss none (.t 9) (.c (.int .i32 128))⟩])
 (.cond (.t 10) (.seq (.line [⟨(some 11), none, .move (.t 0)⟩, ⟨(some 2), none, .move (.t 11)⟩])
  .ret) .skip))
 (.seq (.line [⟨(some 3), none, .move (.c (.int .i64 0))⟩])
 (.seq (.seq (.line [⟨(some 12), none, .rng (.c (.string ⟨#[194, 161, 194, 162, 194, 163, 194, 164, 194, 165, 194, 166, 194, 167, 194, 169, 194, 171, 194, 174, 194, 176, 194, 183, 194, 187, 194, 189, 194, 191, 195, 128, 195, 129, 195, 130, 195, 131, 195, 132, 195, 133, 195, 134, 195, 135, 195, 136, 195, 137, 195, 138, 195, 139, 195, 140, 195, 141, 195, 142, 195, 143, 195, 145, 195, 146, 195, 147, 195, 148, 195, 149, 195, 150, 195, 152, 195, 153, 195, 154, 195, 155, 195, 156, 195, 159, 195, 160, 195, 161, 195, 162, 195, 163, 195, 164, 195, 165, 195, 166, 195, 167, 195, 168, 195, 169, 195, 170, 195, 171, 195, 172, 195, 173, 195, 174, 195, 175, 195, 177, 195, 178, 195, 179, 195, 180, 195, 181, 195, 182, 195, 184, 195, 185, 195, 186, 195, 187, 195, 188, 197, 146, 197, 147, 226, 128, 148, 226, 128, 152, 226, 128, 153, 226, 128, 156, 226, 128, 157, 226, 128, 162, 226, 128, 166, 226, 132, 162, 226, 153, 170]⟩))⟩])
 (.block 0 (.loop (.seq (.line [⟨(some 13), none, .next (.t 12)⟩, ⟨(some 14), none, .ext (.t 13) 0⟩])
   (.seq (.cond (.t 14) .skip (.exit 0))
   (.block 1 (.seq (.line [⟨(some 15), none, .ext (.t 13) 2⟩, ⟨(some 5), none, .move (.t 15)⟩])
    (.seq (.seq (.line [⟨(some 16), none, .move (.t 5)⟩, ⟨(some 17), none, .move (.t 0)⟩, ⟨(some 18), none, .bin .eql (some .int) (.t 16) (.t 17)⟩])
    (.cond (.t 18) (.seq (.line [⟨(some 19), none, .move (.t 3)⟩, ⟨(some 20), none, .ix none (.c (.string ⟨#[33, 99, 76, 36, 89, 124, 83, 67, 34, 82, 111, 46, 34, 50, 63, 65, 65, 65, 65, 65, 65, 65, 67, 69, 69, 69, 69, 73, 73, 73, 73, 78, 79, 79, 79, 79, 79, 79, 85, 85, 85, 85, 115, 97, 97, 97, 97, 97, 97, 97, 99, 101, 101, 101, 101, 105, 105, 105, 105, 110, 111, 111, 111, 111, 111, 111, 117, 117, 117, 117, 79, 111, 45, 39, 39, 34, 34, 46, 46, 84, 35]⟩)) (.t 19)⟩, ⟨(some 21), none, .conv (.int .i32) (.t 20)⟩, ⟨(some 2), none, .move (.t 21)⟩])
     .ret) .skip))
    (.line [⟨(some 22), none, .move (.t 3)⟩, ⟨(some 23), none, .bin .add none (.t 22) (.c (.int .i64 1))⟩, ⟨(some 3), none, .move (.t 23)⟩])))))))))
 (.seq (.line [⟨(some 24), none, .move (.t 0)⟩, ⟨(some 2), none, .move (.t 24)⟩])
 .ret))))))⟩
/-- captioner/captionerref08.Class -/
def g59 : GFun := ⟨42, [.tmp 2],
 (.seq (.line [⟨(some 2), none, .move (.c (.int .u8 0))⟩])
 (.seq (.block 0 (.seq (.line [⟨(some 4), none, .move (.t 0)⟩, ⟨(some 5), none, .call (.c (.func (.func 55) #[] #[])) [(.t 4)]⟩, ⟨(some 6), none, .bin .lss none (.t 5) (.c (.int .i64 0))⟩, ⟨(some 3), none, .move (.t 6)⟩])
  (.cond (.t 3) (.seq (.line [⟨(some 2), none, .move (.c (.int .u8 0))⟩])
   .ret) (.seq (.line [⟨(some 8), none, .move (.t 0)⟩, ⟨(some 9), none, .bin .eql (some .int) (.t 8) (.c (.int .i32 32))⟩, ⟨(some 7), none, .move (.t 9)⟩])
   (.cond (.t 7) (.seq (.line [⟨(some 2), none, .move (.c (.int .u8 1))⟩])
    .ret) (.seq (.line [⟨(some 11), none, .move (.t 0)⟩, ⟨(some 12), none, .bin .geq none (.t 11) (.c (.int .i32 48))⟩, ⟨(some 13), none, .move (.t 12)⟩, ⟨(some 14), (some (13, true)), .move (.t 0)⟩, ⟨(some 15), (some (13, true)), .bin .leq none (.t 14) (.c (.int .i32 57))⟩, ⟨(some 16), none, .pick (.t 13) (.t 15) (.c (.bool false))⟩, ⟨(some 10), none, .move (.t 16)⟩])
    (.cond (.t 10) (.seq (.line [⟨(some 2), none, .move (.c (.int .u8 2))⟩])
     .ret) (.seq (.line [⟨(some 18), none, .move (.t 0)⟩, ⟨(some 19), none, .bin .geq none (.t 18) (.c (.int .i32 65))⟩, ⟨(some 20), none, .move (.t 19)⟩, ⟨(some 21), (some (20, true)), .move (.t 0)⟩, ⟨(some 22), (some (20, true)), .bin .leq none (.t 21) (.c (.int .i32 90))⟩, ⟨(some 23), none, .pick (.t 20) (.t 22) (.c (.bool false))⟩, ⟨(some 24), none, .move (.t 23)⟩, ⟨(some 25), (some (24, false)), .move (.t 0)⟩, ⟨(some 26), (some (24, false)), .bin .geq none (.t 25) (.c (.int .i32 97))⟩, ⟨(some 27), (some (24, false)), .move (.t 26)⟩, ⟨(some 28), (some (27, true)), .move (.t 0)⟩, ⟨(some 29), (some (27, true)), .bin .leq none (.t 28) (.c (.int .i32 122))⟩, ⟨(some 30), (some (24, false)), .pick (.t 27) (.t 29) (.c (.bool false))⟩, ⟨(some 31), none, .pick (.t 24) (.c (.bool true)) (.t 30)⟩, ⟨(some 32), none, .move (.t 31)⟩, ⟨(some 33), (some (32, false)), .move (.t 0)⟩, ⟨(some 34), (some (32, false)), .call (.c (.func (.func 85) #[] #[])) [(.t 33), (.c (.string ⟨#[195, 128, 195, 129, 195, 130, 195, 131, 195, 132, 195, 133, 195, 134, 195, 135, 195, 136, 195, 137, 195, 138, 195, 139, 195, 140, 195, 141, 195, 142, 195, 143, 195, 145, 195, 146, 195, 147, 195, 148, 195, 149, 195, 150, 195, 152, 195, 153, 195, 154, 195, 155, 195, 156, 195, 159, 195, 160, 195, 161, 195, 162, 195, 163, 195, 164, 195, 165, 195, 166, 195, 167, 195, 168, 195, 169, 195, 170, 195, 171, 195, 172, 195, 173, 195, 174, 195, 175, 195, 177, 195, 178, 195, 179, 195, 180, 195, 181, 195, 182, 195, 184, 195, 185, 195, 186, 195, 187, 195, 188, 197, 146, 197, 147]⟩))]⟩, ⟨(some 35), none, .pick (.t 32) (.c (.bool true)) (.t 34)⟩, ⟨(some 17), none, .move (.t 35)⟩])
     (.cond (.t 17) (.seq (.line [⟨(some 2), none, .move (.c (.int .u8 3))⟩])
      .ret) (.seq (.line [⟨(some 37), none, .move (.t 0)⟩, ⟨(some 38), none, .call (.c (.func (.func 85) #[] #[])) [(.t 37), (.c (.string ⟨#[33, 34, 39, 40, 41, 44, 45, 46, 47, 58, 59, 63, 91, 93, 194, 161, 194, 171, 194, 187, 194, 191, 226, 128, 148, 226, 128, 152, 226, 128, 153, 226, 128, 156, 226, 128, 157, 226, 128, 166]⟩))]⟩, ⟨(some 36), none, .move (.t 38)⟩])
      (.cond (.t 36) (.seq (.line [⟨(some 2), none, .move (.c (.int .u8 4))⟩])
       .ret) (.seq (.line [⟨(some 40), none, .move (.t 0)⟩, ⟨(some 41), none, .bin .eql (some .int) (.t 40) (.c (.int .i32 9834))⟩, ⟨(some 39), none, .move (.t 41)⟩])
       (.cond (.t 39) (.seq (.line [⟨(some 2), none, .move (.c (.int .u8 6))⟩])
        .ret) .skip)))))))))))))
 (.seq (.line [⟨(some 2), none, .move (.c (.int .u8 5))⟩])
 .ret)))⟩
/-- slices.IndexFunc[[]string,string] -/
def g60 : GFun := ⟨19, [.tmp 4],
 (.seq (.line [⟨(some 4), none, .move (.c (.int .i64 0))⟩])
 (.seq (.seq (.line [⟨(some 6), none, .move (.t 0)⟩, ⟨(some 7), none, .len false (.t 6)⟩, ⟨(some 8), none, .move (.c (.int .i64 0))⟩])
 (.block 0 (.loop (.seq (.line [⟨(some 9), none, .bin .lss none (.t 8) (.t 7)⟩])
   (.seq (.cond (.t 9) .skip (.exit 0))
   (.seq (.block 1 (.seq (.line [⟨(some 10), none, .move (.t 8)⟩, ⟨(some 5), none, .move (.t 10)⟩])
    (.seq (.line [⟨(some 11), none, .move (.t 1)⟩, ⟨(some 12), none, .move (.t 0)⟩, ⟨(some 13), none, .move (.t 5)⟩, ⟨(some 14), none, .ia none 1 (.t 12) (.t 13)⟩, ⟨(some 15), none, .load none (.t 14)⟩, ⟨(some 16), none, .call (.t 11) [(.t 15)]⟩])
    (.cond (.t 16) (.seq (.line [⟨(some 17), none, .move (.t 5)⟩, ⟨(some 4), none, .move (.t 17)⟩])
     .ret) .skip))))
   (.line [⟨(some 18), none, .bin .add none (.t 8) (.c (.int .i64 1))⟩, ⟨(some 8), none, .move (.t 18)⟩])))))))
 (.seq (.line [⟨(some 4), none, .move (.c (.int .i64 (-1)))⟩])
 .ret)))⟩
/-- captioner/charset.place -/
def g61 : GFun := ⟨19, [.tmp 4],
 (.seq (.line [⟨(some 4), none, .move (.c (.int .i64 0))⟩])
 (.seq (.line [⟨(some 5), none, .move (.c (.int .i64 0))⟩])
 (.seq (.seq (.line [⟨(some 8), none, .move (.t 0)⟩, ⟨(some 9), none, .rng (.t 8)⟩])
 (.block 0 (.loop (.seq (.line [⟨(some 10), none, .next (.t 9)⟩, ⟨(some 11), none, .ext (.t 10) 0⟩])
   (.seq (.cond (.t 11) .skip (.exit 0))
   (.block 1 (.seq (.line [⟨(some 12), none, .ext (.t 10) 2⟩, ⟨(some 7), none, .move (.t 12)⟩])
    (.seq (.seq (.line [⟨(some 13), none, .move (.t 7)⟩, ⟨(some 14), none, .move (.t 1)⟩, ⟨(some 15), none, .bin .eql (some .int) (.t 13) (.t 14)⟩])
    (.cond (.t 15) (.seq (.line [⟨(some 16), none, .move (.t 5)⟩, ⟨(some 4), none, .move (.t 16)⟩])
     .ret) .skip))
    (.line [⟨(some 17), none, .move (.t 5)⟩, ⟨(some 18), none, .bin .add none (.t 17) (.c (.int .i64 1))⟩, ⟨(some 5), none, .move (.t 18)⟩])))))))))
 (.seq (.line [⟨(some 4), none, .move (.c (.int .i64 (-1)))⟩])
 .ret))))⟩

/-- captioner/lines.fields -/
def g63 : GFun := ⟨68, [.tmp 2, .tmp 3],
 (.seq (.line [⟨(some 2), none, .move (.c (.slice none 0 0))⟩, ⟨(some 3), none, .move (.c (.int .i64 0))⟩])
 (.seq (.line [⟨(some 4), none, .move (.c (.slice none 0 0))⟩])
 (.seq (.seq (.line [⟨(some 5), none, .move (.c (.int .i64 0))⟩])
 (.block 0 (.loop (.seq (.seq (.line [⟨(some 9), none, .move (.t 5)⟩, ⟨(some 10), none, .move (.t 0)⟩, ⟨(some 11), none, .len true (.t 10)⟩, ⟨(some 12), none, .bin .lss none (.t 9) (.t 11)⟩])
   (.cond (.t 12) .skip (.exit 0)))
   (.block 1 (.seq (.seq (.line [⟨(some 13), none, .move (.t 0)⟩, ⟨(some 14), none, .move (.t 5)⟩, ⟨(some 15), none, .ix none (.t 13) (.t 14)⟩, ⟨(some 16), none, .bin .eql (some .int) (.t 15) (.c (.int .u8 32))⟩])
    (.cond (.t 16) (.seq (.line [⟨(some 17), none, .move (.t 5)⟩, ⟨(some 18), none, .bin .add none (.t 17) (.c (.int .i64 1))⟩, ⟨(some 5), none, .move (.t 18)⟩])
     (.exit 1)) .skip))
    (.seq (.seq (.line [⟨(some 19), none, .move (.t 0)⟩, ⟨(some 20), none, .move (.t 5)⟩, ⟨(some 21), none, .ix none (.t 19) (.t 20)⟩, ⟨(some 22), none, .bin .eql (some .int) (.t 21) (.c (.int .u8 35))⟩])
    (.cond (.t 22) (.exit 0) .skip))
    (.seq (.line [⟨(some 23), none, .move (.t 5)⟩, ⟨(some 24), none, .bin .add none (.t 23) (.c (.int .i64 1))⟩, ⟨(some 25), none, .build [(.string ⟨#[]⟩), (.int .i64 0), (.bool false)] [(1, 1, (.t 24))]⟩, ⟨(some 6), none, .alloc 0 [(.string ⟨#[]⟩), (.int .i64 0), (.bool false)]⟩, ⟨none, none, .store (some 3) (.t 6) (.t 25)⟩])
    (.seq (.line [⟨(some 7), none, .move (.c (.int .i64 0))⟩, ⟨(some 8), none, .move (.c (.int .i64 0))⟩])
    (.seq (.seq (.line [⟨(some 26), none, .move (.t 0)⟩, ⟨(some 27), none, .move (.t 5)⟩, ⟨(some 28), none, .ix none (.t 26) (.t 27)⟩, ⟨(some 29), none, .bin .eql (some .int) (.t 28) (.c (.int .u8 34))⟩])
    (.cond (.t 29) (.seq (.line [⟨(some 30), none, .fa 2 (.t 6)⟩, ⟨none, none, .store none (.t 30) (.c (.bool true))⟩])
     (.line [⟨(some 32), none, .move (.t 0)⟩, ⟨(some 33), none, .move (.t 5)⟩, ⟨(some 34), none, .slice .str (.t 32) (some (.t 33)) none none⟩, ⟨(some 35), none, .call (.c (.func (.func 87) #[] #[])) [(.t 34)]⟩, ⟨(some 31), none, .move (.t 35)⟩, ⟨(some 36), none, .ext (.t 31) 0⟩, ⟨(some 37), none, .ext (.t 31) 1⟩, ⟨(some 38), none, .ext (.t 31) 2⟩, ⟨(some 39), none, .fa 0 (.t 6)⟩, ⟨none, none, .store none (.t 39) (.t 36)⟩, ⟨(some 7), none, .move (.t 37)⟩, ⟨(some 8), none, .move (.t 38)⟩])) (.seq (.line [⟨(some 41), none, .move (.t 0)⟩, ⟨(some 42), none, .move (.t 5)⟩, ⟨(some 43), none, .slice .str (.t 41) (some (.t 42)) none none⟩, ⟨(some 44), none, .call (.c (.func (.func 88) #[] #[])) [(.t 43)]⟩, ⟨(some 40), none, .move (.t 44)⟩, ⟨(some 45), none, .ext (.t 40) 0⟩, ⟨(some 46), none, .ext (.t 40) 1⟩, ⟨(some 7), none, .move (.t 45)⟩, ⟨(some 8), none, .move (.t 46)⟩])
     (.line [⟨(some 47), none, .move (.t 0)⟩, ⟨(some 48), none, .move (.t 5)⟩, ⟨(some 49), none, .move (.t 5)⟩, ⟨(some 50), none, .move (.t 7)⟩, ⟨(some 51), none, .bin .add none (.t 49) (.t 50)⟩, ⟨(some 52), none, .slice .str (.t 47) (some (.t 48)) (some (.t 51)) none⟩, ⟨(some 53), none, .fa 0 (.t 6)⟩, ⟨none, none, .store none (.t 53) (.t 52)⟩]))))
    (.seq (.seq (.line [⟨(some 54), none, .move (.t 8)⟩, ⟨(some 55), none, .bin .geq none (.t 54) (.c (.int .i64 0))⟩])
    (.cond (.t 55) (.seq (.line [⟨(some 56), none, .move (.t 5)⟩, ⟨(some 57), none, .move (.t 8)⟩, ⟨(some 58), none, .bin .add none (.t 56) (.t 57)⟩, ⟨(some 59), none, .bin .add none (.t 58) (.c (.int .i64 1))⟩, ⟨(some 2), none, .move (.c (.slice none 0 0))⟩, ⟨(some 3), none, .move (.t 59)⟩])
     .ret) .skip))
    (.seq (.line [⟨(some 60), none, .move (.t 4)⟩, ⟨(some 61), none, .load (some 3) (.t 6)⟩, ⟨(some 62), none, .buildSl 3 1 [(.string ⟨#[]⟩), (.int .i64 0), (.bool false)] [(0, 3, (.t 61))]⟩, ⟨(some 63), none, .app 3 32 3 (.t 60) (.t 62)⟩, ⟨(some 4), none, .move (.t 63)⟩])
    (.line [⟨(some 64), none, .move (.t 5)⟩, ⟨(some 65), none, .move (.t 7)⟩, ⟨(some 66), none, .bin .add none (.t 64) (.t 65)⟩, ⟨(some 5), none, .move (.t 66)⟩])))))))))))))
 (.seq (.line [⟨(some 67), none, .move (.t 4)⟩, ⟨(some 2), none, .move (.t 67)⟩, ⟨(some 3), none, .move (.c (.int .i64 0))⟩])
 .ret))))⟩
/-- (*captioner/lines.Scanner).take -/
def g64 : GFun := ⟨55, [.tmp 4, .tmp 5],
 (.seq (.line [⟨(some 4), none, .move (.c (.string ⟨#[]⟩))⟩, ⟨(some 5), none, .move (.c (.bool false))⟩])
 (.seq (.seq (.line [⟨(some 7), none, .move (.t 0)⟩, ⟨(some 8), none, .call (.c (.func (.func 65) #[] #[])) [(.t 7)]⟩])
 (.cond (.t 8) (.seq (.line [⟨(some 4), none, .move (.c (.string ⟨#[]⟩))⟩, ⟨(some 5), none, .move (.c (.bool false))⟩])
  .ret) .skip))
 (.seq (.seq (.any [] [⟨(some 9), none, .move (.t 0)⟩, ⟨(some 10), none, .nilc (.t 9)⟩, ⟨(some 11), none, .fa 2 (.t 10)⟩, ⟨(some 12), none, .load none (.t 11)⟩, ⟨(some 13), none, .move (.t 0)⟩, ⟨(some 14), none, .nilc (.t 13)⟩, ⟨(some 15), none, .fa 0 (.t 14)⟩, ⟨(some 16), none, .fa 1 (.t 15)⟩, ⟨(some 17), none, .load none (.t 16)⟩, ⟨(some 18), none, .len false (.t 17)⟩, ⟨(some 19), none, .bin .eql (some .int) (.t 12) (.t 18)⟩] [])
 (.cond (.t 19) (.seq (.line [⟨(some 20), none, .move (.t 0)⟩, ⟨(some 21), none, .call (.c (.func (.func 89) #[] #[])) [(.t 20), (.c (.int .i64 0)), (.c (.int .i64 4))]⟩])
  (.seq (.line [⟨(some 4), none, .move (.c (.string ⟨#[]⟩))⟩, ⟨(some 5), none, .move (.c (.bool false))⟩])
  .ret)) .skip))
 (.seq (.any [] [⟨(some 22), none, .move (.t 0)⟩, ⟨(some 23), none, .nilc (.t 22)⟩, ⟨(some 24), none, .fa 0 (.t 23)⟩, ⟨(some 25), none, .fa 1 (.t 24)⟩, ⟨(some 26), none, .load none (.t 25)⟩, ⟨(some 27), none, .move (.t 0)⟩, ⟨(some 28), none, .nilc (.t 27)⟩, ⟨(some 29), none, .fa 2 (.t 28)⟩, ⟨(some 30), none, .load none (.t 29)⟩, ⟨(some 31), none, .ia none 3 (.t 26) (.t 30)⟩, ⟨(some 32), none, .load (some 3) (.t 31)⟩, ⟨(some 6), none, .alloc 0 [(.string ⟨#[]⟩), (.int .i64 0), (.bool false)]⟩] [(false, ⟨none, none, .store (some 3) (.t 6) (.t 32)⟩)])
 (.seq (.seq (.line [⟨(some 33), none, .fa 2 (.t 6)⟩, ⟨(some 34), none, .load none (.t 33)⟩, ⟨(some 35), none, .move (.t 1)⟩, ⟨(some 36), none, .bin .neq (some .bool) (.t 34) (.t 35)⟩])
 (.cond (.t 36) (.seq (.line [⟨(some 37), none, .move (.t 0)⟩, ⟨(some 38), none, .fa 1 (.t 6)⟩, ⟨(some 39), none, .load none (.t 38)⟩, ⟨(some 40), none, .call (.c (.func (.func 89) #[] #[])) [(.t 37), (.t 39), (.c (.int .i64 4))]⟩])
  (.seq (.line [⟨(some 4), none, .move (.c (.string ⟨#[]⟩))⟩, ⟨(some 5), none, .move (.c (.bool false))⟩])
  .ret)) .skip))
 (.seq (.line [⟨(some 41), none, .move (.t 0)⟩, ⟨(some 42), none, .nilc (.t 41)⟩, ⟨(some 43), none, .fa 2 (.t 42)⟩, ⟨(some 44), none, .load none (.t 43)⟩, ⟨(some 45), none, .bin .add none (.t 44) (.c (.int .i64 1))⟩, ⟨(some 46), none, .nilc (.t 41)⟩, ⟨(some 47), none, .fa 2 (.t 46)⟩, ⟨none, none, .store none (.t 47) (.t 45)⟩])
 (.seq (.line [⟨(some 48), none, .move (.t 0)⟩, ⟨(some 49), none, .fa 1 (.t 6)⟩, ⟨(some 50), none, .load none (.t 49)⟩, ⟨(some 51), none, .nilc (.t 48)⟩, ⟨(some 52), none, .fa 3 (.t 51)⟩, ⟨none, none, .store none (.t 52) (.t 50)⟩])
 (.seq (.line [⟨(some 53), none, .fa 0 (.t 6)⟩, ⟨(some 54), none, .load none (.t 53)⟩, ⟨(some 4), none, .move (.t 54)⟩, ⟨(some 5), none, .move (.c (.bool true))⟩])
 .ret))))))))⟩
/-- (*captioner/lines.Scanner).done -/
def g65 : GFun := ⟨13, [.tmp 2],
 (.seq (.line [⟨(some 2), none, .move (.c (.bool false))⟩])
 (.seq (.line [⟨(some 3), none, .move (.t 0)⟩, ⟨(some 4), none, .bin .eql (some .ptr) (.t 3) (.c (.pointer none))⟩, ⟨(some 5), none, .move (.t 4)⟩, ⟨(some 6), (some (5, false)), .move (.t 0)⟩, ⟨(some 7), (some (5, false)), .nilc (.t 6)⟩, ⟨(some 8), (some (5, false)), .fa 4 (.t 7)⟩, ⟨(some 9), (some (5, false)), .fa 2 (.t 8)⟩, ⟨(some 10), (some (5, false)), .load none (.t 9)⟩, ⟨(some 11), (some (5, false)), .bin .neq (some .int) (.t 10) (.c (.int .i64 0))⟩, ⟨(some 12), none, .pick (.t 5) (.c (.bool true)) (.t 11)⟩, ⟨(some 2), none, .move (.t 12)⟩])
 .ret))⟩
/-- slices.ContainsFunc[[]captioner/api.Term,captioner/api.Term] -/
def g66 : GFun := ⟨9, [.tmp 4],
 (.seq (.line [⟨(some 4), none, .move (.c (.bool false))⟩])
 (.seq (.line [⟨(some 5), none, .move (.t 0)⟩, ⟨(some 6), none, .move (.t 1)⟩, ⟨(some 7), none, .call (.c (.func (.func 90) #[] #[])) [(.t 5), (.t 6)]⟩, ⟨(some 8), none, .bin .geq none (.t 7) (.c (.int .i64 0))⟩, ⟨(some 4), none, .move (.t 8)⟩])
 .ret))⟩
/-- captioner/glossary.Check$1 -/
def g67 : GFun := ⟨9, [.tmp 3],
 (.seq (.line [⟨(some 2), none, .box (.t 0)⟩, ⟨(some 3), none, .move (.c (.bool false))⟩])
 (.seq (.line [⟨(some 4), none, .fa 0 (.t 2)⟩, ⟨(some 5), none, .load none (.t 4)⟩, ⟨(some 6), none, .fa 0 (.t 1)⟩, ⟨(some 7), none, .load none (.t 6)⟩, ⟨(some 8), none, .call (.c (.func (.func 68) #[] #[])) [(.t 5), (.t 7)]⟩, ⟨(some 3), none, .move (.t 8)⟩])
 .ret))⟩
/-- captioner/glossary.alike -/
def g68 : GFun := ⟨18, [.tmp 4],
 (.seq (.line [⟨(some 4), none, .move (.c (.bool false))⟩])
 (.seq (.line [⟨(some 5), none, .move (.t 0)⟩, ⟨(some 6), none, .call (.c (.func (.func 21) #[] #[])) [(.t 5)]⟩, ⟨(some 7), none, .move (.t 6)⟩, ⟨(some 8), (some (7, true)), .move (.t 1)⟩, ⟨(some 9), (some (7, true)), .call (.c (.func (.func 21) #[] #[])) [(.t 8)]⟩, ⟨(some 10), none, .pick (.t 7) (.t 9) (.c (.bool false))⟩, ⟨(some 11), none, .move (.t 10)⟩, ⟨(some 12), (some (11, true)), .move (.t 0)⟩, ⟨(some 13), (some (11, true)), .call (.c (.func (.func 23) #[] #[])) [(.t 12)]⟩, ⟨(some 14), (some (11, true)), .move (.t 1)⟩, ⟨(some 15), (some (11, true)), .call (.c (.func (.func 23) #[] #[])) [(.t 14)]⟩, ⟨(some 16), (some (11, true)), .bin .eql (some .str) (.t 13) (.t 15)⟩, ⟨(some 17), none, .pick (.t 11) (.t 16) (.c (.bool false))⟩, ⟨(some 4), none, .move (.t 17)⟩])
 .ret))⟩
/-- captioner/glossary.like -/
def g69 : GFun := ⟨8, [.tmp 4],
 (.seq (.line [⟨(some 3), none, .box (.t 1)⟩, ⟨(some 4), none, .move (.c (.bool false))⟩])
 (.seq (.line [⟨(some 5), none, .move (.t 0)⟩, ⟨(some 6), none, .fn 91 [] [(.t 3)]⟩, ⟨(some 7), none, .call (.c (.func (.func 31) #[] #[])) [(.t 5), (.t 6)]⟩, ⟨(some 4), none, .move (.t 7)⟩])
 .ret))⟩
/-- captioner/captionerref07.fields -/
def g70 : GFun := ⟨84, [.tmp 2, .tmp 3],
 (.seq (.line [⟨(some 2), none, .move (.c (.slice none 0 0))⟩, ⟨(some 3), none, .move (.c (.int .i64 0))⟩])
 (.seq (.line [⟨(some 4), none, .move (.c (.slice none 0 0))⟩])
 (.seq (.line [⟨(some 5), none, .move (.c (.int .i64 0))⟩])
 (.block 0 (.loop (.block 1 (.seq (.block 2 (.loop (.seq (.seq (.line [⟨(some 10), none, .move (.t 5)⟩, ⟨(some 11), none, .move (.t 0)⟩, ⟨(some 12), none, .len true (.t 11)⟩, ⟨(some 13), none, .bin .lss none (.t 10) (.t 12)⟩, ⟨(some 14), none, .move (.t 13)⟩, ⟨(some 15), (some (14, true)), .move (.t 0)⟩, ⟨(some 16), (some (14, true)), .move (.t 5)⟩, ⟨(some 17), (some (14, true)), .ix none (.t 15) (.t 16)⟩, ⟨(some 18), (some (14, true)), .bin .eql (some .int) (.t 17) (.c (.int .u8 32))⟩, ⟨(some 19), none, .pick (.t 14) (.t 18) (.c (.bool false))⟩])
      (.cond (.t 19) .skip (.exit 2)))
      (.block 3 (.line [⟨(some 20), none, .move (.t 5)⟩, ⟨(some 21), none, .bin .add none (.t 20) (.c (.int .i64 1))⟩, ⟨(some 5), none, .move (.t 21)⟩])))))
    (.seq (.seq (.line [⟨(some 22), none, .move (.t 5)⟩, ⟨(some 23), none, .move (.t 0)⟩, ⟨(some 24), none, .len true (.t 23)⟩, ⟨(some 25), none, .bin .geq none (.t 22) (.t 24)⟩, ⟨(some 26), none, .move (.t 25)⟩, ⟨(some 27), (some (26, false)), .move (.t 0)⟩, ⟨(some 28), (some (26, false)), .move (.t 5)⟩, ⟨(some 29), (some (26, false)), .ix none (.t 27) (.t 28)⟩, ⟨(some 30), (some (26, false)), .bin .eql (some .int) (.t 29) (.c (.int .u8 35))⟩, ⟨(some 31), none, .pick (.t 26) (.c (.bool true)) (.t 30)⟩])
    (.cond (.t 31) (.seq (.line [⟨(some 32), none, .move (.t 4)⟩, ⟨(some 2), none, .move (.t 32)⟩, ⟨(some 3), none, .move (.c (.int .i64 (-1)))⟩])
     .ret) .skip))
    (.seq (.line [⟨(some 33), none, .move (.t 5)⟩, ⟨(some 6), none, .move (.t 33)⟩])
    (.seq (.seq (.line [⟨(some 34), none, .move (.t 0)⟩, ⟨(some 35), none, .move (.t 5)⟩, ⟨(some 36), none, .ix none (.t 34) (.t 35)⟩, ⟨(some 37), none, .bin .eql (some .int) (.t 36) (.c (.int .u8 34))⟩])
    (.cond (.t 37) (.seq (.line [⟨(some 39), none, .move (.t 0)⟩, ⟨(some 40), none, .move (.t 5)⟩, ⟨(some 41), none, .call (.c (.func (.func 92) #[] #[])) [(.t 39), (.t 40)]⟩, ⟨(some 38), none, .move (.t 41)⟩, ⟨(some 42), none, .ext (.t 38) 0⟩, ⟨(some 43), none, .ext (.t 38) 1⟩, ⟨(some 44), none, .ext (.t 38) 2⟩, ⟨(some 7), none, .move (.t 42)⟩, ⟨(some 8), none, .move (.t 43)⟩, ⟨(some 9), none, .move (.t 44)⟩])
     (.seq (.seq (.line [⟨(some 45), none, .move (.t 9)⟩, ⟨(some 46), none, .bin .geq none (.t 45) (.c (.int .i64 0))⟩])
     (.cond (.t 46) (.seq (.line [⟨(some 47), none, .move (.t 9)⟩, ⟨(some 2), none, .move (.c (.slice none 0 0))⟩, ⟨(some 3), none, .move (.t 47)⟩])
      .ret) .skip))
     (.seq (.line [⟨(some 48), none, .move (.t 4)⟩, ⟨(some 49), none, .move (.t 7)⟩, ⟨(some 50), none, .move (.t 6)⟩, ⟨(some 51), none, .bin .add none (.t 50) (.c (.int .i64 1))⟩, ⟨(some 52), none, .build [(.string ⟨#[]⟩), (.int .i64 0), (.bool false)] [(0, 1, (.t 49)), (1, 1, (.t 51)), (2, 1, (.c (.bool true)))]⟩, ⟨(some 53), none, .buildSl 3 1 [(.string ⟨#[]⟩), (.int .i64 0), (.bool false)] [(0, 3, (.t 52))]⟩, ⟨(some 54), none, .app 3 32 3 (.t 48) (.t 53)⟩, ⟨(some 4), none, .move (.t 54)⟩])
     (.seq (.line [⟨(some 55), none, .move (.t 8)⟩, ⟨(some 5), none, .move (.t 55)⟩])
     (.exit 1))))) .skip))
    (.seq (.block 4 (.loop (.seq (.seq (.line [⟨(some 56), none, .move (.t 5)⟩, ⟨(some 57), none, .move (.t 0)⟩, ⟨(some 58), none, .len true (.t 57)⟩, ⟨(some 59), none, .bin .lss none (.t 56) (.t 58)⟩, ⟨(some 60), none, .move (.t 59)⟩, ⟨(some 61), (some (60, true)), .move (.t 0)⟩, ⟨(some 62), (some (60, true)), .move (.t 5)⟩, ⟨(some 63), (some (60, true)), .ix none (.t 61) (.t 62)⟩, ⟨(some 64), (some (60, true)), .bin .neq (some .int) (.t 63) (.c (.int .u8 32))⟩, ⟨(some 65), none, .pick (.t 60) (.t 64) (.c (.bool false))⟩])
      (.cond (.t 65) .skip (.exit 4)))
      (.block 5 (.seq (.seq (.line [⟨(some 66), none, .move (.t 0)⟩, ⟨(some 67), none, .move (.t 5)⟩, ⟨(some 68), none, .ix none (.t 66) (.t 67)⟩, ⟨(some 69), none, .call (.c (.func (.func 93) #[] #[])) [(.t 68)]⟩, ⟨(some 70), none, .un .not (.t 69)⟩])
       (.cond (.t 70) (.seq (.line [⟨(some 71), none, .move (.t 5)⟩, ⟨(some 2), none, .move (.c (.slice none 0 0))⟩, ⟨(some 3), none, .move (.t 71)⟩])
        .ret) .skip))
       (.line [⟨(some 72), none, .move (.t 5)⟩, ⟨(some 73), none, .bin .add none (.t 72) (.c (.int .i64 1))⟩, ⟨(some 5), none, .move (.t 73)⟩]))))))
    (.line [⟨(some 74), none, .move (.t 4)⟩, ⟨(some 75), none, .move (.t 0)⟩, ⟨(some 76), none, .move (.t 6)⟩, ⟨(some 77), none, .move (.t 5)⟩, ⟨(some 78), none, .slice .str (.t 75) (some (.t 76)) (some (.t 77)) none⟩, ⟨(some 79), none, .move (.t 6)⟩, ⟨(some 80), none, .bin .add none (.t 79) (.c (.int .i64 1))⟩, ⟨(some 81), none, .build [(.string ⟨#[]⟩), (.int .i64 0), (.bool false)] [(0, 1, (.t 78)), (1, 1, (.t 80))]⟩, ⟨(some 82), none, .buildSl 3 1 [(.string ⟨#[]⟩), (.int .i64 0), (.bool false)] [(0, 3, (.t 81))]⟩, ⟨(some 83), none, .app 3 32 3 (.t 74) (.t 82)⟩, ⟨(some 4), none, .move (.t 83)⟩]))))))))))))⟩
/-- (*captioner/captionerref07.Scanner).take -/
def g71 : GFun := ⟨51, [.cell 4 (some 3), .tmp 5],
 (.seq (.line [⟨(some 4), none, .alloc 0 [(.string ⟨#[]⟩), (.int .i64 0), (.bool false)]⟩, ⟨(some 5), none, .move (.c (.bool false))⟩])
 (.seq (.seq (.line [⟨(some 7), none, .move (.t 0)⟩, ⟨(some 8), none, .bin .eql (some .ptr) (.t 7) (.c (.pointer none))⟩, ⟨(some 9), none, .move (.t 8)⟩, ⟨(some 10), (some (9, false)), .move (.t 0)⟩, ⟨(some 11), (some (9, false)), .nilc (.t 10)⟩, ⟨(some 12), (some (9, false)), .fa 3 (.t 11)⟩, ⟨(some 13), (some (9, false)), .load none (.t 12)⟩, ⟨(some 14), (some (9, false)), .bin .neq (some .int) (.t 13) (.c (.int .i64 0))⟩, ⟨(some 15), none, .pick (.t 9) (.c (.bool true)) (.t 14)⟩])
 (.cond (.t 15) (.seq (.line [⟨(some 16), none, .build [(.string ⟨#[]⟩), (.int .i64 0), (.bool false)] []⟩, ⟨none, none, .store (some 3) (.t 4) (.t 16)⟩, ⟨(some 5), none, .move (.c (.bool false))⟩])
  .ret) .skip))
 (.seq (.seq (.line [⟨(some 17), none, .move (.t 0)⟩, ⟨(some 18), none, .call (.c (.func (.func 73) #[] #[])) [(.t 17)]⟩, ⟨(some 19), none, .bin .eql (some .int) (.t 18) (.c (.int .i64 0))⟩])
 (.cond (.t 19) (.seq (.line [⟨(some 20), none, .move (.t 0)⟩, ⟨(some 21), none, .call (.c (.func (.func 94) #[] #[])) [(.t 20), (.c (.int .i64 4)), (.c (.int .i64 0))]⟩])
  (.seq (.line [⟨(some 22), none, .build [(.string ⟨#[]⟩), (.int .i64 0), (.bool false)] []⟩, ⟨none, none, .store (some 3) (.t 4) (.t 22)⟩, ⟨(some 5), none, .move (.c (.bool false))⟩])
  .ret)) .skip))
 (.seq (.any [] [⟨(some 23), none, .move (.t 0)⟩, ⟨(some 24), none, .nilc (.t 23)⟩, ⟨(some 25), none, .fa 0 (.t 24)⟩, ⟨(some 26), none, .fa 1 (.t 25)⟩, ⟨(some 27), none, .load none (.t 26)⟩, ⟨(some 28), none, .move (.t 0)⟩, ⟨(some 29), none, .nilc (.t 28)⟩, ⟨(some 30), none, .fa 2 (.t 29)⟩, ⟨(some 31), none, .load none (.t 30)⟩, ⟨(some 32), none, .ia none 3 (.t 27) (.t 31)⟩, ⟨(some 33), none, .load (some 3) (.t 32)⟩, ⟨(some 6), none, .alloc 0 [(.string ⟨#[]⟩), (.int .i64 0), (.bool false)]⟩] [(false, ⟨none, none, .store (some 3) (.t 6) (.t 33)⟩)])
 (.seq (.seq (.line [⟨(some 34), none, .fa 2 (.t 6)⟩, ⟨(some 35), none, .load none (.t 34)⟩, ⟨(some 36), none, .move (.t 1)⟩, ⟨(some 37), none, .bin .neq (some .bool) (.t 35) (.t 36)⟩])
 (.cond (.t 37) (.seq (.line [⟨(some 38), none, .move (.t 0)⟩, ⟨(some 39), none, .fa 1 (.t 6)⟩, ⟨(some 40), none, .load none (.t 39)⟩, ⟨(some 41), none, .call (.c (.func (.func 94) #[] #[])) [(.t 38), (.c (.int .i64 4)), (.t 40)]⟩])
  (.seq (.line [⟨(some 42), none, .build [(.string ⟨#[]⟩), (.int .i64 0), (.bool false)] []⟩, ⟨none, none, .store (some 3) (.t 4) (.t 42)⟩, ⟨(some 5), none, .move (.c (.bool false))⟩])
  .ret)) .skip))
 (.seq (.line [⟨(some 43), none, .move (.t 0)⟩, ⟨(some 44), none, .nilc (.t 43)⟩, ⟨(some 45), none, .fa 2 (.t 44)⟩, ⟨(some 46), none, .load none (.t 45)⟩, ⟨(some 47), none, .bin .add none (.t 46) (.c (.int .i64 1))⟩, ⟨(some 48), none, .nilc (.t 43)⟩, ⟨(some 49), none, .fa 2 (.t 48)⟩, ⟨none, none, .store none (.t 49) (.t 47)⟩])
 (.seq (.line [⟨(some 50), none, .load (some 3) (.t 6)⟩, ⟨none, none, .store (some 3) (.t 4) (.t 50)⟩, ⟨(some 5), none, .move (.c (.bool true))⟩])
 .ret)))))))⟩
/-- (*captioner/captionerref07.Scanner).Quoted -/
def g72 : GFun := ⟨12, [.tmp 2],
 (.seq (.line [⟨(some 2), none, .move (.c (.string ⟨#[]⟩))⟩])
 (.seq (.line [⟨(some 6), none, .move (.t 0)⟩, ⟨(some 7), none, .call (.c (.func (.func 71) #[] #[])) [(.t 6), (.c (.bool true))]⟩, ⟨(some 5), none, .move (.t 7)⟩, ⟨(some 8), none, .ext (.t 5) 0⟩, ⟨(some 9), none, .ext (.t 5) 1⟩, ⟨(some 3), none, .alloc 0 [(.string ⟨#[]⟩), (.int .i64 0), (.bool false)]⟩, ⟨none, none, .store (some 3) (.t 3) (.t 8)⟩, ⟨(some 4), none, .move (.t 9)⟩])
 (.seq (.line [⟨(some 10), none, .fa 0 (.t 3)⟩, ⟨(some 11), none, .load none (.t 10)⟩, ⟨(some 2), none, .move (.t 11)⟩])
 .ret)))⟩
/-- (*captioner/captionerref07.Scanner).Left -/
def g73 : GFun := ⟨23, [.tmp 2],
 (.seq (.line [⟨(some 2), none, .move (.c (.int .i64 0))⟩])
 (.seq (.seq (.line [⟨(some 3), none, .move (.t 0)⟩, ⟨(some 4), none, .bin .eql (some .ptr) (.t 3) (.c (.pointer none))⟩, ⟨(some 5), none, .move (.t 4)⟩, ⟨(some 6), (some (5, false)), .move (.t 0)⟩, ⟨(some 7), (some (5, false)), .nilc (.t 6)⟩, ⟨(some 8), (some (5, false)), .fa 3 (.t 7)⟩, ⟨(some 9), (some (5, false)), .load none (.t 8)⟩, ⟨(some 10), (some (5, false)), .bin .neq (some .int) (.t 9) (.c (.int .i64 0))⟩, ⟨(some 11), none, .pick (.t 5) (.c (.bool true)) (.t 10)⟩])
 (.cond (.t 11) (.seq (.line [⟨(some 2), none, .move (.c (.int .i64 0))⟩])
  .ret) .skip))
 (.seq (.any [] [⟨(some 12), none, .move (.t 0)⟩, ⟨(some 13), none, .nilc (.t 12)⟩, ⟨(some 14), none, .fa 0 (.t 13)⟩, ⟨(some 15), none, .fa 1 (.t 14)⟩, ⟨(some 16), none, .load none (.t 15)⟩, ⟨(some 17), none, .len false (.t 16)⟩, ⟨(some 18), none, .move (.t 0)⟩, ⟨(some 19), none, .nilc (.t 18)⟩, ⟨(some 20), none, .fa 2 (.t 19)⟩, ⟨(some 21), none, .load none (.t 20)⟩, ⟨(some 22), none, .bin .sub none (.t 17) (.t 21)⟩, ⟨(some 2), none, .move (.t 22)⟩] [])
 .ret)))⟩
/-- captioner/captionerref51.alike -/
def g74 : GFun := ⟨18, [.tmp 4],
 (.seq (.line [⟨(some 4), none, .move (.c (.bool false))⟩])
 (.seq (.line [⟨(some 5), none, .move (.t 0)⟩, ⟨(some 6), none, .call (.c (.func (.func 26) #[] #[])) [(.t 5)]⟩, ⟨(some 7), none, .move (.t 6)⟩, ⟨(some 8), (some (7, true)), .move (.t 1)⟩, ⟨(some 9), (some (7, true)), .call (.c (.func (.func 26) #[] #[])) [(.t 8)]⟩, ⟨(some 10), none, .pick (.t 7) (.t 9) (.c (.bool false))⟩, ⟨(some 11), none, .move (.t 10)⟩, ⟨(some 12), (some (11, true)), .move (.t 0)⟩, ⟨(some 13), (some (11, true)), .call (.c (.func (.func 29) #[] #[])) [(.t 12)]⟩, ⟨(some 14), (some (11, true)), .move (.t 1)⟩, ⟨(some 15), (some (11, true)), .call (.c (.func (.func 29) #[] #[])) [(.t 14)]⟩, ⟨(some 16), (some (11, true)), .bin .eql (some .str) (.t 13) (.t 15)⟩, ⟨(some 17), none, .pick (.t 11) (.t 16) (.c (.bool false))⟩, ⟨(some 4), none, .move (.t 17)⟩])
 .ret))⟩





/-- unicode/utf8.AppendRune -/
def g82 : GFun := ⟨16, [.tmp 4],
 (.seq (.line [⟨(some 4), none, .move (.c (.slice none 0 0))⟩])
 (.seq (.seq (.line [⟨(some 5), none, .move (.t 1)⟩, ⟨(some 6), none, .conv (.int .u32) (.t 5)⟩, ⟨(some 7), none, .bin .leq none (.t 6) (.c (.int .u32 127))⟩])
 (.cond (.t 7) (.seq (.line [⟨(some 8), none, .move (.t 0)⟩, ⟨(some 9), none, .move (.t 1)⟩, ⟨(some 10), none, .conv (.int .u8) (.t 9)⟩, ⟨(some 11), none, .buildSl 257 1 [(.int .u8 0)] [(0, 1, (.t 10))]⟩, ⟨(some 12), none, .app 1 1 257 (.t 8) (.t 11)⟩, ⟨(some 4), none, .move (.t 12)⟩])
  .ret) .skip))
 (.seq (.line [⟨(some 13), none, .move (.t 0)⟩, ⟨(some 14), none, .move (.t 1)⟩, ⟨(some 15), none, .call (.c (.func (.func 100) #[] #[])) [(.t 13), (.t 14)]⟩, ⟨(some 4), none, .move (.t 15)⟩])
 .ret)))⟩
/-- strings.ContainsRune -/
def g83 : GFun := ⟨9, [.tmp 4],
 (.seq (.line [⟨(some 4), none, .move (.c (.bool false))⟩])
 (.seq (.line [⟨(some 5), none, .move (.t 0)⟩, ⟨(some 6), none, .move (.t 1)⟩, ⟨(some 7), none, .call (.c (.func (.func 101) #[] #[])) [(.t 5), (.t 6)]⟩, ⟨(some 8), none, .bin .geq none (.t 7) (.c (.int .i64 0))⟩, ⟨(some 4), none, .move (.t 8)⟩])
 .ret))⟩
/-- captioner/captionerref08.Repertoire -/
def g84 : GFun := ⟨1, [.tmp 0],
 (.seq (.line [⟨(some 0), none, .move (.c (.string ⟨#[]⟩))⟩])
 (.seq (.line [⟨(some 0), none, .move (.c (.string ⟨#[32, 33, 34, 35, 36, 37, 38, 39, 40, 41, 42, 43, 44, 45, 46, 47, 48, 49, 50, 51, 52, 53, 54, 55, 56, 57, 58, 59, 60, 61, 62, 63, 64, 65, 66, 67, 68, 69, 70, 71, 72, 73, 74, 75, 76, 77, 78, 79, 80, 81, 82, 83, 84, 85, 86, 87, 88, 89, 90, 91, 92, 93, 94, 95, 96, 97, 98, 99, 100, 101, 102, 103, 104, 105, 106, 107, 108, 109, 110, 111, 112, 113, 114, 115, 116, 117, 118, 119, 120, 121, 122, 123, 124, 125, 126, 194, 161, 194, 162, 194, 163, 194, 164, 194, 165, 194, 166, 194, 167, 194, 169, 194, 171, 194, 174, 194, 176, 194, 183, 194, 187, 194, 189, 194, 191, 195, 128, 195, 129, 195, 130, 195, 131, 195, 132, 195, 133, 195, 134, 195, 135, 195, 136, 195, 137, 195, 138, 195, 139, 195, 140, 195, 141, 195, 142, 195, 143, 195, 145, 195, 146, 195, 147, 195, 148, 195, 149, 195, 150, 195, 152, 195, 153, 195, 154, 195, 155, 195, 156, 195, 159, 195, 160, 195, 161, 195, 162, 195, 163, 195, 164, 195, 165, 195, 166, 195, 167, 195, 168, 195, 169, 195, 170, 195, 171, 195, 172, 195, 173, 195, 174, 195, 175, 195, 177, 195, 178, 195, 179, 195, 180, 195, 181, 195, 182, 195, 184, 195, 185, 195, 186, 195, 187, 195, 188, 197, 146, 197, 147, 226, 128, 148, 226, 128, 152, 226, 128, 153, 226, 128, 156, 226, 128, 157, 226, 128, 162, 226, 128, 166, 226, 132, 162, 226, 153, 170]⟩))⟩])
 .ret))⟩
/-- captioner/captionerref08.in -/
def g85 : GFun := ⟨15, [.tmp 4],
 (.seq (.line [⟨(some 4), none, .move (.c (.bool false))⟩])
 (.seq (.seq (.line [⟨(some 7), none, .move (.t 1)⟩, ⟨(some 8), none, .rng (.t 7)⟩])
 (.block 0 (.loop (.seq (.line [⟨(some 9), none, .next (.t 8)⟩, ⟨(some 10), none, .ext (.t 9) 0⟩])
   (.seq (.cond (.t 10) .skip (.exit 0))
   (.block 1 (.seq (.line [⟨(some 11), none, .ext (.t 9) 2⟩, ⟨(some 6), none, .move (.t 11)⟩])
    (.seq (.line [⟨(some 12), none, .move (.t 6)⟩, ⟨(some 13), none, .move (.t 0)⟩, ⟨(some 14), none, .bin .eql (some .int) (.t 12) (.t 13)⟩])
    (.cond (.t 14) (.seq (.line [⟨(some 4), none, .move (.c (.bool true))⟩])
     .ret) .skip)))))))))
 (.seq (.line [⟨(some 4), none, .move (.c (.bool false))⟩])
 .ret)))⟩

/-- captioner/lines.quoted -/
def g87 : GFun := ⟨84, [.tmp 2, .tmp 3, .tmp 4],
 (.seq (.line [⟨(some 2), none, .move (.c (.string ⟨#[]⟩))⟩, ⟨(some 3), none, .move (.c (.int .i64 0))⟩, ⟨(some 4), none, .move (.c (.int .i64 0))⟩])
 (.seq (.line [⟨(some 5), none, .move (.c (.slice none 0 0))⟩])
 (.seq (.seq (.line [⟨(some 6), none, .move (.c (.int .i64 1))⟩])
 (.block 0 (.loop (.seq (.seq (.line [⟨(some 8), none, .move (.t 6)⟩, ⟨(some 9), none, .move (.t 0)⟩, ⟨(some 10), none, .len true (.t 9)⟩, ⟨(some 11), none, .bin .lss none (.t 8) (.t 10)⟩])
   (.cond (.t 11) .skip (.exit 0)))
   (.seq (.block 1 (.seq (.line [⟨(some 14), none, .move (.t 0)⟩, ⟨(some 15), none, .move (.t 6)⟩, ⟨(some 16), none, .ix none (.t 14) (.t 15)⟩, ⟨(some 7), none, .move (.t 16)⟩])
    (.block 2 (.seq (.line [⟨(some 22), none, .move (.t 7)⟩, ⟨(some 23), none, .bin .eql (some .int) (.t 22) (.c (.int .u8 34))⟩, ⟨(some 21), none, .move (.t 23)⟩])
     (.cond (.t 21) (.seq (.seq (.line [⟨(some 24), none, .move (.t 6)⟩, ⟨(some 25), none, .bin .add none (.t 24) (.c (.int .i64 1))⟩, ⟨(some 26), none, .move (.t 0)⟩, ⟨(some 27), none, .len true (.t 26)⟩, ⟨(some 28), none, .bin .lss none (.t 25) (.t 27)⟩, ⟨(some 29), none, .move (.t 28)⟩, ⟨(some 30), (some (29, true)), .move (.t 0)⟩, ⟨(some 31), (some (29, true)), .move (.t 6)⟩, ⟨(some 32), (some (29, true)), .bin .add none (.t 31) (.c (.int .i64 1))⟩, ⟨(some 33), (some (29, true)), .ix none (.t 30) (.t 32)⟩, ⟨(some 34), (some (29, true)), .bin .neq (some .int) (.t 33) (.c (.int .u8 32))⟩, ⟨(some 35), none, .pick (.t 29) (.t 34) (.c (.bool false))⟩])
      (.cond (.t 35) (.seq (.line [⟨(some 36), none, .move (.t 6)⟩, ⟨(some 37), none, .bin .add none (.t 36) (.c (.int .i64 1))⟩, ⟨(some 2), none, .move (.c (.string ⟨#[]⟩))⟩, ⟨(some 3), none, .move (.c (.int .i64 0))⟩, ⟨(some 4), none, .move (.t 37)⟩])
       .ret) .skip))
      (.seq (.line [⟨(some 38), none, .move (.t 5)⟩, ⟨(some 39), none, .conv .ofBytes (.t 38)⟩, ⟨(some 40), none, .move (.t 6)⟩, ⟨(some 41), none, .bin .add none (.t 40) (.c (.int .i64 1))⟩, ⟨(some 2), none, .move (.t 39)⟩, ⟨(some 3), none, .move (.t 41)⟩, ⟨(some 4), none, .move (.c (.int .i64 (-1)))⟩])
      .ret)) (.seq (.line [⟨(some 43), none, .move (.t 7)⟩, ⟨(some 44), none, .bin .eql (some .int) (.t 43) (.c (.int .u8 92))⟩, ⟨(some 42), none, .move (.t 44)⟩])
      (.cond (.t 42) (.seq (.seq (.line [⟨(some 45), none, .move (.t 6)⟩, ⟨(some 46), none, .bin .add none (.t 45) (.c (.int .i64 1))⟩, ⟨(some 47), none, .move (.t 0)⟩, ⟨(some 48), none, .len true (.t 47)⟩, ⟨(some 49), none, .bin .eql (some .int) (.t 46) (.t 48)⟩, ⟨(some 50), none, .move (.t 49)⟩, ⟨(some 51), (some (50, false)), .move (.t 0)⟩, ⟨(some 52), (some (50, false)), .move (.t 6)⟩, ⟨(some 53), (some (50, false)), .bin .add none (.t 52) (.c (.int .i64 1))⟩, ⟨(some 54), (some (50, false)), .ix none (.t 51) (.t 53)⟩, ⟨(some 55), (some (50, false)), .call (.c (.func (.func 103) #[] #[])) [(.c (.string ⟨#[34, 92, 110]⟩)), (.t 54)]⟩, ⟨(some 56), (some (50, false)), .bin .lss none (.t 55) (.c (.int .i64 0))⟩, ⟨(some 57), none, .pick (.t 50) (.c (.bool true)) (.t 56)⟩])
       (.cond (.t 57) (.seq (.line [⟨(some 58), none, .move (.t 6)⟩, ⟨(some 2), none, .move (.c (.string ⟨#[]⟩))⟩, ⟨(some 3), none, .move (.c (.int .i64 0))⟩, ⟨(some 4), none, .move (.t 58)⟩])
        .ret) .skip))
       (.seq (.line [⟨(some 59), none, .move (.t 6)⟩, ⟨(some 60), none, .bin .add none (.t 59) (.c (.int .i64 1))⟩, ⟨(some 6), none, .move (.t 60)⟩])
       (.seq (.line [⟨(some 61), none, .move (.t 0)⟩, ⟨(some 62), none, .move (.t 6)⟩, ⟨(some 63), none, .ix none (.t 61) (.t 62)⟩, ⟨(some 64), none, .bin .eql (some .int) (.t 63) (.c (.int .u8 110))⟩])
       (.cond (.t 64) (.line [⟨(some 65), none, .move (.t 5)⟩, ⟨(some 66), none, .buildSl 257 1 [(.int .u8 0)] [(0, 1, (.c (.int .u8 10)))]⟩, ⟨(some 67), none, .app 1 1 257 (.t 65) (.t 66)⟩, ⟨(some 5), none, .move (.t 67)⟩]) (.line [⟨(some 68), none, .move (.t 5)⟩, ⟨(some 69), none, .move (.t 0)⟩, ⟨(some 70), none, .move (.t 6)⟩, ⟨(some 71), none, .ix none (.t 69) (.t 70)⟩, ⟨(some 72), none, .buildSl 257 1 [(.int .u8 0)] [(0, 1, (.t 71))]⟩, ⟨(some 73), none, .app 1 1 257 (.t 68) (.t 72)⟩, ⟨(some 5), none, .move (.t 73)⟩]))))) (.seq (.line [⟨(some 75), none, .move (.t 7)⟩, ⟨(some 76), none, .bin .lss none (.t 75) (.c (.int .u8 32))⟩, ⟨(some 77), none, .move (.t 76)⟩, ⟨(some 78), (some (77, false)), .move (.t 7)⟩, ⟨(some 79), (some (77, false)), .bin .eql (some .int) (.t 78) (.c (.int .u8 127))⟩, ⟨(some 80), none, .pick (.t 77) (.c (.bool true)) (.t 79)⟩, ⟨(some 74), none, .move (.t 80)⟩])
       (.cond (.t 74) (.seq (.line [⟨(some 81), none, .move (.t 6)⟩, ⟨(some 2), none, .move (.c (.string ⟨#[]⟩))⟩, ⟨(some 3), none, .move (.c (.int .i64 0))⟩, ⟨(some 4), none, .move (.t 81)⟩])
        .ret) (.line [⟨(some 17), none, .move (.t 5)⟩, ⟨(some 18), none, .move (.t 7)⟩, ⟨(some 19), none, .buildSl 257 1 [(.int .u8 0)] [(0, 1, (.t 18))]⟩, ⟨(some 20), none, .app 1 1 257 (.t 17) (.t 19)⟩, ⟨(some 5), none, .move (.t 20)⟩]))))))))))
   (.line [⟨(some 12), none, .move (.t 6)⟩, ⟨(some 13), none, .bin .add none (.t 12) (.c (.int .i64 1))⟩, ⟨(some 6), none, .move (.t 13)⟩]))))))
 (.seq (.line [⟨(some 82), none, .move (.t 0)⟩, ⟨(some 83), none, .len true (.t 82)⟩, ⟨(some 2), none, .move (.c (.string ⟨#[]⟩))⟩, ⟨(some 3), none, .move (.c (.int .i64 0))⟩, ⟨(some 4), none, .move (.t 83)⟩])
 .ret))))⟩
/-- captioner/lines.word -/
def g88 : GFun := ⟨34, [.tmp 2, .tmp 3],
 (.seq (.line [⟨(some 2), none, .move (.c (.int .i64 0))⟩, ⟨(some 3), none, .move (.c (.int .i64 0))⟩])
 (.seq (.seq (.line [⟨(some 5), none, .move (.t 0)⟩, ⟨(some 6), none, .len true (.t 5)⟩, ⟨(some 7), none, .move (.c (.int .i64 0))⟩])
 (.block 0 (.loop (.seq (.line [⟨(some 8), none, .bin .lss none (.t 7) (.t 6)⟩])
   (.seq (.cond (.t 8) .skip (.exit 0))
   (.seq (.block 1 (.seq (.line [⟨(some 9), none, .move (.t 7)⟩, ⟨(some 4), none, .move (.t 9)⟩])
    (.seq (.seq (.line [⟨(some 10), none, .move (.t 0)⟩, ⟨(some 11), none, .move (.t 4)⟩, ⟨(some 12), none, .ix none (.t 10) (.t 11)⟩, ⟨(some 13), none, .bin .eql (some .int) (.t 12) (.c (.int .u8 32))⟩])
    (.cond (.t 13) (.seq (.line [⟨(some 14), none, .move (.t 4)⟩, ⟨(some 2), none, .move (.t 14)⟩, ⟨(some 3), none, .move (.c (.int .i64 (-1)))⟩])
     .ret) .skip))
    (.seq (.line [⟨(some 15), none, .move (.t 0)⟩, ⟨(some 16), none, .move (.t 4)⟩, ⟨(some 17), none, .ix none (.t 15) (.t 16)⟩, ⟨(some 18), none, .call (.c (.func (.func 104) #[] #[])) [(.t 17)]⟩, ⟨(some 19), none, .un .not (.t 18)⟩, ⟨(some 20), none, .move (.t 19)⟩, ⟨(some 21), (some (20, false)), .move (.t 4)⟩, ⟨(some 22), (some (20, false)), .bin .eql (some .int) (.t 21) (.c (.int .i64 0))⟩, ⟨(some 23), (some (20, false)), .move (.t 22)⟩, ⟨(some 24), (some (23, true)), .move (.t 0)⟩, ⟨(some 25), (some (23, true)), .move (.t 4)⟩, ⟨(some 26), (some (23, true)), .ix none (.t 24) (.t 25)⟩, ⟨(some 27), (some (23, true)), .bin .eql (some .int) (.t 26) (.c (.int .u8 35))⟩, ⟨(some 28), (some (20, false)), .pick (.t 23) (.t 27) (.c (.bool false))⟩, ⟨(some 29), none, .pick (.t 20) (.c (.bool true)) (.t 28)⟩])
    (.cond (.t 29) (.seq (.line [⟨(some 30), none, .move (.t 4)⟩, ⟨(some 2), none, .move (.c (.int .i64 0))⟩, ⟨(some 3), none, .move (.t 30)⟩])
     .ret) .skip)))))
   (.line [⟨(some 31), none, .bin .add none (.t 7) (.c (.int .i64 1))⟩, ⟨(some 7), none, .move (.t 31)⟩])))))))
 (.seq (.line [⟨(some 32), none, .move (.t 0)⟩, ⟨(some 33), none, .len true (.t 32)⟩, ⟨(some 2), none, .move (.t 33)⟩, ⟨(some 3), none, .move (.c (.int .i64 (-1)))⟩])
 .ret)))⟩
/-- (*captioner/lines.Scanner).note -/
def g89 : GFun := ⟨24, [],
 (.seq (.line [⟨(some 6), none, .move (.t 0)⟩, ⟨(some 7), none, .call (.c (.func (.func 65) #[] #[])) [(.t 6)]⟩, ⟨(some 8), none, .un .not (.t 7)⟩, ⟨(some 9), none, .move (.t 8)⟩, ⟨(some 10), (some (9, true)), .move (.t 2)⟩, ⟨(some 11), (some (9, true)), .bin .neq (some .int) (.t 10) (.c (.int .i64 0))⟩, ⟨(some 12), none, .pick (.t 9) (.t 11) (.c (.bool false))⟩])
 (.cond (.t 12) (.line [⟨(some 13), none, .move (.t 0)⟩, ⟨(some 14), none, .move (.t 0)⟩, ⟨(some 15), none, .nilc (.t 14)⟩, ⟨(some 16), none, .fa 0 (.t 15)⟩, ⟨(some 17), none, .fa 0 (.t 16)⟩, ⟨(some 18), none, .load none (.t 17)⟩, ⟨(some 19), none, .move (.t 1)⟩, ⟨(some 20), none, .move (.t 2)⟩, ⟨(some 21), none, .build [(.int .i64 0), (.int .i64 0), (.int .i64 0)] [(0, 1, (.t 18)), (1, 1, (.t 19)), (2, 1, (.t 20))]⟩, ⟨(some 22), none, .nilc (.t 13)⟩, ⟨(some 23), none, .fa 4 (.t 22)⟩, ⟨none, none, .store (some 3) (.t 23) (.t 21)⟩]) .skip))⟩
/-- slices.IndexFunc[[]captioner/api.Term,captioner/api.Term] -/
def g90 : GFun := ⟨19, [.tmp 4],
 (.seq (.line [⟨(some 4), none, .move (.c (.int .i64 0))⟩])
 (.seq (.seq (.line [⟨(some 6), none, .move (.t 0)⟩, ⟨(some 7), none, .len false (.t 6)⟩, ⟨(some 8), none, .move (.c (.int .i64 0))⟩])
 (.block 0 (.loop (.seq (.line [⟨(some 9), none, .bin .lss none (.t 8) (.t 7)⟩])
   (.seq (.cond (.t 9) .skip (.exit 0))
   (.seq (.block 1 (.seq (.line [⟨(some 10), none, .move (.t 8)⟩, ⟨(some 5), none, .move (.t 10)⟩])
    (.seq (.line [⟨(some 11), none, .move (.t 1)⟩, ⟨(some 12), none, .move (.t 0)⟩, ⟨(some 13), none, .move (.t 5)⟩, ⟨(some 14), none, .ia none 2 (.t 12) (.t 13)⟩, ⟨(some 15), none, .load (some 2) (.t 14)⟩, ⟨(some 16), none, .call (.t 11) [(.t 15)]⟩])
    (.cond (.t 16) (.seq (.line [⟨(some 17), none, .move (.t 5)⟩, ⟨(some 4), none, .move (.t 17)⟩])
     .ret) .skip))))
   (.line [⟨(some 18), none, .bin .add none (.t 8) (.c (.int .i64 1))⟩, ⟨(some 8), none, .move (.t 18)⟩])))))))
 (.seq (.line [⟨(some 4), none, .move (.c (.int .i64 (-1)))⟩])
 .ret)))⟩
/-- captioner/glossary.like$1 -/
def g91 : GFun := ⟨7, [.tmp 3],
 (.seq (.line [⟨(some 3), none, .move (.c (.bool false))⟩])
 (.seq (.line [⟨(some 4), none, .move (.t 0)⟩, ⟨(some 5), none, .load none (.t 1)⟩, ⟨(some 6), none, .call (.c (.func (.func 68) #[] #[])) [(.t 4), (.t 5)]⟩, ⟨(some 3), none, .move (.t 6)⟩])
 .ret))⟩
/-- captioner/captionerref07.quoted -/
def g92 : GFun := ⟨85, [.tmp 4, .tmp 5, .tmp 6],
 (.seq (.line [⟨(some 4), none, .move (.c (.string ⟨#[]⟩))⟩, ⟨(some 5), none, .move (.c (.int .i64 0))⟩, ⟨(some 6), none, .move (.c (.int .i64 0))⟩])
 (.seq (.line [⟨(some 7), none, .move (.c (.string ⟨#[]⟩))⟩])
 (.seq (.line [⟨(some 9), none, .move (.t 1)⟩, ⟨(some 10), none, .bin .add none (.t 9) (.c (.int .i64 1))⟩, ⟨(some 1), none, .move (.t 10)⟩])
 (.seq (.block 0 (.loop (.seq (.seq (.line [⟨(some 11), none, .move (.t 1)⟩, ⟨(some 12), none, .move (.t 0)⟩, ⟨(some 13), none, .len true (.t 12)⟩, ⟨(some 14), none, .bin .lss none (.t 11) (.t 13)⟩])
   (.cond (.t 14) .skip (.exit 0)))
   (.block 1 (.seq (.line [⟨(some 15), none, .move (.t 0)⟩, ⟨(some 16), none, .move (.t 1)⟩, ⟨(some 17), none, .ix none (.t 15) (.t 16)⟩, ⟨(some 8), none, .move (.t 17)⟩])
    (.seq (.seq (.line [⟨(some 18), none, .move (.t 8)⟩, ⟨(some 19), none, .bin .eql (some .int) (.t 18) (.c (.int .u8 34))⟩])
    (.cond (.t 19) (.seq (.seq (.line [⟨(some 20), none, .move (.t 1)⟩, ⟨(some 21), none, .bin .add none (.t 20) (.c (.int .i64 1))⟩, ⟨(some 22), none, .move (.t 0)⟩, ⟨(some 23), none, .len true (.t 22)⟩, ⟨(some 24), none, .bin .lss none (.t 21) (.t 23)⟩, ⟨(some 25), none, .move (.t 24)⟩, ⟨(some 26), (some (25, true)), .move (.t 0)⟩, ⟨(some 27), (some (25, true)), .move (.t 1)⟩, ⟨(some 28), (some (25, true)), .bin .add none (.t 27) (.c (.int .i64 1))⟩, ⟨(some 29), (some (25, true)), .ix none (.t 26) (.t 28)⟩, ⟨(some 30), (some (25, true)), .bin .neq (some .int) (.t 29) (.c (.int .u8 32))⟩, ⟨(some 31), none, .pick (.t 25) (.t 30) (.c (.bool false))⟩])
     (.cond (.t 31) (.seq (.line [⟨(some 32), none, .move (.t 1)⟩, ⟨(some 33), none, .bin .add none (.t 32) (.c (.int .i64 1))⟩, ⟨(some 4), none, .move (.c (.string ⟨#[]⟩))⟩, ⟨(some 5), none, .move (.c (.int .i64 0))⟩, ⟨(some 6), none, .move (.t 33)⟩])
      .ret) .skip))
     (.seq (.line [⟨(some 34), none, .move (.t 7)⟩, ⟨(some 35), none, .move (.t 1)⟩, ⟨(some 36), none, .bin .add none (.t 35) (.c (.int .i64 1))⟩, ⟨(some 4), none, .move (.t 34)⟩, ⟨(some 5), none, .move (.t 36)⟩, ⟨(some 6), none, .move (.c (.int .i64 (-1)))⟩])
     .ret)) .skip))
    (.seq (.seq (.line [⟨(some 37), none, .move (.t 8)⟩, ⟨(some 38), none, .bin .lss none (.t 37) (.c (.int .u8 32))⟩, ⟨(some 39), none, .move (.t 38)⟩, ⟨(some 40), (some (39, false)), .move (.t 8)⟩, ⟨(some 41), (some (39, false)), .bin .eql (some .int) (.t 40) (.c (.int .u8 127))⟩, ⟨(some 42), none, .pick (.t 39) (.c (.bool true)) (.t 41)⟩])
    (.cond (.t 42) (.seq (.line [⟨(some 43), none, .move (.t 1)⟩, ⟨(some 4), none, .move (.c (.string ⟨#[]⟩))⟩, ⟨(some 5), none, .move (.c (.int .i64 0))⟩, ⟨(some 6), none, .move (.t 43)⟩])
     .ret) .skip))
    (.seq (.seq (.line [⟨(some 44), none, .move (.t 8)⟩, ⟨(some 45), none, .bin .neq (some .int) (.t 44) (.c (.int .u8 92))⟩])
    (.cond (.t 45) (.seq (.line [⟨(some 46), none, .move (.t 7)⟩, ⟨(some 47), none, .move (.t 0)⟩, ⟨(some 48), none, .move (.t 1)⟩, ⟨(some 49), none, .move (.t 1)⟩, ⟨(some 50), none, .bin .add none (.t 49) (.c (.int .i64 1))⟩, ⟨(some 51), none, .slice .str (.t 47) (some (.t 48)) (some (.t 50)) none⟩, ⟨(some 52), none, .bin .add none (.t 46) (.t 51)⟩, ⟨(some 7), none, .move (.t 52)⟩])
     (.seq (.line [⟨(some 53), none, .move (.t 1)⟩, ⟨(some 54), none, .bin .add none (.t 53) (.c (.int .i64 1))⟩, ⟨(some 1), none, .move (.t 54)⟩])
     (.exit 1))) .skip))
    (.seq (.seq (.line [⟨(some 55), none, .move (.t 1)⟩, ⟨(some 56), none, .bin .add none (.t 55) (.c (.int .i64 1))⟩, ⟨(some 57), none, .move (.t 0)⟩, ⟨(some 58), none, .len true (.t 57)⟩, ⟨(some 59), none, .bin .geq none (.t 56) (.t 58)⟩])
    (.cond (.t 59) (.seq (.line [⟨(some 60), none, .move (.t 1)⟩, ⟨(some 4), none, .move (.c (.string ⟨#[]⟩))⟩, ⟨(some 5), none, .move (.c (.int .i64 0))⟩, ⟨(some 6), none, .move (.t 60)⟩])
     .ret) .skip))
    (.seq (.seq (.line [⟨(some 61), none, .move (.t 0)⟩, ⟨(some 62), none, .move (.t 1)⟩, ⟨(some 63), none, .bin .add none (.t 62) (.c (.int .i64 1))⟩, ⟨(some 64), none, .ix none (.t 61) (.t 63)⟩])
    (.block 2 (.seq (.seq (.line [⟨(some 67), none, .bin .eql (some .int) (.t 64) (.c (.int .u8 34))⟩, ⟨(some 66), none, .move (.t 67)⟩])
     (.cond (.t 66) .skip (.line [⟨(some 68), none, .bin .eql (some .int) (.t 64) (.c (.int .u8 92))⟩, ⟨(some 66), none, .move (.t 68)⟩])))
     (.cond (.t 66) (.line [⟨(some 69), none, .move (.t 7)⟩, ⟨(some 70), none, .move (.t 0)⟩, ⟨(some 71), none, .move (.t 1)⟩, ⟨(some 72), none, .bin .add none (.t 71) (.c (.int .i64 1))⟩, ⟨(some 73), none, .move (.t 1)⟩, ⟨(some 74), none, .bin .add none (.t 73) (.c (.int .i64 2))⟩, ⟨(some 75), none, .slice .str (.t 70) (some (.t 72)) (some (.t 74)) none⟩, ⟨(some 76), none, .bin .add none (.t 69) (.t 75)⟩, ⟨(some 7), none, .move (.t 76)⟩]) (.seq (.line [⟨(some 78), none, .bin .eql (some .int) (.t 64) (.c (.int .u8 110))⟩, ⟨(some 77), none, .move (.t 78)⟩])
      (.cond (.t 77) (.line [⟨(some 79), none, .move (.t 7)⟩, ⟨(some 80), none, .bin .add none (.t 79) (.c (.string ⟨#[10]⟩))⟩, ⟨(some 7), none, .move (.t 80)⟩]) (.seq (.line [⟨(some 65), none, .move (.t 1)⟩, ⟨(some 4), none, .move (.c (.string ⟨#[]⟩))⟩, ⟨(some 5), none, .move (.c (.int .i64 0))⟩, ⟨(some 6), none, .move (.t 65)⟩])
       .ret)))))))
    (.line [⟨(some 81), none, .move (.t 1)⟩, ⟨(some 82), none, .bin .add none (.t 81) (.c (.int .i64 2))⟩, ⟨(some 1), none, .move (.t 82)⟩])))))))))))
 (.seq (.line [⟨(some 83), none, .move (.t 0)⟩, ⟨(some 84), none, .len true (.t 83)⟩, ⟨(some 4), none, .move (.c (.string ⟨#[]⟩))⟩, ⟨(some 5), none, .move (.c (.int .i64 0))⟩, ⟨(some 6), none, .move (.t 84)⟩])
 .ret)))))⟩
/-- captioner/captionerref07.wordByte -/
def g93 : GFun := ⟨13, [.tmp 2],
 (.seq (.line [⟨(some 2), none, .move (.c (.bool false))⟩])
 (.seq (.line [⟨(some 3), none, .move (.t 0)⟩, ⟨(some 4), none, .bin .geq none (.t 3) (.c (.int .u8 33))⟩, ⟨(some 5), none, .move (.t 4)⟩, ⟨(some 6), (some (5, true)), .move (.t 0)⟩, ⟨(some 7), (some (5, true)), .bin .leq none (.t 6) (.c (.int .u8 126))⟩, ⟨(some 8), none, .pick (.t 5) (.t 7) (.c (.bool false))⟩, ⟨(some 9), none, .move (.t 8)⟩, ⟨(some 10), (some (9, true)), .move (.t 0)⟩, ⟨(some 11), (some (9, true)), .bin .neq (some .int) (.t 10) (.c (.int .u8 34))⟩, ⟨(some 12), none, .pick (.t 9) (.t 11) (.c (.bool false))⟩, ⟨(some 2), none, .move (.t 12)⟩])
 .ret))⟩
/-- (*captioner/captionerref07.Scanner).fail -/
def g94 : GFun := ⟨19, [],
 (.seq (.line [⟨(some 6), none, .move (.t 0)⟩, ⟨(some 7), none, .nilc (.t 6)⟩, ⟨(some 8), none, .fa 3 (.t 7)⟩, ⟨(some 9), none, .load none (.t 8)⟩, ⟨(some 10), none, .bin .eql (some .int) (.t 9) (.c (.int .i64 0))⟩])
 (.cond (.t 10) (.line [⟨(some 11), none, .move (.t 0)⟩, ⟨(some 12), none, .move (.t 0)⟩, ⟨(some 13), none, .move (.t 1)⟩, ⟨(some 14), none, .move (.t 2)⟩, ⟨(some 15), none, .nilc (.t 11)⟩, ⟨(some 16), none, .fa 3 (.t 15)⟩, ⟨none, none, .store none (.t 16) (.t 13)⟩, ⟨(some 17), none, .nilc (.t 12)⟩, ⟨(some 18), none, .fa 4 (.t 17)⟩, ⟨none, none, .store none (.t 18) (.t 14)⟩]) .skip))⟩




/-- unicode/utf8.appendRuneNonASCII -/
def g100 : GFun := ⟨78, [.tmp 4],
 (.seq (.line [⟨(some 4), none, .move (.c (.slice none 0 0))⟩])
 (.seq (.line [⟨(some 6), none, .move (.t 1)⟩, ⟨(some 7), none, .conv (.int .u32) (.t 6)⟩, ⟨(some 5), none, .move (.t 7)⟩])
 (.block 0 (.seq (.line [⟨(some 12), none, .move (.t 5)⟩, ⟨(some 13), none, .bin .leq none (.t 12) (.c (.int .u32 2047))⟩, ⟨(some 11), none, .move (.t 13)⟩])
  (.cond (.t 11) (.seq (.line [⟨(some 14), none, .move (.t 0)⟩, ⟨(some 15), none, .move (.t 1)⟩, ⟨(some 16), none, .bin .shr none (.t 15) (.c (.int .u64 6))⟩, ⟨(some 17), none, .conv (.int .u8) (.t 16)⟩, ⟨(some 18), none, .bin .or none (.c (.int .u8 192)) (.t 17)⟩, ⟨(some 19), none, .move (.t 1)⟩, ⟨(some 20), none, .conv (.int .u8) (.t 19)⟩, ⟨(some 21), none, .bin .and none (.t 20) (.c (.int .u8 63))⟩, ⟨(some 22), none, .bin .or none (.c (.int .u8 128)) (.t 21)⟩, ⟨(some 23), none, .buildSl 257 2 [(.int .u8 0)] [(0, 1, (.t 18)), (1, 1, (.t 22))]⟩, ⟨(some 24), none, .app 1 1 257 (.t 14) (.t 23)⟩, ⟨(some 4), none, .move (.t 24)⟩])
   .ret) (.seq (.seq (.line [⟨(some 26), none, .move (.t 5)⟩, ⟨(some 27), none, .bin .lss none (.t 26) (.c (.int .u32 55296))⟩, ⟨(some 25), none, .move (.t 27)⟩])
   (.cond (.t 25) .skip (.line [⟨(some 28), none, .move (.t 5)⟩, ⟨(some 29), none, .bin .lss none (.c (.int .u32 57343)) (.t 28)⟩, ⟨(some 30), none, .move (.t 29)⟩, ⟨(some 31), (some (30, true)), .move (.t 5)⟩, ⟨(some 32), (some (30, true)), .bin .leq none (.t 31) (.c (.int .u32 65535))⟩, ⟨(some 33), none, .pick (.t 30) (.t 32) (.c (.bool false))⟩, ⟨(some 25), none, .move (.t 33)⟩])))
   (.cond (.t 25) (.seq (.line [⟨(some 34), none, .move (.t 0)⟩, ⟨(some 35), none, .move (.t 1)⟩, ⟨(some 36), none, .bin .shr none (.t 35) (.c (.int .u64 12))⟩, ⟨(some 37), none, .conv (.int .u8) (.t 36)⟩, ⟨(some 38), none, .bin .or none (.c (.int .u8 224)) (.t 37)⟩, ⟨(some 39), none, .move (.t 1)⟩, ⟨(some 40), none, .bin .shr none (.t 39) (.c (.int .u64 6))⟩, ⟨(some 41), none, .conv (.int .u8) (.t 40)⟩, ⟨(some 42), none, .bin .and none (.t 41) (.c (.int .u8 63))⟩, ⟨(some 43), none, .bin .or none (.c (.int .u8 128)) (.t 42)⟩, ⟨(some 44), none, .move (.t 1)⟩, ⟨(some 45), none, .conv (.int .u8) (.t 44)⟩, ⟨(some 46), none, .bin .and none (.t 45) (.c (.int .u8 63))⟩, ⟨(some 47), none, .bin .or none (.c (.int .u8 128)) (.t 46)⟩, ⟨(some 48), none, .buildSl 257 3 [(.int .u8 0)] [(0, 1, (.t 38)), (1, 1, (.t 43)), (2, 1, (.t 47))]⟩, ⟨(some 49), none, .app 1 1 257 (.t 34) (.t 48)⟩, ⟨(some 4), none, .move (.t 49)⟩])
    .ret) (.seq (.line [⟨(some 51), none, .move (.t 5)⟩, ⟨(some 52), none, .bin .gtr none (.t 51) (.c (.int .u32 65535))⟩, ⟨(some 53), none, .move (.t 52)⟩, ⟨(some 54), (some (53, true)), .move (.t 5)⟩, ⟨(some 55), (some (53, true)), .bin .leq none (.t 54) (.c (.int .u32 1114111))⟩, ⟨(some 56), none, .pick (.t 53) (.t 55) (.c (.bool false))⟩, ⟨(some 50), none, .move (.t 56)⟩])
    (.cond (.t 50) (.seq (.line [⟨(some 57), none, .move (.t 0)⟩, ⟨(some 58), none, .move (.t 1)⟩, ⟨(some 59), none, .bin .shr none (.t 58) (.c (.int .u64 18))⟩, ⟨(some 60), none, .conv (.int .u8) (.t 59)⟩, ⟨(some 61), none, .bin .or none (.c (.int .u8 240)) (.t 60)⟩, ⟨(some 62), none, .move (.t 1)⟩, ⟨(some 63), none, .bin .shr none (.t 62) (.c (.int .u64 12))⟩, ⟨(some 64), none, .conv (.int .u8) (.t 63)⟩, ⟨(some 65), none, .bin .and none (.t 64) (.c (.int .u8 63))⟩, ⟨(some 66), none, .bin .or none (.c (.int .u8 128)) (.t 65)⟩, ⟨(some 67), none, .move (.t 1)⟩, ⟨(some 68), none, .bin .shr none (.t 67) (.c (.int .u64 6))⟩, ⟨(some 69), none, .conv (.int .u8) (.t 68)⟩, ⟨(some 70), none, .bin .and none (.t 69) (.c (.int .u8 63))⟩, ⟨(some 71), none, .bin .or none (.c (.int .u8 128)) (.t 70)⟩, ⟨(some 72), none, .move (.t 1)⟩, ⟨(some 73), none, .conv (.int .u8) (.t 72)⟩, ⟨(some 74), none, .bin .and none (.t 73) (.c (.int .u8 63))⟩, ⟨(some 75), none, .bin .or none (.c (.int .u8 128)) (.t 74)⟩, ⟨(some 76), none, .buildSl 257 4 [(.int .u8 0)] [(0, 1, (.t 61)), (1, 1, (.t 66)), (2, 1, (.t 71)), (3, 1, (.t 75))]⟩, ⟨(some 77), none, .app 1 1 257 (.t 57) (.t 76)⟩, ⟨(some 4), none, .move (.t 77)⟩])
     .ret) (.seq (.line [⟨(some 8), none, .move (.t 0)⟩, ⟨(some 9), none, .buildSl 257 3 [(.int .u8 0)] [(0, 1, (.c (.int .u8 239))), (1, 1, (.c (.int .u8 191))), (2, 1, (.c (.int .u8 189)))]⟩, ⟨(some 10), none, .app 1 1 257 (.t 8) (.t 9)⟩, ⟨(some 4), none, .move (.t 10)⟩])
     .ret))))))))))⟩
/-- strings.IndexRune -/
def g101 : GFun := ⟨187, [.tmp 4],
 (.seq (.line [⟨(some 4), none, .move (.c (.int .i64 0))⟩])
 (.block 0 (.seq (.line [⟨(some 161), none, .move (.t 1)⟩, ⟨(some 162), none, .bin .leq none (.c (.int .i32 0)) (.t 161)⟩, ⟨(some 163), none, .move (.t 162)⟩, ⟨(some 164), (some (163, true)), .move (.t 1)⟩, ⟨(some 165), (some (163, true)), .bin .lss none (.t 164) (.c (.int .i32 128))⟩, ⟨(some 166), none, .pick (.t 163) (.t 165) (.c (.bool false))⟩, ⟨(some 160), none, .move (.t 166)⟩])
  (.cond (.t 160) (.seq (.line [⟨(some 167), none, .move (.t 0)⟩, ⟨(some 168), none, .move (.t 1)⟩, ⟨(some 169), none, .conv (.int .u8) (.t 168)⟩, ⟨(some 170), none, .call (.c (.func (.func 103) #[] #[])) [(.t 167), (.t 169)]⟩, ⟨(some 4), none, .move (.t 170)⟩])
   .ret) (.seq (.line [⟨(some 172), none, .move (.t 1)⟩, ⟨(some 173), none, .bin .eql (some .int) (.t 172) (.c (.int .i32 65533))⟩, ⟨(some 171), none, .move (.t 173)⟩])
   (.cond (.t 171) (.seq (.seq (.line [⟨(some 174), none, .move (.t 0)⟩, ⟨(some 175), none, .rng (.t 174)⟩])
    (.block 9 (.loop (.seq (.line [⟨(some 176), none, .next (.t 175)⟩, ⟨(some 177), none, .ext (.t 176) 0⟩])
      (.seq (.cond (.t 177) .skip (.exit 9))
      (.block 10 (.seq (.line [⟨(some 178), none, .ext (.t 176) 1⟩, ⟨(some 179), none, .ext (.t 176) 2⟩, ⟨(some 5), none, .move (.t 178)⟩, ⟨(some 6), none, .move (.t 179)⟩])
       (.seq (.line [⟨(some 180), none, .move (.t 6)⟩, ⟨(some 181), none, .bin .eql (some .int) (.t 180) (.c (.int .i32 65533))⟩])
       (.cond (.t 181) (.seq (.line [⟨(some 182), none, .move (.t 5)⟩, ⟨(some 4), none, .move (.t 182)⟩])
        .ret) .skip)))))))))
    (.seq (.line [⟨(some 4), none, .move (.c (.int .i64 (-1)))⟩])
    .ret)) (.seq (.line [⟨(some 184), none, .move (.t 1)⟩, ⟨(some 185), none, .call (.c (.func (.func 111) #[] #[])) [(.t 184)]⟩, ⟨(some 186), none, .un .not (.t 185)⟩, ⟨(some 183), none, .move (.t 186)⟩])
    (.cond (.t 183) (.seq (.line [⟨(some 4), none, .move (.c (.int .i64 (-1)))⟩])
     .ret) (.scope (.seq (.line [⟨(some 17), none, .move (.t 1)⟩, ⟨(some 18), none, .conv .strOfInt (.t 17)⟩, ⟨(some 7), none, .move (.t 18)⟩])
      (.seq (.line [⟨(some 19), none, .move (.t 7)⟩, ⟨(some 20), none, .len true (.t 19)⟩, ⟨(some 21), none, .bin .sub none (.t 20) (.c (.int .i64 1))⟩, ⟨(some 8), none, .move (.t 21)⟩])
      (.seq (.line [⟨(some 22), none, .move (.t 8)⟩, ⟨(some 9), none, .move (.t 22)⟩])
      (.seq (.line [⟨(some 10), none, .move (.c (.int .i64 0))⟩])
      (.seq (.block 1 (.loop (.seq (.seq (.line [⟨(some 23), none, .move (.t 9)⟩, ⟨(some 24), none, .move (.t 0)⟩, ⟨(some 25), none, .len true (.t 24)⟩, ⟨(some 26), none, .bin .lss none (.t 23) (.t 25)⟩])
        (.cond (.t 26) .skip (.exit 1)))
        (.block 2 (.scope (.seq (.seq (.any [] [⟨(some 27), none, .move (.t 0)⟩, ⟨(some 28), none, .move (.t 9)⟩, ⟨(some 29), none, .ix none (.t 27) (.t 28)⟩, ⟨(some 30), none, .move (.t 7)⟩, ⟨(some 31), none, .move (.t 8)⟩, ⟨(some 32), none, .ix none (.t 30) (.t 31)⟩, ⟨(some 33), none, .bin .neq (some .int) (.t 29) (.t 32)⟩] [])
          (.cond (.t 33) (.seq (.any [] [⟨(some 34), none, .move (.t 0)⟩, ⟨(some 35), none, .move (.t 9)⟩, ⟨(some 36), none, .bin .add none (.t 35) (.c (.int .i64 1))⟩, ⟨(some 37), none, .slice .str (.t 34) (some (.t 36)) none none⟩, ⟨(some 38), none, .move (.t 7)⟩, ⟨(some 39), none, .move (.t 8)⟩, ⟨(some 40), none, .ix none (.t 38) (.t 39)⟩] [(false, ⟨(some 41), none, .call (.c (.func (.func 103) #[] #[])) [(.t 37), (.t 40)]⟩), (false, ⟨(some 11), none, .move (.t 41)⟩)])
           (.seq (.seq (.line [⟨(some 42), none, .move (.t 11)⟩, ⟨(some 43), none, .bin .lss none (.t 42) (.c (.int .i64 0))⟩])
           (.cond (.t 43) (.seq (.line [⟨(some 4), none, .move (.c (.int .i64 (-1)))⟩])
            .ret) .skip))
           (.line [⟨(some 44), none, .move (.t 9)⟩, ⟨(some 45), none, .move (.t 11)⟩, ⟨(some 46), none, .bin .add none (.t 45) (.c (.int .i64 1))⟩, ⟨(some 47), none, .bin .add none (.t 44) (.t 46)⟩, ⟨(some 9), none, .move (.t 47)⟩]))) .skip))
          (.seq (.seq (.line [⟨(some 12), none, .move (.c (.int .i64 1))⟩])
          (.block 3 (.loop (.seq (.seq (.line [⟨(some 48), none, .move (.t 12)⟩, ⟨(some 49), none, .move (.t 7)⟩, ⟨(some 50), none, .len true (.t 49)⟩, ⟨(some 51), none, .bin .lss none (.t 48) (.t 50)⟩])
            (.cond (.t 51) .skip (.exit 3)))
            (.seq (.block 4 (.seq (.any [] [⟨(some 54), none, .move (.t 0)⟩, ⟨(some 55), none, .move (.t 9)⟩, ⟨(some 56), none, .move (.t 12)⟩, ⟨(some 57), none, .bin .sub none (.t 55) (.t 56)⟩, ⟨(some 58), none, .ix none (.t 54) (.t 57)⟩, ⟨(some 59), none, .move (.t 7)⟩, ⟨(some 60), none, .move (.t 8)⟩, ⟨(some 61), none, .move (.t 12)⟩, ⟨(some 62), none, .bin .sub none (.t 60) (.t 61)⟩, ⟨(some 63), none, .ix none (.t 59) (.t 62)⟩, ⟨(some 64), none, .bin .neq (some .int) (.t 58) (.t 63)⟩] [])
             (.cond (.t 64) (.goto 0) .skip)))
            (.line [⟨(some 52), none, .move (.t 12)⟩, ⟨(some 53), none, .bin .add none (.t 52) (.c (.int .i64 1))⟩, ⟨(some 12), none, .move (.t 53)⟩]))))))
          (.seq (.seq (.line [⟨(some 65), none, .move (.t 9)⟩, ⟨(some 66), none, .move (.t 8)⟩, ⟨(some 67), none, .bin .sub none (.t 65) (.t 66)⟩, ⟨(some 4), none, .move (.t 67)⟩])
          .ret)
          (.seq .skip
          (.seq (.line [⟨(some 68), none, .move (.t 10)⟩, ⟨(some 69), none, .bin .add none (.t 68) (.c (.int .i64 1))⟩, ⟨(some 10), none, .move (.t 69)⟩])
          (.seq (.line [⟨(some 70), none, .move (.t 9)⟩, ⟨(some 71), none, .bin .add none (.t 70) (.c (.int .i64 1))⟩, ⟨(some 9), none, .move (.t 71)⟩])
          (.seq (.line [⟨(some 72), none, .move (.c (.bool true))⟩, ⟨(some 73), (some (72, true)), .move (.t 10)⟩, ⟨(some 74), (some (72, true)), .move (.t 9)⟩, ⟨(some 75), (some (72, true)), .call (.c (.func (.func 109) #[] #[])) [(.t 74)]⟩, ⟨(some 76), (some (72, true)), .bin .gtr none (.t 73) (.t 75)⟩, ⟨(some 77), none, .pick (.t 72) (.t 76) (.c (.bool false))⟩, ⟨(some 78), none, .move (.t 77)⟩, ⟨(some 79), (some (78, true)), .move (.t 9)⟩, ⟨(some 80), (some (78, true)), .move (.t 0)⟩, ⟨(some 81), (some (78, true)), .len true (.t 80)⟩, ⟨(some 82), (some (78, true)), .bin .lss none (.t 79) (.t 81)⟩, ⟨(some 83), none, .pick (.t 78) (.t 82) (.c (.bool false))⟩, ⟨(some 84), none, .move (.t 83)⟩, ⟨(some 85), (some (84, false)), .move (.c (.bool false))⟩, ⟨(some 86), (some (85, true)), .move (.t 10)⟩, ⟨(some 87), (some (85, true)), .move (.t 9)⟩, ⟨(some 88), (some (85, true)), .bin .shr none (.t 87) (.c (.int .u64 4))⟩, ⟨(some 89), (some (85, true)), .bin .add none (.c (.int .i64 4)) (.t 88)⟩, ⟨(some 90), (some (85, true)), .bin .geq none (.t 86) (.t 89)⟩, ⟨(some 91), (some (84, false)), .pick (.t 85) (.t 90) (.c (.bool false))⟩, ⟨(some 92), (some (84, false)), .move (.t 91)⟩, ⟨(some 93), (some (92, true)), .move (.t 9)⟩, ⟨(some 94), (some (92, true)), .move (.t 0)⟩, ⟨(some 95), (some (92, true)), .len true (.t 94)⟩, ⟨(some 96), (some (92, true)), .bin .lss none (.t 93) (.t 95)⟩, ⟨(some 97), (some (84, false)), .pick (.t 92) (.t 96) (.c (.bool false))⟩, ⟨(some 98), none, .pick (.t 84) (.c (.bool true)) (.t 97)⟩])
          (.cond (.t 98) (.goto 1) .skip)))))))) 0 (.seq .skip
          (.seq (.line [⟨(some 68), none, .move (.t 10)⟩, ⟨(some 69), none, .bin .add none (.t 68) (.c (.int .i64 1))⟩, ⟨(some 10), none, .move (.t 69)⟩])
          (.seq (.line [⟨(some 70), none, .move (.t 9)⟩, ⟨(some 71), none, .bin .add none (.t 70) (.c (.int .i64 1))⟩, ⟨(some 9), none, .move (.t 71)⟩])
          (.seq (.line [⟨(some 72), none, .move (.c (.bool true))⟩, ⟨(some 73), (some (72, true)), .move (.t 10)⟩, ⟨(some 74), (some (72, true)), .move (.t 9)⟩, ⟨(some 75), (some (72, true)), .call (.c (.func (.func 109) #[] #[])) [(.t 74)]⟩, ⟨(some 76), (some (72, true)), .bin .gtr none (.t 73) (.t 75)⟩, ⟨(some 77), none, .pick (.t 72) (.t 76) (.c (.bool false))⟩, ⟨(some 78), none, .move (.t 77)⟩, ⟨(some 79), (some (78, true)), .move (.t 9)⟩, ⟨(some 80), (some (78, true)), .move (.t 0)⟩, ⟨(some 81), (some (78, true)), .len true (.t 80)⟩, ⟨(some 82), (some (78, true)), .bin .lss none (.t 79) (.t 81)⟩, ⟨(some 83), none, .pick (.t 78) (.t 82) (.c (.bool false))⟩, ⟨(some 84), none, .move (.t 83)⟩, ⟨(some 85), (some (84, false)), .move (.c (.bool false))⟩, ⟨(some 86), (some (85, true)), .move (.t 10)⟩, ⟨(some 87), (some (85, true)), .move (.t 9)⟩, ⟨(some 88), (some (85, true)), .bin .shr none (.t 87) (.c (.int .u64 4))⟩, ⟨(some 89), (some (85, true)), .bin .add none (.c (.int .i64 4)) (.t 88)⟩, ⟨(some 90), (some (85, true)), .bin .geq none (.t 86) (.t 89)⟩, ⟨(some 91), (some (84, false)), .pick (.t 85) (.t 90) (.c (.bool false))⟩, ⟨(some 92), (some (84, false)), .move (.t 91)⟩, ⟨(some 93), (some (92, true)), .move (.t 9)⟩, ⟨(some 94), (some (92, true)), .move (.t 0)⟩, ⟨(some 95), (some (92, true)), .len true (.t 94)⟩, ⟨(some 96), (some (92, true)), .bin .lss none (.t 93) (.t 95)⟩, ⟨(some 97), (some (84, false)), .pick (.t 92) (.t 96) (.c (.bool false))⟩, ⟨(some 98), none, .pick (.t 84) (.c (.bool true)) (.t 97)⟩])
          (.cond (.t 98) (.goto 1) .skip))))))))))
      (.seq (.seq (.line [⟨(some 4), none, .move (.c (.int .i64 (-1)))⟩])
      .ret)
      (.seq .skip
      (.seq (.cond (.c (.bool true)) (.seq (.line [⟨(some 99), none, .move (.t 0)⟩, ⟨(some 100), none, .move (.t 9)⟩, ⟨(some 101), none, .move (.t 8)⟩, ⟨(some 102), none, .bin .sub none (.t 100) (.t 101)⟩, ⟨(some 103), none, .slice .str (.t 99) (some (.t 102)) none none⟩, ⟨(some 104), none, .move (.t 1)⟩, ⟨(some 105), none, .conv .strOfInt (.t 104)⟩, ⟨(some 106), none, .call (.c (.func (.func 108) #[] #[])) [(.t 103), (.t 105)]⟩, ⟨(some 13), none, .move (.t 106)⟩])
       (.seq (.line [⟨(some 107), none, .move (.t 13)⟩, ⟨(some 108), none, .bin .geq none (.t 107) (.c (.int .i64 0))⟩])
       (.cond (.t 108) (.seq (.line [⟨(some 109), none, .move (.t 9)⟩, ⟨(some 110), none, .move (.t 13)⟩, ⟨(some 111), none, .bin .add none (.t 109) (.t 110)⟩, ⟨(some 112), none, .move (.t 8)⟩, ⟨(some 113), none, .bin .sub none (.t 111) (.t 112)⟩, ⟨(some 4), none, .move (.t 113)⟩])
        .ret) .skip))) (.scope (.seq (.line [⟨(some 114), none, .move (.t 7)⟩, ⟨(some 115), none, .move (.t 8)⟩, ⟨(some 116), none, .ix none (.t 114) (.t 115)⟩, ⟨(some 14), none, .move (.t 116)⟩])
        (.seq (.line [⟨(some 117), none, .move (.t 7)⟩, ⟨(some 118), none, .move (.t 8)⟩, ⟨(some 119), none, .bin .sub none (.t 118) (.c (.int .i64 1))⟩, ⟨(some 120), none, .ix none (.t 117) (.t 119)⟩, ⟨(some 15), none, .move (.t 120)⟩])
        (.seq .skip
        (.block 5 (.loop (.seq (.seq (.line [⟨(some 121), none, .move (.t 9)⟩, ⟨(some 122), none, .move (.t 0)⟩, ⟨(some 123), none, .len true (.t 122)⟩, ⟨(some 124), none, .bin .lss none (.t 121) (.t 123)⟩])
          (.cond (.t 124) .skip (.exit 5)))
          (.seq (.block 6 (.seq (.line [⟨(some 127), none, .move (.t 0)⟩, ⟨(some 128), none, .move (.t 9)⟩, ⟨(some 129), none, .ix none (.t 127) (.t 128)⟩, ⟨(some 130), none, .move (.t 14)⟩, ⟨(some 131), none, .bin .eql (some .int) (.t 129) (.t 130)⟩, ⟨(some 132), none, .move (.t 131)⟩, ⟨(some 133), (some (132, true)), .move (.t 0)⟩, ⟨(some 134), (some (132, true)), .move (.t 9)⟩, ⟨(some 135), (some (132, true)), .bin .sub none (.t 134) (.c (.int .i64 1))⟩, ⟨(some 136), (some (132, true)), .ix none (.t 133) (.t 135)⟩, ⟨(some 137), (some (132, true)), .move (.t 15)⟩, ⟨(some 138), (some (132, true)), .bin .eql (some .int) (.t 136) (.t 137)⟩, ⟨(some 139), none, .pick (.t 132) (.t 138) (.c (.bool false))⟩])
           (.cond (.t 139) (.seq (.seq (.line [⟨(some 16), none, .move (.c (.int .i64 2))⟩])
            (.block 7 (.loop (.seq (.seq (.line [⟨(some 140), none, .move (.t 16)⟩, ⟨(some 141), none, .move (.t 7)⟩, ⟨(some 142), none, .len true (.t 141)⟩, ⟨(some 143), none, .bin .lss none (.t 140) (.t 142)⟩])
              (.cond (.t 143) .skip (.exit 7)))
              (.seq (.block 8 (.seq (.any [] [⟨(some 146), none, .move (.t 0)⟩, ⟨(some 147), none, .move (.t 9)⟩, ⟨(some 148), none, .move (.t 16)⟩, ⟨(some 149), none, .bin .sub none (.t 147) (.t 148)⟩, ⟨(some 150), none, .ix none (.t 146) (.t 149)⟩, ⟨(some 151), none, .move (.t 7)⟩, ⟨(some 152), none, .move (.t 8)⟩, ⟨(some 153), none, .move (.t 16)⟩, ⟨(some 154), none, .bin .sub none (.t 152) (.t 153)⟩, ⟨(some 155), none, .ix none (.t 151) (.t 154)⟩, ⟨(some 156), none, .bin .neq (some .int) (.t 150) (.t 155)⟩] [])
               (.cond (.t 156) (.exit 6) .skip)))
              (.line [⟨(some 144), none, .move (.t 16)⟩, ⟨(some 145), none, .bin .add none (.t 144) (.c (.int .i64 1))⟩, ⟨(some 16), none, .move (.t 145)⟩]))))))
            (.seq (.line [⟨(some 157), none, .move (.t 9)⟩, ⟨(some 158), none, .move (.t 8)⟩, ⟨(some 159), none, .bin .sub none (.t 157) (.t 158)⟩, ⟨(some 4), none, .move (.t 159)⟩])
            .ret)) .skip)))
          (.line [⟨(some 125), none, .move (.t 9)⟩, ⟨(some 126), none, .bin .add none (.t 125) (.c (.int .i64 1))⟩, ⟨(some 9), none, .move (.t 126)⟩])))))))) 2 (.seq .skip
        (.block 5 (.loop (.seq (.seq (.line [⟨(some 121), none, .move (.t 9)⟩, ⟨(some 122), none, .move (.t 0)⟩, ⟨(some 123), none, .len true (.t 122)⟩, ⟨(some 124), none, .bin .lss none (.t 121) (.t 123)⟩])
          (.cond (.t 124) .skip (.exit 5)))
          (.seq (.block 6 (.seq (.line [⟨(some 127), none, .move (.t 0)⟩, ⟨(some 128), none, .move (.t 9)⟩, ⟨(some 129), none, .ix none (.t 127) (.t 128)⟩, ⟨(some 130), none, .move (.t 14)⟩, ⟨(some 131), none, .bin .eql (some .int) (.t 129) (.t 130)⟩, ⟨(some 132), none, .move (.t 131)⟩, ⟨(some 133), (some (132, true)), .move (.t 0)⟩, ⟨(some 134), (some (132, true)), .move (.t 9)⟩, ⟨(some 135), (some (132, true)), .bin .sub none (.t 134) (.c (.int .i64 1))⟩, ⟨(some 136), (some (132, true)), .ix none (.t 133) (.t 135)⟩, ⟨(some 137), (some (132, true)), .move (.t 15)⟩, ⟨(some 138), (some (132, true)), .bin .eql (some .int) (.t 136) (.t 137)⟩, ⟨(some 139), none, .pick (.t 132) (.t 138) (.c (.bool false))⟩])
           (.cond (.t 139) (.seq (.seq (.line [⟨(some 16), none, .move (.c (.int .i64 2))⟩])
            (.block 7 (.loop (.seq (.seq (.line [⟨(some 140), none, .move (.t 16)⟩, ⟨(some 141), none, .move (.t 7)⟩, ⟨(some 142), none, .len true (.t 141)⟩, ⟨(some 143), none, .bin .lss none (.t 140) (.t 142)⟩])
              (.cond (.t 143) .skip (.exit 7)))
              (.seq (.block 8 (.seq (.any [] [⟨(some 146), none, .move (.t 0)⟩, ⟨(some 147), none, .move (.t 9)⟩, ⟨(some 148), none, .move (.t 16)⟩, ⟨(some 149), none, .bin .sub none (.t 147) (.t 148)⟩, ⟨(some 150), none, .ix none (.t 146) (.t 149)⟩, ⟨(some 151), none, .move (.t 7)⟩, ⟨(some 152), none, .move (.t 8)⟩, ⟨(some 153), none, .move (.t 16)⟩, ⟨(some 154), none, .bin .sub none (.t 152) (.t 153)⟩, ⟨(some 155), none, .ix none (.t 151) (.t 154)⟩, ⟨(some 156), none, .bin .neq (some .int) (.t 150) (.t 155)⟩] [])
               (.cond (.t 156) (.exit 6) .skip)))
              (.line [⟨(some 144), none, .move (.t 16)⟩, ⟨(some 145), none, .bin .add none (.t 144) (.c (.int .i64 1))⟩, ⟨(some 16), none, .move (.t 145)⟩]))))))
            (.seq (.line [⟨(some 157), none, .move (.t 9)⟩, ⟨(some 158), none, .move (.t 8)⟩, ⟨(some 159), none, .bin .sub none (.t 157) (.t 158)⟩, ⟨(some 4), none, .move (.t 159)⟩])
            .ret)) .skip)))
          (.line [⟨(some 125), none, .move (.t 9)⟩, ⟨(some 126), none, .bin .add none (.t 125) (.c (.int .i64 1))⟩, ⟨(some 9), none, .move (.t 126)⟩]))))))))
      (.seq (.line [⟨(some 4), none, .move (.c (.int .i64 (-1)))⟩])
      .ret))))))))) 1 (.seq .skip
      (.seq (.cond (.c (.bool true)) (.seq (.line [⟨(some 99), none, .move (.t 0)⟩, ⟨(some 100), none, .move (.t 9)⟩, ⟨(some 101), none, .move (.t 8)⟩, ⟨(some 102), none, .bin .sub none (.t 100) (.t 101)⟩, ⟨(some 103), none, .slice .str (.t 99) (some (.t 102)) none none⟩, ⟨(some 104), none, .move (.t 1)⟩, ⟨(some 105), none, .conv .strOfInt (.t 104)⟩, ⟨(some 106), none, .call (.c (.func (.func 108) #[] #[])) [(.t 103), (.t 105)]⟩, ⟨(some 13), none, .move (.t 106)⟩])
       (.seq (.line [⟨(some 107), none, .move (.t 13)⟩, ⟨(some 108), none, .bin .geq none (.t 107) (.c (.int .i64 0))⟩])
       (.cond (.t 108) (.seq (.line [⟨(some 109), none, .move (.t 9)⟩, ⟨(some 110), none, .move (.t 13)⟩, ⟨(some 111), none, .bin .add none (.t 109) (.t 110)⟩, ⟨(some 112), none, .move (.t 8)⟩, ⟨(some 113), none, .bin .sub none (.t 111) (.t 112)⟩, ⟨(some 4), none, .move (.t 113)⟩])
        .ret) .skip))) (.scope (.seq (.line [⟨(some 114), none, .move (.t 7)⟩, ⟨(some 115), none, .move (.t 8)⟩, ⟨(some 116), none, .ix none (.t 114) (.t 115)⟩, ⟨(some 14), none, .move (.t 116)⟩])
        (.seq (.line [⟨(some 117), none, .move (.t 7)⟩, ⟨(some 118), none, .move (.t 8)⟩, ⟨(some 119), none, .bin .sub none (.t 118) (.c (.int .i64 1))⟩, ⟨(some 120), none, .ix none (.t 117) (.t 119)⟩, ⟨(some 15), none, .move (.t 120)⟩])
        (.seq .skip
        (.block 5 (.loop (.seq (.seq (.line [⟨(some 121), none, .move (.t 9)⟩, ⟨(some 122), none, .move (.t 0)⟩, ⟨(some 123), none, .len true (.t 122)⟩, ⟨(some 124), none, .bin .lss none (.t 121) (.t 123)⟩])
          (.cond (.t 124) .skip (.exit 5)))
          (.seq (.block 6 (.seq (.line [⟨(some 127), none, .move (.t 0)⟩, ⟨(some 128), none, .move (.t 9)⟩, ⟨(some 129), none, .ix none (.t 127) (.t 128)⟩, ⟨(some 130), none, .move (.t 14)⟩, ⟨(some 131), none, .bin .eql (some .int) (.t 129) (.t 130)⟩, ⟨(some 132), none, .move (.t 131)⟩, ⟨(some 133), (some (132, true)), .move (.t 0)⟩, ⟨(some 134), (some (132, true)), .move (.t 9)⟩, ⟨(some 135), (some (132, true)), .bin .sub none (.t 134) (.c (.int .i64 1))⟩, ⟨(some 136), (some (132, true)), .ix none (.t 133) (.t 135)⟩, ⟨(some 137), (some (132, true)), .move (.t 15)⟩, ⟨(some 138), (some (132, true)), .bin .eql (some .int) (.t 136) (.t 137)⟩, ⟨(some 139), none, .pick (.t 132) (.t 138) (.c (.bool false))⟩])
           (.cond (.t 139) (.seq (.seq (.line [⟨(some 16), none, .move (.c (.int .i64 2))⟩])
            (.block 7 (.loop (.seq (.seq (.line [⟨(some 140), none, .move (.t 16)⟩, ⟨(some 141), none, .move (.t 7)⟩, ⟨(some 142), none, .len true (.t 141)⟩, ⟨(some 143), none, .bin .lss none (.t 140) (.t 142)⟩])
              (.cond (.t 143) .skip (.exit 7)))
              (.seq (.block 8 (.seq (.any [] [⟨(some 146), none, .move (.t 0)⟩, ⟨(some 147), none, .move (.t 9)⟩, ⟨(some 148), none, .move (.t 16)⟩, ⟨(some 149), none, .bin .sub none (.t 147) (.t 148)⟩, ⟨(some 150), none, .ix none (.t 146) (.t 149)⟩, ⟨(some 151), none, .move (.t 7)⟩, ⟨(some 152), none, .move (.t 8)⟩, ⟨(some 153), none, .move (.t 16)⟩, ⟨(some 154), none, .bin .sub none (.t 152) (.t 153)⟩, ⟨(some 155), none, .ix none (.t 151) (.t 154)⟩, ⟨(some 156), none, .bin .neq (some .int) (.t 150) (.t 155)⟩] [])
               (.cond (.t 156) (.exit 6) .skip)))
              (.line [⟨(some 144), none, .move (.t 16)⟩, ⟨(some 145), none, .bin .add none (.t 144) (.c (.int .i64 1))⟩, ⟨(some 16), none, .move (.t 145)⟩]))))))
            (.seq (.line [⟨(some 157), none, .move (.t 9)⟩, ⟨(some 158), none, .move (.t 8)⟩, ⟨(some 159), none, .bin .sub none (.t 157) (.t 158)⟩, ⟨(some 4), none, .move (.t 159)⟩])
            .ret)) .skip)))
          (.line [⟨(some 125), none, .move (.t 9)⟩, ⟨(some 126), none, .bin .add none (.t 125) (.c (.int .i64 1))⟩, ⟨(some 9), none, .move (.t 126)⟩])))))))) 2 (.seq .skip
        (.block 5 (.loop (.seq (.seq (.line [⟨(some 121), none, .move (.t 9)⟩, ⟨(some 122), none, .move (.t 0)⟩, ⟨(some 123), none, .len true (.t 122)⟩, ⟨(some 124), none, .bin .lss none (.t 121) (.t 123)⟩])
          (.cond (.t 124) .skip (.exit 5)))
          (.seq (.block 6 (.seq (.line [⟨(some 127), none, .move (.t 0)⟩, ⟨(some 128), none, .move (.t 9)⟩, ⟨(some 129), none, .ix none (.t 127) (.t 128)⟩, ⟨(some 130), none, .move (.t 14)⟩, ⟨(some 131), none, .bin .eql (some .int) (.t 129) (.t 130)⟩, ⟨(some 132), none, .move (.t 131)⟩, ⟨(some 133), (some (132, true)), .move (.t 0)⟩, ⟨(some 134), (some (132, true)), .move (.t 9)⟩, ⟨(some 135), (some (132, true)), .bin .sub none (.t 134) (.c (.int .i64 1))⟩, ⟨(some 136), (some (132, true)), .ix none (.t 133) (.t 135)⟩, ⟨(some 137), (some (132, true)), .move (.t 15)⟩, ⟨(some 138), (some (132, true)), .bin .eql (some .int) (.t 136) (.t 137)⟩, ⟨(some 139), none, .pick (.t 132) (.t 138) (.c (.bool false))⟩])
           (.cond (.t 139) (.seq (.seq (.line [⟨(some 16), none, .move (.c (.int .i64 2))⟩])
            (.block 7 (.loop (.seq (.seq (.line [⟨(some 140), none, .move (.t 16)⟩, ⟨(some 141), none, .move (.t 7)⟩, ⟨(some 142), none, .len true (.t 141)⟩, ⟨(some 143), none, .bin .lss none (.t 140) (.t 142)⟩])
              (.cond (.t 143) .skip (.exit 7)))
              (.seq (.block 8 (.seq (.any [] [⟨(some 146), none, .move (.t 0)⟩, ⟨(some 147), none, .move (.t 9)⟩, ⟨(some 148), none, .move (.t 16)⟩, ⟨(some 149), none, .bin .sub none (.t 147) (.t 148)⟩, ⟨(some 150), none, .ix none (.t 146) (.t 149)⟩, ⟨(some 151), none, .move (.t 7)⟩, ⟨(some 152), none, .move (.t 8)⟩, ⟨(some 153), none, .move (.t 16)⟩, ⟨(some 154), none, .bin .sub none (.t 152) (.t 153)⟩, ⟨(some 155), none, .ix none (.t 151) (.t 154)⟩, ⟨(some 156), none, .bin .neq (some .int) (.t 150) (.t 155)⟩] [])
               (.cond (.t 156) (.exit 6) .skip)))
              (.line [⟨(some 144), none, .move (.t 16)⟩, ⟨(some 145), none, .bin .add none (.t 144) (.c (.int .i64 1))⟩, ⟨(some 16), none, .move (.t 145)⟩]))))))
            (.seq (.line [⟨(some 157), none, .move (.t 9)⟩, ⟨(some 158), none, .move (.t 8)⟩, ⟨(some 159), none, .bin .sub none (.t 157) (.t 158)⟩, ⟨(some 4), none, .move (.t 159)⟩])
            .ret)) .skip)))
          (.line [⟨(some 125), none, .move (.t 9)⟩, ⟨(some 126), none, .bin .add none (.t 125) (.c (.int .i64 1))⟩, ⟨(some 9), none, .move (.t 126)⟩]))))))))
      (.seq (.line [⟨(some 4), none, .move (.c (.int .i64 (-1)))⟩])
      .ret))))))))))))⟩

/-- strings.IndexByte -/
def g103 : GFun := ⟨8, [.tmp 4],
 (.seq (.line [⟨(some 4), none, .move (.c (.int .i64 0))⟩])
 (.seq (.line [⟨(some 5), none, .move (.t 0)⟩, ⟨(some 6), none, .move (.t 1)⟩, ⟨(some 7), none, .call (.c (.func (.func 107) #[] #[])) [(.t 5), (.t 6)]⟩, ⟨(some 4), none, .move (.t 7)⟩])
 .ret))⟩
/-- captioner/lines.isWord -/
def g104 : GFun := ⟨13, [.tmp 2],
 (.seq (.line [⟨(some 2), none, .move (.c (.bool false))⟩])
 (.seq (.line [⟨(some 3), none, .move (.t 0)⟩, ⟨(some 4), none, .bin .gtr none (.t 3) (.c (.int .u8 32))⟩, ⟨(some 5), none, .move (.t 4)⟩, ⟨(some 6), (some (5, true)), .move (.t 0)⟩, ⟨(some 7), (some (5, true)), .bin .lss none (.t 6) (.c (.int .u8 127))⟩, ⟨(some 8), none, .pick (.t 5) (.t 7) (.c (.bool false))⟩, ⟨(some 9), none, .move (.t 8)⟩, ⟨(some 10), (some (9, true)), .move (.t 0)⟩, ⟨(some 11), (some (9, true)), .bin .neq (some .int) (.t 10) (.c (.int .u8 34))⟩, ⟨(some 12), none, .pick (.t 9) (.t 11) (.c (.bool false))⟩, ⟨(some 2), none, .move (.t 12)⟩])
 .ret))⟩

/-- internal/bytealg.Cutover -/
def g109 : GFun := ⟨6, [.tmp 2],
 (.seq (.line [⟨(some 2), none, .move (.c (.int .i64 0))⟩])
 (.seq (.line [⟨(some 3), none, .move (.t 0)⟩, ⟨(some 4), none, .bin .add none (.t 3) (.c (.int .i64 16))⟩, ⟨(some 5), none, .bin .quo none (.t 4) (.c (.int .i64 8))⟩, ⟨(some 2), none, .move (.t 5)⟩])
 .ret))⟩

/-- unicode/utf8.ValidRune -/
def g111 : GFun := ⟨17, [.tmp 2],
 (.seq (.line [⟨(some 2), none, .move (.c (.bool false))⟩])
 (.seq (.block 0 (.seq (.line [⟨(some 4), none, .move (.t 0)⟩, ⟨(some 5), none, .bin .leq none (.c (.int .i32 0)) (.t 4)⟩, ⟨(some 6), none, .move (.t 5)⟩, ⟨(some 7), (some (6, true)), .move (.t 0)⟩, ⟨(some 8), (some (6, true)), .bin .lss none (.t 7) (.c (.int .i32 55296))⟩, ⟨(some 9), none, .pick (.t 6) (.t 8) (.c (.bool false))⟩, ⟨(some 3), none, .move (.t 9)⟩])
  (.cond (.t 3) (.seq (.line [⟨(some 2), none, .move (.c (.bool true))⟩])
   .ret) (.seq (.line [⟨(some 11), none, .move (.t 0)⟩, ⟨(some 12), none, .bin .lss none (.c (.int .i32 57343)) (.t 11)⟩, ⟨(some 13), none, .move (.t 12)⟩, ⟨(some 14), (some (13, true)), .move (.t 0)⟩, ⟨(some 15), (some (13, true)), .bin .leq none (.t 14) (.c (.int .i32 1114111))⟩, ⟨(some 16), none, .pick (.t 13) (.t 15) (.c (.bool false))⟩, ⟨(some 10), none, .move (.t 16)⟩])
   (.cond (.t 10) (.seq (.line [⟨(some 2), none, .move (.c (.bool true))⟩])
    .ret) .skip)))))
 (.seq (.line [⟨(some 2), none, .move (.c (.bool false))⟩])
 .ret)))⟩

/-- gosem.cut.vars -/
def g135 : GFun := ⟨6, [],
 (.line [⟨(some 0), none, .build [(.int .u8 0), (.int .u8 0)] [(0, 1, (.c (.int .u8 128))), (1, 1, (.c (.int .u8 191)))]⟩, ⟨(some 1), none, .build [(.int .u8 0), (.int .u8 0)] [(0, 1, (.c (.int .u8 160))), (1, 1, (.c (.int .u8 191)))]⟩, ⟨(some 2), none, .build [(.int .u8 0), (.int .u8 0)] [(0, 1, (.c (.int .u8 128))), (1, 1, (.c (.int .u8 159)))]⟩, ⟨(some 3), none, .build [(.int .u8 0), (.int .u8 0)] [(0, 1, (.c (.int .u8 144))), (1, 1, (.c (.int .u8 191)))]⟩, ⟨(some 4), none, .build [(.int .u8 0), (.int .u8 0)] [(0, 1, (.c (.int .u8 128))), (1, 1, (.c (.int .u8 143)))]⟩, ⟨(some 5), none, .build [(.int .u8 0), (.int .u8 0), (.int .u8 0), (.int .u8 0), (.int .u8 0), (.int .u8 0), (.int .u8 0), (.int .u8 0), (.int .u8 0), (.int .u8 0), (.int .u8 0), (.int .u8 0), (.int .u8 0), (.int .u8 0), (.int .u8 0), (.int .u8 0), (.int .u8 0), (.int .u8 0), (.int .u8 0), (.int .u8 0), (.int .u8 0), (.int .u8 0), (.int .u8 0), (.int .u8 0), (.int .u8 0), (.int .u8 0), (.int .u8 0), (.int .u8 0), (.int .u8 0), (.int .u8 0), (.int .u8 0), (.int .u8 0)] [(0, 2, (.t 0)), (2, 2, (.t 1)), (4, 2, (.t 2)), (6, 2, (.t 3)), (8, 2, (.t 4))]⟩, ⟨none, none, .bad⟩])⟩

def G : FuncId → Option GEnt
  | 3 => some (.fn g3)
  | 4 => some (.fn g4)
  | 5 => some (.fn g5)
  | 6 => some (.pure g6)
  | 7 => some (.pure g7)
  | 8 => some (.pure g8)
  | 9 => some (.fn g9)
  | 10 => some (.fn g10)
  | 11 => some (.fn g11)
  | 12 => some (.fn g12)
  | 13 => some (.fn g13)
  | 14 => some (.pure g14)
  | 15 => some (.fn g15)
  | 16 => some (.pure g16)
  | 17 => some (.fn g17)
  | 18 => some (.fn g18)
  | 19 => some (.fn g19)
  | 21 => some (.pure g21)
  | 22 => some (.pure g22)
  | 23 => some (.pure g23)
  | 24 => some (.pure g24)
  | 25 => some (.pure g25)
  | 26 => some (.pure g26)
  | 27 => some (.pure g27)
  | 28 => some (.fn g28)
  | 29 => some (.pure g29)
  | 30 => some (.pure g30)
  | 31 => some (.fn g31)
  | 32 => some (.fn g32)
  | 33 => some (.pure g33)
  | 34 => some (.pure g34)
  | 35 => some (.fn g35)
  | 36 => some (.fn g36)
  | 37 => some (.fn g37)
  | 38 => some (.fn g38)
  | 39 => some (.fn g39)
  | 40 => some (.fn g40)
  | 41 => some (.fn g41)
  | 42 => some (.fn g42)
  | 43 => some (.fn g43)
  | 44 => some (.fn g44)
  | 45 => some (.fn g45)
  | 46 => some (.fn g46)
  | 47 => some (.fn g47)
  | 51 => some (.pure g51)
  | 52 => some (.pure g52)
  | 53 => some (.fn g53)
  | 54 => some (.pure g54)
  | 55 => some (.pure g55)
  | 56 => some (.fn g56)
  | 57 => some (.pure g57)
  | 58 => some (.pure g58)
  | 59 => some (.pure g59)
  | 60 => some (.fn g60)
  | 61 => some (.pure g61)
  | 63 => some (.fn g63)
  | 64 => some (.fn g64)
  | 65 => some (.fn g65)
  | 66 => some (.fn g66)
  | 67 => some (.fn g67)
  | 68 => some (.pure g68)
  | 69 => some (.fn g69)
  | 70 => some (.fn g70)
  | 71 => some (.fn g71)
  | 72 => some (.fn g72)
  | 73 => some (.fn g73)
  | 74 => some (.pure g74)
  | 82 => some (.fn g82)
  | 83 => some (.pure g83)
  | 84 => some (.pure g84)
  | 85 => some (.pure g85)
  | 87 => some (.fn g87)
  | 88 => some (.fn g88)
  | 89 => some (.fn g89)
  | 90 => some (.fn g90)
  | 91 => some (.fn g91)
  | 92 => some (.fn g92)
  | 93 => some (.pure g93)
  | 94 => some (.fn g94)
  | 100 => some (.fn g100)
  | 101 => some (.pure g101)
  | 103 => some (.pure g103)
  | 104 => some (.pure g104)
  | 109 => some (.pure g109)
  | 111 => some (.pure g111)
  | 135 => some (.fn g135)
  | 62 => some (.ext runSplit)
  | 49 => some (.lib runValid)
  | 107 => some (.lib runIndexByte)
  | 50 => some (.lib runContains)
  | 20 => some (.lib runReplaceAll)
  | _ => none
theorem awake_run : (gbody (gcall G 300 16) 300 g6 [] ⟨.nil, 0, 0⟩).map (·.1) = some (.bool true) := by kernel_rfl
theorem awake_gev (H : GHeap) : gev G 6 [] H = some (.bool true, H) := by
  have h := awake_run
  simp only [Option.map_eq_some_iff] at h
  obtain ⟨⟨v, H'⟩, h1, h2⟩ := h
  simp only at h2
  subst h2
  refine gev_pure (m := 300) (H' := H') (g := g6) rfl rfl rfl ?_
  exact gbody_mono (fun f args H r h => gev_of_gcall h) (Nat.le_refl _) h1
end Go.Gh
