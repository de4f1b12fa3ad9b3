import Derived.Test.YtbficpmoppailaaK4
import Derived.KernelRfl
namespace Go.Gh
open Go.RowKit
set_option maxRecDepth 100000
abbrev m (d n : Nat) : GOper := ⟨some d, none, .move (.t n)⟩
abbrev l (d n : Nat) : GOper := ⟨some d, none, .load none (.t n)⟩
abbrev f (d a n : Nat) : GOper := ⟨some d, none, .fa a (.t n)⟩
abbrev o (d : Nat) (p : GOp) : GOper := ⟨some d, none, p⟩
abbrev u (d g : Nat) (p : GOp) : GOper := ⟨some d, some (g, true), p⟩
abbrev w (d g : Nat) (p : GOp) : GOper := ⟨some d, some (g, false), p⟩
abbrev e (p : GOp) : GOper := ⟨none, none, p⟩
/-- gosem.cut.init -/
def g2 : GFun := ⟨1, [],
 (.line [o 0 (.call (.c (.func (.func 1) #[] #[])) [])])⟩
/-- captioner/captionerlaw55.JournalKeeps -/
def g3 : GFun := ⟨146, [.tmp 4],
 (.seq (.line [o 4 (.move (.c (.bool false)))])
 (.seq (.seq (.line [o 23 (.call (.c (.func (.func 10) #[] #[])) []), o 24 (.un .not (.t 23))])
 (.cond (.t 24) (.seq (.line [o 4 (.move (.c (.bool false)))])
  .ret) .skip))
 (.seq (.line [m 26 0, o 27 (.conv (.int .i64) (.t 26)), o 28 (.bin .rem none (.t 27) (.c (.int .i64 1000))), o 29 (.bin .add none (.c (.int .i64 64)) (.t 28)), o 30 (.call (.c (.func (.func 11) #[] #[])) [(.t 29)]), m 25 30, o 31 (.ext (.t 25) 0), o 32 (.ext (.t 25) 1), m 5 31, m 6 32])
 (.seq (.line [m 34 5, o 35 (.call (.c (.func (.func 12) #[] #[])) [(.t 34)]), m 33 35, o 36 (.ext (.t 33) 0), o 37 (.ext (.t 33) 1), o 38 (.ext (.t 33) 2), m 7 36, m 8 37, m 9 38])
 (.seq (.seq (.line [m 39 9, o 40 (.bin .neq (some .int) (.t 39) (.c (.int .i64 0)))])
 (.cond (.t 40) (.seq (.line [o 4 (.move (.c (.bool false)))])
  .ret) .skip))
 (.seq (.line [o 10 (.move (.c (.slice none 0 0)))])
 (.seq (.line [o 11 (.move (.c (.int .i64 1)))])
 (.seq (.seq (.line [o 12 (.move (.c (.int .i64 0)))])
 (.block 0 (.loop (.seq (.seq (.line [m 41 12, m 42 1, o 43 (.len false (.t 42)), o 44 (.bin .lss none (.t 41) (.t 43)), m 45 44, u 46 45 (.move (.t 12)), u 47 45 (.bin .lss none (.t 46) (.c (.int .i64 30))), o 48 (.pick (.t 45) (.t 47) (.c (.bool false)))])
   (.cond (.t 48) .skip (.exit 0)))
   (.seq (.block 1 (.seq (.line [m 51 1, m 52 12, o 53 (.ia none 2 (.t 51) (.t 52)), f 54 1 53, l 55 54, o 56 (.call (.c (.func (.func 13) #[] #[])) [(.t 55)]), m 13 56])
    (.seq (.seq (.line [m 57 1, m 58 12, o 59 (.ia none 2 (.t 57) (.t 58)), f 60 0 59, l 61 60])
    (.cond (.t 61) (.seq (.line [m 63 7, m 64 13, o 65 (.call (.c (.func (.func 14) #[] #[])) [(.t 63), (.t 64)]), m 62 65, o 66 (.ext (.t 62) 0), o 67 (.ext (.t 62) 1), m 14 66, m 15 67])
     (.seq (.seq (.line [m 68 15, o 69 (.bin .eql (some .int) (.t 68) (.c (.int .i64 0))), m 70 69, u 71 70 (.move (.t 14)), u 72 70 (.move (.t 11)), u 73 70 (.bin .eql (some .int) (.t 71) (.t 72)), o 74 (.pick (.t 70) (.t 73) (.c (.bool false)))])
     (.cond (.t 74) (.seq (.line [m 75 14, m 76 13, o 77 (.build [(.int .i64 0), (.bool false), (.slice none 0 0)] [(0, 1, (.t 75)), (1, 1, (.c (.bool true))), (2, 1, (.t 76))]), o 78 (.buildSl 3 1 [(.int .i64 0), (.bool false), (.slice none 0 0)] [(0, 3, (.t 77))]), m 10 78])
      (.line [m 79 11, o 80 (.bin .add none (.t 79) (.c (.int .i64 1))), m 11 80])) (.seq (.line [m 81 15, o 82 (.bin .neq (some .int) (.t 81) (.c (.int .i64 20))), m 83 82, w 84 83 (.move (.t 14)), w 85 83 (.bin .neq (some .int) (.t 84) (.c (.int .i64 0))), o 86 (.pick (.t 83) (.c (.bool true)) (.t 85))])
      (.cond (.t 86) (.seq (.line [o 4 (.move (.c (.bool false)))])
       .ret) .skip))))
     (.exit 1))) .skip))
    (.seq (.line [m 87 13, o 88 (.len false (.t 87)), m 89 7, o 90 (.call (.c (.func (.func 15) #[] #[])) [(.t 89)]), o 91 (.bin .leq none (.t 88) (.t 90)), m 16 91])
    (.seq (.line [m 93 7, m 94 13, o 95 (.call (.c (.func (.func 16) #[] #[])) [(.t 93), (.t 94)]), m 92 95, o 96 (.ext (.t 92) 0), o 97 (.ext (.t 92) 1), m 17 96, m 18 97])
    (.seq (.seq (.line [m 98 18, o 99 (.bin .eql (some .int) (.t 98) (.c (.int .i64 0))), m 100 16, o 101 (.bin .neq (some .bool) (.t 99) (.t 100))])
    (.cond (.t 101) (.seq (.line [o 4 (.move (.c (.bool false)))])
     .ret) .skip))
    (.seq (.line [m 102 16])
    (.cond (.t 102) (.seq (.seq (.line [m 103 17, m 104 11, o 105 (.bin .neq (some .int) (.t 103) (.t 104))])
     (.cond (.t 105) (.seq (.line [o 4 (.move (.c (.bool false)))])
      .ret) .skip))
     (.seq (.line [m 106 10, m 107 17, m 108 13, o 109 (.build [(.int .i64 0), (.bool false), (.slice none 0 0)] [(0, 1, (.t 107)), (2, 1, (.t 108))]), o 110 (.buildSl 3 1 [(.int .i64 0), (.bool false), (.slice none 0 0)] [(0, 3, (.t 109))]), o 111 (.app 3 40 3 (.t 106) (.t 110)), m 10 111])
     (.line [m 112 11, o 113 (.bin .add none (.t 112) (.c (.int .i64 1))), m 11 113]))) .skip))))))))
   (.line [m 49 12, o 50 (.bin .add none (.t 49) (.c (.int .i64 1))), m 12 50]))))))
 (.seq (.line [m 114 7, o 115 (.call (.c (.func (.func 15) #[] #[])) [(.t 114)]), m 19 115])
 (.seq (.line [m 117 5, o 118 (.call (.c (.func (.func 12) #[] #[])) [(.t 117)]), m 116 118, o 119 (.ext (.t 116) 0), o 120 (.ext (.t 116) 1), o 121 (.ext (.t 116) 2), m 20 119, m 21 120, m 22 121])
 (.seq (.line [m 122 22, o 123 (.bin .eql (some .int) (.t 122) (.c (.int .i64 0))), m 124 123, u 125 124 (.move (.t 21)), u 126 124 (.move (.t 10)), u 127 124 (.call (.c (.func (.func 17) #[] #[])) [(.t 125), (.t 126)]), o 128 (.pick (.t 124) (.t 127) (.c (.bool false))), m 129 128, u 130 129 (.move (.t 20)), u 131 129 (.call (.c (.func (.func 18) #[] #[])) [(.t 130)]), u 132 129 (.move (.t 11)), u 133 129 (.bin .eql (some .int) (.t 131) (.t 132)), o 134 (.pick (.t 129) (.t 133) (.c (.bool false))), m 135 134, u 136 135 (.move (.t 20)), u 137 135 (.call (.c (.func (.func 15) #[] #[])) [(.t 136)]), u 138 135 (.move (.t 19)), u 139 135 (.bin .eql (some .int) (.t 137) (.t 138)), o 140 (.pick (.t 135) (.t 139) (.c (.bool false))), m 141 140, u 142 141 (.move (.t 20)), u 143 141 (.call (.c (.func (.func 19) #[] #[])) [(.t 142)]), u 144 141 (.un .not (.t 143)), o 145 (.pick (.t 141) (.t 144) (.c (.bool false))), m 4 145])
 .ret)))))))))))⟩
/-- captioner/captionerlaw55.JournalPower -/
def g4 : GFun := ⟨159, [.tmp 6],
 (.seq (.line [o 6 (.move (.c (.bool false)))])
 (.seq (.seq (.line [o 23 (.call (.c (.func (.func 10) #[] #[])) []), o 24 (.un .not (.t 23))])
 (.cond (.t 24) (.seq (.line [o 6 (.move (.c (.bool false)))])
  .ret) .skip))
 (.seq (.line [m 26 0, o 27 (.conv (.int .i64) (.t 26)), o 28 (.bin .rem none (.t 27) (.c (.int .i64 600))), o 29 (.bin .add none (.c (.int .i64 64)) (.t 28)), o 30 (.call (.c (.func (.func 11) #[] #[])) [(.t 29)]), m 25 30, o 31 (.ext (.t 25) 0), o 32 (.ext (.t 25) 1), m 7 31, m 8 32])
 (.seq (.line [m 34 7, o 35 (.call (.c (.func (.func 12) #[] #[])) [(.t 34)]), m 33 35, o 36 (.ext (.t 33) 0), o 37 (.ext (.t 33) 1), o 38 (.ext (.t 33) 2), m 9 36, m 10 37, m 11 38])
 (.seq (.seq (.line [m 39 11, o 40 (.bin .neq (some .int) (.t 39) (.c (.int .i64 0))), m 41 40, w 42 41 (.move (.t 1)), w 43 41 (.len false (.t 42)), w 44 41 (.bin .eql (some .int) (.t 43) (.c (.int .i64 0))), o 45 (.pick (.t 41) (.c (.bool true)) (.t 44))])
 (.cond (.t 45) (.seq (.line [m 46 11, o 47 (.bin .eql (some .int) (.t 46) (.c (.int .i64 0))), m 6 47])
  .ret) .skip))
 (.seq (.line [m 48 1, m 49 1, o 50 (.len false (.t 49)), o 51 (.min (.t 50) [(.c (.int .i64 16))]), o 52 (.slice (.sl 2) (.t 48) none (some (.t 51)) none), m 1 52])
 (.seq (.seq (.line [m 53 1, m 54 1, o 55 (.len false (.t 54)), o 56 (.bin .sub none (.t 55) (.c (.int .i64 1))), o 57 (.slice (.sl 2) (.t 53) none (some (.t 56)) none), o 58 (.len false (.t 57)), o 59 (.move (.c (.int .i64 0)))])
 (.block 0 (.loop (.seq (.line [o 60 (.bin .lss none (.t 59) (.t 58))])
   (.seq (.cond (.t 60) .skip (.exit 0))
   (.seq (.block 1 (.seq (.line [o 61 (.ia none 2 (.t 57) (.t 59)), o 62 (.load (some 2) (.t 61)), o 13 (.alloc 0 [(.bool false), (.slice none 0 0)]), e (.store (some 2) (.t 13) (.t 62))])
    (.seq (.line [f 63 0 13, l 64 63])
    (.cond (.t 64) (.line [m 65 9, f 66 1 13, l 67 66, o 68 (.call (.c (.func (.func 13) #[] #[])) [(.t 67)]), o 69 (.call (.c (.func (.func 14) #[] #[])) [(.t 65), (.t 68)])]) (.line [m 70 9, f 71 1 13, l 72 71, o 73 (.call (.c (.func (.func 13) #[] #[])) [(.t 72)]), o 74 (.call (.c (.func (.func 16) #[] #[])) [(.t 70), (.t 73)])])))))
   (.line [o 75 (.bin .add none (.t 59) (.c (.int .i64 1))), m 59 75])))))))
 (.seq (.line [m 77 7, o 78 (.call (.c (.func (.func 12) #[] #[])) [(.t 77)]), m 76 78, o 79 (.ext (.t 76) 0), o 80 (.ext (.t 76) 1), o 81 (.ext (.t 76) 2), m 9 79, m 14 80, m 15 81])
 (.seq (.seq (.line [m 82 15, o 83 (.bin .neq (some .int) (.t 82) (.c (.int .i64 0)))])
 (.cond (.t 83) (.seq (.line [o 6 (.move (.c (.bool false)))])
  .ret) .skip))
 (.seq (.line [m 84 1, m 85 1, o 86 (.len false (.t 85)), o 87 (.bin .sub none (.t 86) (.c (.int .i64 1))), o 88 (.ia none 2 (.t 84) (.t 87)), o 89 (.load (some 2) (.t 88)), o 16 (.alloc 0 [(.bool false), (.slice none 0 0)]), e (.store (some 2) (.t 16) (.t 89))])
 (.seq (.line [f 90 1 16, l 91 90, o 92 (.call (.c (.func (.func 13) #[] #[])) [(.t 91)]), m 17 92])
 (.seq (.line [m 93 7, m 94 2, o 95 (.conv (.int .i64) (.t 94)), o 96 (.bin .rem none (.t 95) (.c (.int .i64 100))), o 97 (.call (.c (.func (.func 20) #[] #[])) [(.t 93), (.t 96)])])
 (.seq (.line [o 18 (.move (.c (.int .i64 0)))])
 (.seq (.line [o 19 (.move (.c (.int .i64 0)))])
 (.seq (.seq (.line [f 98 0 16, l 99 98])
 (.cond (.t 99) (.line [m 101 9, m 102 17, o 103 (.call (.c (.func (.func 14) #[] #[])) [(.t 101), (.t 102)]), m 100 103, o 104 (.ext (.t 100) 0), o 105 (.ext (.t 100) 1), m 18 104, m 19 105]) (.line [m 107 9, m 108 17, o 109 (.call (.c (.func (.func 16) #[] #[])) [(.t 107), (.t 108)]), m 106 109, o 110 (.ext (.t 106) 0), o 111 (.ext (.t 106) 1), m 18 110, m 19 111])))
 (.seq (.line [m 112 7, o 113 (.call (.c (.func (.func 21) #[] #[])) [(.t 112)])])
 (.seq (.line [m 115 7, o 116 (.call (.c (.func (.func 12) #[] #[])) [(.t 115)]), m 114 116, o 117 (.ext (.t 114) 0), o 118 (.ext (.t 114) 1), o 119 (.ext (.t 114) 2), m 20 117, m 21 118, m 22 119])
 (.seq (.seq (.line [m 120 22, o 121 (.bin .neq (some .int) (.t 120) (.c (.int .i64 0)))])
 (.cond (.t 121) (.seq (.line [o 6 (.move (.c (.bool false)))])
  .ret) .skip))
 (.seq (.block 2 (.seq (.line [m 123 19, o 124 (.bin .neq (some .int) (.t 123) (.c (.int .i64 0))), m 122 124])
  (.cond (.t 122) (.seq (.line [m 125 18, o 126 (.bin .eql (some .int) (.t 125) (.c (.int .i64 0))), m 127 126, u 128 127 (.move (.t 19)), u 129 127 (.bin .eql (some .int) (.t 128) (.c (.int .i64 20))), u 130 127 (.move (.t 129)), w 131 130 (.move (.t 19)), w 132 130 (.bin .eql (some .int) (.t 131) (.c (.int .i64 21))), u 133 127 (.pick (.t 130) (.c (.bool true)) (.t 132)), o 134 (.pick (.t 127) (.t 133) (.c (.bool false))), m 135 134, u 136 135 (.move (.t 21)), u 137 135 (.move (.t 14)), u 138 135 (.call (.c (.func (.func 17) #[] #[])) [(.t 136), (.t 137)]), o 139 (.pick (.t 135) (.t 138) (.c (.bool false))), m 6 139])
   .ret) (.seq (.line [f 141 0 16, l 142 141, m 140 142])
   (.cond (.t 140) (.seq (.line [m 143 21, m 144 18, m 145 17, o 146 (.build [(.int .i64 0), (.bool false), (.slice none 0 0)] [(0, 1, (.t 144)), (1, 1, (.c (.bool true))), (2, 1, (.t 145))]), o 147 (.buildSl 3 1 [(.int .i64 0), (.bool false), (.slice none 0 0)] [(0, 3, (.t 146))]), o 148 (.call (.c (.func (.func 17) #[] #[])) [(.t 143), (.t 147)]), m 6 148])
    .ret) .skip)))))
 (.seq (.line [m 149 21, o 150 (.buildSl 3 0 [(.int .i64 0), (.bool false), (.slice none 0 0)] []), m 151 14, o 152 (.app 3 40 3 (.t 150) (.t 151)), m 153 18, m 154 17, o 155 (.build [(.int .i64 0), (.bool false), (.slice none 0 0)] [(0, 1, (.t 153)), (2, 1, (.t 154))]), o 156 (.buildSl 3 1 [(.int .i64 0), (.bool false), (.slice none 0 0)] [(0, 3, (.t 155))]), o 157 (.app 3 40 3 (.t 152) (.t 156)), o 158 (.call (.c (.func (.func 17) #[] #[])) [(.t 149), (.t 157)]), m 6 158])
 .ret))))))))))))))))))))⟩
/-- captioner/captionerlaw55.JournalMakes -/
def g5 : GFun := ⟨54, [.tmp 2],
 (.seq (.line [o 2 (.move (.c (.bool false)))])
 (.seq (.seq (.line [o 7 (.call (.c (.func (.func 10) #[] #[])) []), o 8 (.un .not (.t 7))])
 (.cond (.t 8) (.seq (.line [o 2 (.move (.c (.bool false)))])
  .ret) .skip))
 (.seq (.seq (.line [m 9 0, o 10 (.bin .gtr none (.t 9) (.c (.int .i64 4096))), m 11 10, u 12 11 (.move (.t 0)), u 13 11 (.bin .leq none (.t 12) (.c (.int .i64 8388608))), o 14 (.pick (.t 11) (.t 13) (.c (.bool false)))])
 (.cond (.t 14) (.line [m 15 0, o 16 (.bin .rem none (.t 15) (.c (.int .i64 64))), o 17 (.bin .add none (.c (.int .i64 4096)) (.t 16)), m 0 17]) .skip))
 (.seq (.line [m 19 0, o 20 (.call (.c (.func (.func 11) #[] #[])) [(.t 19)]), m 18 20, o 21 (.ext (.t 18) 0), o 22 (.ext (.t 18) 1), m 3 21, m 4 22])
 (.seq (.line [m 24 0, o 25 (.call (.c (.func (.func 22) #[] #[])) [(.t 24)]), m 23 25, o 26 (.ext (.t 23) 0), o 27 (.ext (.t 23) 1), o 5 (.alloc 0 [(.int .i64 0), (.slice none 0 0), (.bool false), (.int .i64 0), (.bool false)]), e (.store (some 5) (.t 5) (.t 26)), m 6 27])
 (.seq (.any [] [m 28 4, m 29 6, o 30 (.bin .eql (some .int) (.t 28) (.t 29)), m 31 30, u 32 31 (.move (.t 3)), u 33 31 (.bin .eql (some .ptr) (.t 32) (.c (.pointer none))), u 34 31 (.move (.t 4)), u 35 31 (.bin .neq (some .int) (.t 34) (.c (.int .i64 0))), u 36 31 (.bin .eql (some .bool) (.t 33) (.t 35)), o 37 (.pick (.t 31) (.t 36) (.c (.bool false))), m 38 37, u 39 38 (.move (.t 3)), u 40 38 (.call (.c (.func (.func 23) #[] #[])) [(.t 39)]), u 41 38 (.conv .ofBytes (.t 40)), u 42 38 (.fa 1 (.t 5)), u 43 38 (.load none (.t 42)), u 44 38 (.conv .ofBytes (.t 43)), u 45 38 (.bin .eql (some .str) (.t 41) (.t 44)), o 46 (.pick (.t 38) (.t 45) (.c (.bool false))), m 47 46, u 48 47 (.move (.t 3)), u 49 47 (.call (.c (.func (.func 24) #[] #[])) [(.t 48)]), u 50 47 (.fa 0 (.t 5)), u 51 47 (.load none (.t 50)), u 52 47 (.bin .eql (some .int) (.t 49) (.t 51)), o 53 (.pick (.t 47) (.t 52) (.c (.bool false))), m 2 53] [])
 .ret))))))⟩
/-- captioner/captionerlaw55.JournalDamage -/
def g6 : GFun := ⟨172, [.tmp 6],
 (.seq (.line [o 6 (.move (.c (.bool false)))])
 (.seq (.seq (.line [o 29 (.call (.c (.func (.func 10) #[] #[])) []), o 30 (.un .not (.t 29))])
 (.cond (.t 30) (.seq (.line [o 6 (.move (.c (.bool false)))])
  .ret) .skip))
 (.seq (.line [o 32 (.call (.c (.func (.func 11) #[] #[])) [(.c (.int .i64 400))]), m 31 32, o 33 (.ext (.t 31) 0), o 34 (.ext (.t 31) 1), m 7 33, m 8 34])
 (.seq (.line [m 36 7, o 37 (.call (.c (.func (.func 12) #[] #[])) [(.t 36)]), m 35 37, o 38 (.ext (.t 35) 0), o 39 (.ext (.t 35) 1), o 40 (.ext (.t 35) 2), m 9 38, m 10 39, m 11 40])
 (.seq (.line [o 12 (.move (.c (.slice none 0 0)))])
 (.seq (.seq (.line [m 41 0, o 42 (.conv (.int .i64) (.t 41)), o 43 (.bin .rem none (.t 42) (.c (.int .i64 5))), o 44 (.bin .add none (.t 43) (.c (.int .i64 1))), o 45 (.move (.c (.int .i64 0)))])
 (.block 0 (.loop (.seq (.line [o 46 (.bin .lss none (.t 45) (.t 44))])
   (.seq (.cond (.t 46) .skip (.exit 0))
   (.seq (.block 1 (.seq (.line [m 47 45, m 13 47])
    (.seq (.line [m 48 13, o 49 (.conv (.int .u8) (.t 48)), o 50 (.buildSl 257 1 [(.int .u8 0)] [(0, 1, (.t 49))]), m 51 2, o 52 (.app 1 1 257 (.t 50) (.t 51)), o 53 (.call (.c (.func (.func 13) #[] #[])) [(.t 52)]), m 14 53])
    (.seq (.line [m 55 9, m 56 14, o 57 (.call (.c (.func (.func 16) #[] #[])) [(.t 55), (.t 56)]), m 54 57, o 58 (.ext (.t 54) 0), o 59 (.ext (.t 54) 1), m 15 58, m 16 59])
    (.seq (.line [m 60 16, o 61 (.bin .eql (some .int) (.t 60) (.c (.int .i64 0)))])
    (.cond (.t 61) (.line [m 62 12, m 63 15, m 64 14, o 65 (.build [(.int .i64 0), (.bool false), (.slice none 0 0)] [(0, 1, (.t 63)), (2, 1, (.t 64))]), o 66 (.buildSl 3 1 [(.int .i64 0), (.bool false), (.slice none 0 0)] [(0, 3, (.t 65))]), o 67 (.app 3 40 3 (.t 62) (.t 66)), m 12 67]) .skip))))))
   (.line [o 68 (.bin .add none (.t 45) (.c (.int .i64 1))), m 45 68])))))))
 (.seq (.line [m 69 9, o 70 (.call (.c (.func (.func 15) #[] #[])) [(.t 69)]), o 71 (.bin .sub none (.c (.int .i64 382)) (.t 70)), m 17 71])
 (.seq (.line [m 72 1, o 73 (.conv (.int .i64) (.t 72)), m 74 17, o 75 (.bin .sub none (.t 74) (.c (.int .i64 13))), o 76 (.bin .mul none (.t 75) (.c (.int .i64 8))), o 77 (.bin .rem none (.t 73) (.t 76)), o 78 (.bin .add none (.c (.int .i64 104)) (.t 77)), m 18 78])
 (.seq (.line [o 19 (.move (.c (.int .i64 13)))])
 (.seq (.seq (.line [m 79 12, o 80 (.len false (.t 79)), o 81 (.move (.c (.int .i64 0)))])
 (.block 2 (.loop (.seq (.line [o 82 (.bin .lss none (.t 81) (.t 80))])
   (.seq (.cond (.t 82) .skip (.exit 2))
   (.seq (.block 3 (.seq (.line [o 83 (.ia none 3 (.t 79) (.t 81)), o 84 (.load (some 3) (.t 83)), o 21 (.alloc 0 [(.int .i64 0), (.bool false), (.slice none 0 0)]), e (.store (some 3) (.t 21) (.t 84))])
    (.seq (.seq (.line [m 85 18, o 86 (.bin .quo none (.t 85) (.c (.int .i64 8))), m 87 19, o 88 (.bin .gtr none (.t 86) (.t 87)), m 89 88, u 90 89 (.move (.t 18)), u 91 89 (.bin .quo none (.t 90) (.c (.int .i64 8))), u 92 89 (.move (.t 19)), u 93 89 (.bin .add none (.t 92) (.c (.int .i64 5))), u 94 89 (.bin .lss none (.t 91) (.t 93)), o 95 (.pick (.t 89) (.t 94) (.c (.bool false)))])
    (.cond (.t 95) (.seq (.line [o 6 (.move (.c (.bool true)))])
     .ret) .skip))
    (.line [m 96 19, f 97 2 21, l 98 97, o 99 (.len false (.t 98)), o 100 (.bin .add none (.c (.int .i64 17)) (.t 99)), o 101 (.bin .add none (.t 96) (.t 100)), m 19 101]))))
   (.line [o 102 (.bin .add none (.t 81) (.c (.int .i64 1))), m 81 102])))))))
 (.seq (.seq (.line [m 103 7, m 104 18, o 105 (.call (.c (.func (.func 25) #[] #[])) [(.t 103), (.t 104)]), o 106 (.bin .neq (some .int) (.t 105) (.c (.int .i64 0)))])
 (.cond (.t 106) (.seq (.line [o 6 (.move (.c (.bool false)))])
  .ret) .skip))
 (.seq (.line [m 108 7, o 109 (.call (.c (.func (.func 12) #[] #[])) [(.t 108)]), m 107 109, o 110 (.ext (.t 107) 0), o 111 (.ext (.t 107) 1), o 112 (.ext (.t 107) 2), m 22 110, m 23 111, m 24 112])
 (.seq (.seq (.line [m 113 24, o 114 (.bin .neq (some .int) (.t 113) (.c (.int .i64 0))), m 115 114, w 116 115 (.move (.t 23)), w 117 115 (.len false (.t 116)), w 118 115 (.move (.t 12)), w 119 115 (.len false (.t 118)), w 120 115 (.bin .geq none (.t 117) (.t 119)), o 121 (.pick (.t 115) (.c (.bool true)) (.t 120)), m 122 121, w 123 122 (.move (.t 23)), w 124 122 (.move (.t 12)), w 125 122 (.move (.t 23)), w 126 122 (.len false (.t 125)), w 127 122 (.slice (.sl 3) (.t 124) none (some (.t 126)) none), w 128 122 (.call (.c (.func (.func 17) #[] #[])) [(.t 123), (.t 127)]), w 129 122 (.un .not (.t 128)), o 130 (.pick (.t 122) (.c (.bool true)) (.t 129))])
 (.cond (.t 130) (.seq (.line [o 6 (.move (.c (.bool false)))])
  .ret) .skip))
 (.seq (.line [o 25 (.move (.c (.int .i64 13)))])
 (.seq (.seq (.line [m 131 23, o 132 (.len false (.t 131)), o 133 (.move (.c (.int .i64 0)))])
 (.block 4 (.loop (.seq (.line [o 134 (.bin .lss none (.t 133) (.t 132))])
   (.seq (.cond (.t 134) .skip (.exit 4))
   (.seq (.block 5 (.seq (.line [o 135 (.ia none 3 (.t 131) (.t 133)), o 136 (.load (some 3) (.t 135)), o 27 (.alloc 0 [(.int .i64 0), (.bool false), (.slice none 0 0)]), e (.store (some 3) (.t 27) (.t 136))])
    (.line [m 137 25, f 138 2 27, l 139 138, o 140 (.len false (.t 139)), o 141 (.bin .add none (.c (.int .i64 17)) (.t 140)), o 142 (.bin .add none (.t 137) (.t 141)), m 25 142])))
   (.line [o 143 (.bin .add none (.t 133) (.c (.int .i64 1))), m 133 143])))))))
 (.seq (.line [m 144 25, o 145 (.bin .add none (.t 144) (.c (.int .i64 17))), m 146 12, m 147 23, o 148 (.len false (.t 147)), o 149 (.ia none 3 (.t 146) (.t 148)), f 150 2 149, l 151 150, o 152 (.len false (.t 151)), o 153 (.bin .add none (.t 145) (.t 152)), m 28 153])
 (.seq (.line [m 154 18, o 155 (.bin .quo none (.t 154) (.c (.int .i64 8))), m 156 25, o 157 (.bin .geq none (.t 155) (.t 156)), m 158 157, u 159 158 (.move (.t 18)), u 160 158 (.bin .quo none (.t 159) (.c (.int .i64 8))), u 161 158 (.move (.t 28)), u 162 158 (.bin .lss none (.t 160) (.t 161)), o 163 (.pick (.t 158) (.t 162) (.c (.bool false))), m 164 163, u 165 164 (.move (.t 22)), u 166 164 (.call (.c (.func (.func 18) #[] #[])) [(.t 165)]), u 167 164 (.move (.t 23)), u 168 164 (.len false (.t 167)), u 169 164 (.bin .add none (.t 168) (.c (.int .i64 1))), u 170 164 (.bin .eql (some .int) (.t 166) (.t 169)), o 171 (.pick (.t 164) (.t 170) (.c (.bool false))), m 6 171])
 .ret)))))))))))))))))⟩
/-- captioner/captionerlaw55.JournalBroken -/
def g7 : GFun := ⟨156, [.tmp 6],
 (.seq (.line [o 6 (.move (.c (.bool false)))])
 (.seq (.seq (.line [o 27 (.call (.c (.func (.func 10) #[] #[])) []), o 28 (.un .not (.t 27))])
 (.cond (.t 28) (.seq (.line [o 6 (.move (.c (.bool false)))])
  .ret) .skip))
 (.seq (.line [o 30 (.call (.c (.func (.func 11) #[] #[])) [(.c (.int .i64 300))]), m 29 30, o 31 (.ext (.t 29) 0), o 32 (.ext (.t 29) 1), m 7 31, m 8 32])
 (.seq (.line [m 34 7, o 35 (.call (.c (.func (.func 12) #[] #[])) [(.t 34)]), m 33 35, o 36 (.ext (.t 33) 0), o 37 (.ext (.t 33) 1), o 38 (.ext (.t 33) 2), m 9 36, m 10 37, m 11 38])
 (.seq (.line [m 39 9, o 40 (.buildSl 257 5 [(.int .u8 0)] [(0, 1, (.c (.int .u8 102))), (1, 1, (.c (.int .u8 105))), (2, 1, (.c (.int .u8 114))), (3, 1, (.c (.int .u8 115))), (4, 1, (.c (.int .u8 116)))]), o 41 (.keep (.t 40)), o 42 (.call (.c (.func (.func 16) #[] #[])) [(.t 39), (.t 41)])])
 (.seq (.line [m 43 1, o 44 (.call (.c (.func (.func 13) #[] #[])) [(.t 43)]), m 1 44])
 (.seq (.line [m 45 7, m 46 0, o 47 (.conv (.int .i64) (.t 46)), o 48 (.bin .rem none (.t 47) (.c (.int .i64 19))), o 49 (.call (.c (.func (.func 20) #[] #[])) [(.t 45), (.t 48)])])
 (.seq (.line [o 12 (.move (.c (.int .i64 0)))])
 (.seq (.seq (.line [m 50 2])
 (.cond (.t 50) (.line [m 52 9, m 53 1, o 54 (.call (.c (.func (.func 14) #[] #[])) [(.t 52), (.t 53)]), m 51 54, o 55 (.ext (.t 51) 0), o 56 (.ext (.t 51) 1), m 12 56]) (.line [m 58 9, m 59 1, o 60 (.call (.c (.func (.func 16) #[] #[])) [(.t 58), (.t 59)]), m 57 60, o 61 (.ext (.t 57) 0), o 62 (.ext (.t 57) 1), m 12 62])))
 (.seq (.line [m 64 7, o 65 (.call (.c (.func (.func 12) #[] #[])) [(.t 64)]), m 63 65, o 66 (.ext (.t 63) 0), o 67 (.ext (.t 63) 1), o 68 (.ext (.t 63) 2), m 13 66, m 14 67, m 15 68])
 (.seq (.line [m 69 7, o 70 (.call (.c (.func (.func 26) #[] #[])) [(.t 69)]), m 16 70])
 (.seq (.line [m 71 7, o 72 (.call (.c (.func (.func 21) #[] #[])) [(.t 71)])])
 (.seq (.line [m 73 7, o 74 (.call (.c (.func (.func 23) #[] #[])) [(.t 73)]), o 75 (.conv .ofBytes (.t 74)), m 17 75])
 (.seq (.line [m 77 9, o 78 (.buildSl 257 1 [(.int .u8 0)] [(0, 1, (.c (.int .u8 120)))]), o 79 (.keep (.t 78)), o 80 (.call (.c (.func (.func 16) #[] #[])) [(.t 77), (.t 79)]), m 76 80, o 81 (.ext (.t 76) 0), o 82 (.ext (.t 76) 1), m 18 81, m 19 82])
 (.seq (.line [m 84 9, o 85 (.buildSl 257 1 [(.int .u8 0)] [(0, 1, (.c (.int .u8 120)))]), o 86 (.keep (.t 85)), o 87 (.call (.c (.func (.func 14) #[] #[])) [(.t 84), (.t 86)]), m 83 87, o 88 (.ext (.t 83) 0), o 89 (.ext (.t 83) 1), m 20 88, m 21 89])
 (.seq (.seq (.line [m 90 12, o 91 (.bin .neq (some .int) (.t 90) (.c (.int .i64 21))), m 92 91, w 93 92 (.move (.t 15)), w 94 92 (.bin .neq (some .int) (.t 93) (.c (.int .i64 21))), o 95 (.pick (.t 92) (.c (.bool true)) (.t 94)), m 96 95, w 97 96 (.move (.t 16)), w 98 96 (.un .not (.t 97)), o 99 (.pick (.t 96) (.c (.bool true)) (.t 98)), m 100 99, w 101 100 (.move (.t 19)), w 102 100 (.bin .neq (some .int) (.t 101) (.c (.int .i64 21))), o 103 (.pick (.t 100) (.c (.bool true)) (.t 102)), m 104 103, w 105 104 (.move (.t 21)), w 106 104 (.bin .neq (some .int) (.t 105) (.c (.int .i64 21))), o 107 (.pick (.t 104) (.c (.bool true)) (.t 106)), m 108 107, w 109 108 (.move (.t 7)), w 110 108 (.call (.c (.func (.func 23) #[] #[])) [(.t 109)]), w 111 108 (.conv .ofBytes (.t 110)), w 112 108 (.move (.t 17)), w 113 108 (.bin .neq (some .str) (.t 111) (.t 112)), o 114 (.pick (.t 108) (.c (.bool true)) (.t 113)), m 115 114, w 116 115 (.move (.t 9)), w 117 115 (.call (.c (.func (.func 18) #[] #[])) [(.t 116)]), w 118 115 (.bin .neq (some .int) (.t 117) (.c (.int .i64 2))), o 119 (.pick (.t 115) (.c (.bool true)) (.t 118))])
 (.cond (.t 119) (.seq (.line [o 6 (.move (.c (.bool false)))])
  .ret) .skip))
 (.seq (.line [m 121 7, o 122 (.call (.c (.func (.func 12) #[] #[])) [(.t 121)]), m 120 122, o 123 (.ext (.t 120) 0), o 124 (.ext (.t 120) 1), o 125 (.ext (.t 120) 2), m 22 123, m 23 124, m 24 125])
 (.seq (.line [m 127 22, o 128 (.buildSl 257 6 [(.int .u8 0)] [(0, 1, (.c (.int .u8 115))), (1, 1, (.c (.int .u8 101))), (2, 1, (.c (.int .u8 99))), (3, 1, (.c (.int .u8 111))), (4, 1, (.c (.int .u8 110))), (5, 1, (.c (.int .u8 100)))]), o 129 (.keep (.t 128)), o 130 (.call (.c (.func (.func 16) #[] #[])) [(.t 127), (.t 129)]), m 126 130, o 131 (.ext (.t 126) 0), o 132 (.ext (.t 126) 1), m 25 131, m 26 132])
 (.seq (.line [m 133 24, o 134 (.bin .eql (some .int) (.t 133) (.c (.int .i64 0))), m 135 134, u 136 135 (.move (.t 23)), u 137 135 (.len false (.t 136)), u 138 135 (.bin .eql (some .int) (.t 137) (.c (.int .i64 1))), o 139 (.pick (.t 135) (.t 138) (.c (.bool false))), m 140 139, u 141 140 (.move (.t 23)), u 142 140 (.ia none 3 (.t 141) (.c (.int .i64 0))), u 143 140 (.fa 2 (.t 142)), u 144 140 (.load none (.t 143)), u 145 140 (.conv .ofBytes (.t 144)), u 146 140 (.bin .eql (some .str) (.t 145) (.c (.string ⟨#[102, 105, 114, 115, 116]⟩))), o 147 (.pick (.t 140) (.t 146) (.c (.bool false))), m 148 147, u 149 148 (.move (.t 25)), u 150 148 (.bin .eql (some .int) (.t 149) (.c (.int .i64 2))), o 151 (.pick (.t 148) (.t 150) (.c (.bool false))), m 152 151, u 153 152 (.move (.t 26)), u 154 152 (.bin .eql (some .int) (.t 153) (.c (.int .i64 0))), o 155 (.pick (.t 152) (.t 154) (.c (.bool false))), m 6 155])
 .ret)))))))))))))))))))⟩
/-- captioner/captionerlaw55.JournalPlays -/
def g8 : GFun := ⟨237, [.tmp 4],
 (.seq (.line [o 4 (.move (.c (.bool false)))])
 (.seq (.seq (.line [o 30 (.call (.c (.func (.func 10) #[] #[])) []), o 31 (.un .not (.t 30))])
 (.cond (.t 31) (.seq (.line [o 4 (.move (.c (.bool false)))])
  .ret) .skip))
 (.seq (.line [m 33 0, o 34 (.conv (.int .i64) (.t 33)), o 35 (.bin .add none (.c (.int .i64 64)) (.t 34)), o 36 (.call (.c (.func (.func 11) #[] #[])) [(.t 35)]), m 32 36, o 37 (.ext (.t 32) 0), o 38 (.ext (.t 32) 1), m 5 37, m 6 38])
 (.seq (.line [m 40 0, o 41 (.conv (.int .i64) (.t 40)), o 42 (.bin .add none (.c (.int .i64 64)) (.t 41)), o 43 (.call (.c (.func (.func 22) #[] #[])) [(.t 42)]), m 39 43, o 44 (.ext (.t 39) 0), o 45 (.ext (.t 39) 1), o 7 (.alloc 0 [(.int .i64 0), (.slice none 0 0), (.bool false), (.int .i64 0), (.bool false)]), e (.store (some 5) (.t 7) (.t 44)), m 8 45])
 (.seq (.line [m 47 5, o 48 (.call (.c (.func (.func 12) #[] #[])) [(.t 47)]), m 46 48, o 49 (.ext (.t 46) 0), o 50 (.ext (.t 46) 1), o 51 (.ext (.t 46) 2), m 9 49, m 10 50, m 11 51])
 (.seq (.line [o 53 (.load (some 5) (.t 7)), o 54 (.call (.c (.func (.func 27) #[] #[])) [(.t 53)]), m 52 54, o 55 (.ext (.t 52) 0), o 56 (.ext (.t 52) 1), o 57 (.ext (.t 52) 2), o 12 (.alloc 0 [(.int .i64 0), (.int .i64 0), (.int .i64 0), (.int .u64 0), (.bool false), (.bool false)]), e (.store (some 6) (.t 12) (.t 55)), m 13 56, m 14 57])
 (.seq (.seq (.line [o 15 (.move (.c (.int .i64 0)))])
 (.block 0 (.loop (.seq (.seq (.line [m 58 15, m 59 1, o 60 (.len false (.t 59)), o 61 (.bin .lss none (.t 58) (.t 60)), m 62 61, u 63 62 (.move (.t 15)), u 64 62 (.bin .lss none (.t 63) (.c (.int .i64 20))), o 65 (.pick (.t 62) (.t 64) (.c (.bool false)))])
   (.cond (.t 65) .skip (.exit 0)))
   (.seq (.block 1 (.seq (.line [m 68 1, m 69 15, o 70 (.ia none 3 (.t 68) (.t 69)), o 71 (.load (some 3) (.t 70)), o 16 (.alloc 0 [(.int .u8 0), (.int .i64 0), (.slice none 0 0)]), e (.store (some 3) (.t 16) (.t 71))])
    (.seq (.seq (.line [f 72 0 16, l 73 72, o 74 (.bin .rem none (.t 73) (.c (.int .u8 9)))])
    (.block 2 (.seq (.seq (.line [o 76 (.bin .eql (some .int) (.t 74) (.c (.int .u8 0))), m 75 76])
     (.cond (.t 75) .skip (.seq (.line [o 77 (.bin .eql (some .int) (.t 74) (.c (.int .u8 1))), m 75 77])
      (.cond (.t 75) .skip (.seq (.line [o 78 (.bin .eql (some .int) (.t 74) (.c (.int .u8 2))), m 75 78])
       (.cond (.t 75) .skip (.seq (.line [o 79 (.bin .eql (some .int) (.t 74) (.c (.int .u8 3))), m 75 79])
        (.cond (.t 75) .skip (.line [o 80 (.bin .eql (some .int) (.t 74) (.c (.int .u8 4))), m 75 80])))))))))
     (.cond (.t 75) (.seq (.line [o 17 (.move (.c (.int .i64 0))), o 18 (.move (.c (.int .i64 0)))])
      (.seq (.line [o 19 (.move (.c (.int .i64 0))), o 20 (.move (.c (.int .i64 0)))])
      (.seq (.seq (.line [f 81 0 16, l 82 81, o 83 (.bin .rem none (.t 82) (.c (.int .u8 9))), o 84 (.bin .eql (some .int) (.t 83) (.c (.int .u8 4)))])
      (.cond (.t 84) (.seq (.line [m 86 9, f 87 2 16, l 88 87, o 89 (.call (.c (.func (.func 13) #[] #[])) [(.t 88)]), o 90 (.call (.c (.func (.func 14) #[] #[])) [(.t 86), (.t 89)]), m 85 90, o 91 (.ext (.t 85) 0), o 92 (.ext (.t 85) 1), m 17 91, m 19 92])
       (.any [] [o 94 (.load (some 5) (.t 7)), o 95 (.load (some 6) (.t 12)), f 96 2 16, l 97 96, o 98 (.call (.c (.func (.func 13) #[] #[])) [(.t 97)]), o 99 (.call (.c (.func (.func 28) #[] #[])) [(.t 94), (.t 95), (.t 98)]), m 93 99, o 100 (.ext (.t 93) 0), o 101 (.ext (.t 93) 1), o 102 (.ext (.t 93) 2), o 103 (.ext (.t 93) 3)] [(false, e (.store (some 5) (.t 7) (.t 100))), (false, e (.store (some 6) (.t 12) (.t 101))), (false, m 18 102), (false, m 20 103)])) (.seq (.line [m 105 9, f 106 2 16, l 107 106, o 108 (.call (.c (.func (.func 13) #[] #[])) [(.t 107)]), o 109 (.call (.c (.func (.func 16) #[] #[])) [(.t 105), (.t 108)]), m 104 109, o 110 (.ext (.t 104) 0), o 111 (.ext (.t 104) 1), m 17 110, m 19 111])
       (.any [] [o 113 (.load (some 5) (.t 7)), o 114 (.load (some 6) (.t 12)), f 115 2 16, l 116 115, o 117 (.call (.c (.func (.func 13) #[] #[])) [(.t 116)]), o 118 (.call (.c (.func (.func 29) #[] #[])) [(.t 113), (.t 114), (.t 117)]), m 112 118, o 119 (.ext (.t 112) 0), o 120 (.ext (.t 112) 1), o 121 (.ext (.t 112) 2), o 122 (.ext (.t 112) 3)] [(false, e (.store (some 5) (.t 7) (.t 119))), (false, e (.store (some 6) (.t 12) (.t 120))), (false, m 18 121), (false, m 20 122)]))))
      (.seq (.line [m 123 17, m 124 18, o 125 (.bin .neq (some .int) (.t 123) (.t 124)), m 126 125, w 127 126 (.move (.t 19)), w 128 126 (.move (.t 20)), w 129 126 (.bin .neq (some .int) (.t 127) (.t 128)), o 130 (.pick (.t 126) (.c (.bool true)) (.t 129))])
      (.cond (.t 130) (.seq (.line [o 4 (.move (.c (.bool false)))])
       .ret) .skip))))) (.seq (.line [o 132 (.bin .eql (some .int) (.t 74) (.c (.int .u8 5))), m 131 132])
      (.cond (.t 131) (.seq (.line [m 133 5, f 134 1 16, l 135 134, o 136 (.call (.c (.func (.func 20) #[] #[])) [(.t 133), (.t 135)])])
       (.line [o 137 (.load (some 5) (.t 7)), f 138 1 16, l 139 138, o 140 (.call (.c (.func (.func 30) #[] #[])) [(.t 137), (.t 139)]), e (.store (some 5) (.t 7) (.t 140))])) (.seq (.seq (.line [o 142 (.bin .eql (some .int) (.t 74) (.c (.int .u8 6))), m 141 142])
       (.cond (.t 141) .skip (.line [o 143 (.bin .eql (some .int) (.t 74) (.c (.int .u8 8))), m 141 143])))
       (.cond (.t 141) (.seq (.seq (.line [f 144 0 16, l 145 144, o 146 (.bin .rem none (.t 145) (.c (.int .u8 9))), o 147 (.bin .eql (some .int) (.t 146) (.c (.int .u8 6)))])
        (.cond (.t 147) (.seq (.line [m 148 5, o 149 (.call (.c (.func (.func 21) #[] #[])) [(.t 148)])])
         (.line [o 150 (.load (some 5) (.t 7)), o 151 (.call (.c (.func (.func 31) #[] #[])) [(.t 150)]), e (.store (some 5) (.t 7) (.t 151))])) .skip))
        (.seq (.line [m 153 5, o 154 (.call (.c (.func (.func 12) #[] #[])) [(.t 153)]), m 152 154, o 155 (.ext (.t 152) 0), o 156 (.ext (.t 152) 1), o 157 (.ext (.t 152) 2), m 21 155, m 22 156, m 23 157])
        (.seq (.line [o 159 (.load (some 5) (.t 7)), o 160 (.call (.c (.func (.func 27) #[] #[])) [(.t 159)]), m 158 160, o 161 (.ext (.t 158) 0), o 162 (.ext (.t 158) 1), o 163 (.ext (.t 158) 2), o 24 (.alloc 0 [(.int .i64 0), (.int .i64 0), (.int .i64 0), (.int .u64 0), (.bool false), (.bool false)]), e (.store (some 6) (.t 24) (.t 161)), m 25 162, m 26 163])
        (.seq (.seq (.line [m 164 23, m 165 26, o 166 (.bin .neq (some .int) (.t 164) (.t 165)), m 167 166, w 168 167 (.move (.t 22)), w 169 167 (.move (.t 25)), w 170 167 (.call (.c (.func (.func 17) #[] #[])) [(.t 168), (.t 169)]), w 171 167 (.un .not (.t 170)), o 172 (.pick (.t 167) (.c (.bool true)) (.t 171)), m 173 172, w 174 173 (.move (.t 21)), w 175 173 (.bin .eql (some .ptr) (.t 174) (.c (.pointer none))), w 176 173 (.move (.t 23)), w 177 173 (.bin .neq (some .int) (.t 176) (.c (.int .i64 0))), w 178 173 (.bin .neq (some .bool) (.t 175) (.t 177)), o 179 (.pick (.t 173) (.c (.bool true)) (.t 178))])
        (.cond (.t 179) (.seq (.line [o 4 (.move (.c (.bool false)))])
         .ret) .skip))
        (.seq (.line [m 180 23, o 181 (.bin .eql (some .int) (.t 180) (.c (.int .i64 0)))])
        (.cond (.t 181) (.any [] [m 182 21, o 183 (.load (some 6) (.t 24)), m 9 182] [(false, e (.store (some 6) (.t 12) (.t 183)))]) .skip)))))) (.seq (.line [o 185 (.bin .eql (some .int) (.t 74) (.c (.int .u8 7))), m 184 185])
        (.cond (.t 184) (.seq (.line [m 186 5, f 187 1 16, l 188 187, o 189 (.call (.c (.func (.func 25) #[] #[])) [(.t 186), (.t 188)]), m 27 189])
         (.seq (.line [o 191 (.load (some 5) (.t 7)), f 192 1 16, l 193 192, o 194 (.call (.c (.func (.func 32) #[] #[])) [(.t 191), (.t 193)]), m 190 194, o 195 (.ext (.t 190) 0), o 196 (.ext (.t 190) 1), o 28 (.alloc 0 [(.int .i64 0), (.slice none 0 0), (.bool false), (.int .i64 0), (.bool false)]), e (.store (some 5) (.t 28) (.t 195)), m 29 196])
         (.seq (.line [o 197 (.load (some 5) (.t 28)), e (.store (some 5) (.t 7) (.t 197))])
         (.seq (.line [m 198 27, m 199 29, o 200 (.bin .neq (some .int) (.t 198) (.t 199))])
         (.cond (.t 200) (.seq (.line [o 4 (.move (.c (.bool false)))])
          .ret) .skip))))) .skip))))))))))
    (.seq (.any [] [m 201 5, o 202 (.call (.c (.func (.func 23) #[] #[])) [(.t 201)]), o 203 (.conv .ofBytes (.t 202)), f 204 1 7, l 205 204, o 206 (.conv .ofBytes (.t 205)), o 207 (.bin .neq (some .str) (.t 203) (.t 206)), m 208 207, w 209 208 (.move (.t 5)), w 210 208 (.call (.c (.func (.func 26) #[] #[])) [(.t 209)]), w 211 208 (.fa 4 (.t 7)), w 212 208 (.load none (.t 211)), w 213 208 (.bin .neq (some .bool) (.t 210) (.t 212)), o 214 (.pick (.t 208) (.c (.bool true)) (.t 213)), m 215 214, w 216 215 (.move (.t 9)), w 217 215 (.call (.c (.func (.func 18) #[] #[])) [(.t 216)]), w 218 215 (.fa 2 (.t 12)), w 219 215 (.load none (.t 218)), w 220 215 (.bin .neq (some .int) (.t 217) (.t 219)), o 221 (.pick (.t 215) (.c (.bool true)) (.t 220)), m 222 221, w 223 222 (.move (.t 9)), w 224 222 (.call (.c (.func (.func 15) #[] #[])) [(.t 223)]), w 225 222 (.load (some 5) (.t 7)), w 226 222 (.load (some 6) (.t 12)), w 227 222 (.call (.c (.func (.func 33) #[] #[])) [(.t 225), (.t 226)]), w 228 222 (.bin .neq (some .int) (.t 224) (.t 227)), o 229 (.pick (.t 222) (.c (.bool true)) (.t 228)), m 230 229, w 231 230 (.move (.t 9)), w 232 230 (.call (.c (.func (.func 19) #[] #[])) [(.t 231)]), w 233 230 (.fa 4 (.t 12)), w 234 230 (.load none (.t 233)), w 235 230 (.bin .neq (some .bool) (.t 232) (.t 234)), o 236 (.pick (.t 230) (.c (.bool true)) (.t 235))] [])
    (.cond (.t 236) (.seq (.line [o 4 (.move (.c (.bool false)))])
     .ret) .skip)))))
   (.line [m 66 15, o 67 (.bin .add none (.t 66) (.c (.int .i64 1))), m 15 67]))))))
 (.seq (.line [o 4 (.move (.c (.bool true)))])
 .ret))))))))⟩
/-- captioner/captionerlaw55.JournalNil -/
def g9 : GFun := ⟨192, [.tmp 4],
 (.seq (.line [o 4 (.move (.c (.bool false)))])
 (.seq (.seq (.line [o 28 (.call (.c (.func (.func 10) #[] #[])) []), o 29 (.un .not (.t 28))])
 (.cond (.t 29) (.seq (.line [o 4 (.move (.c (.bool false)))])
  .ret) .skip))
 (.seq (.line [m 30 1, o 31 (.call (.c (.func (.func 13) #[] #[])) [(.t 30)]), m 1 31])
 (.seq (.line [o 33 (.call (.c (.func (.func 11) #[] #[])) [(.c (.int .i64 200))]), m 32 33, o 34 (.ext (.t 32) 0), o 35 (.ext (.t 32) 1), m 5 34, m 6 35])
 (.seq (.line [m 37 5, o 38 (.call (.c (.func (.func 12) #[] #[])) [(.t 37)]), m 36 38, o 39 (.ext (.t 36) 0), o 40 (.ext (.t 36) 1), o 41 (.ext (.t 36) 2), m 7 39, m 8 40, m 9 41])
 (.seq (.line [m 42 7, m 43 1, o 44 (.call (.c (.func (.func 16) #[] #[])) [(.t 42), (.t 43)])])
 (.seq (.line [m 45 5, o 46 (.call (.c (.func (.func 23) #[] #[])) [(.t 45)]), o 47 (.conv .ofBytes (.t 46)), m 10 47])
 (.seq (.line [m 48 5, o 49 (.call (.c (.func (.func 34) #[] #[])) [(.t 48)]), m 11 49])
 (.seq (.line [m 51 11, o 52 (.call (.c (.func (.func 12) #[] #[])) [(.t 51)]), m 50 52, o 53 (.ext (.t 50) 0), o 54 (.ext (.t 50) 1), o 55 (.ext (.t 50) 2), m 12 53, m 13 54, m 14 55])
 (.seq (.line [m 56 12, o 57 (.buildSl 257 1 [(.int .u8 0)] [(0, 1, (.c (.int .u8 120)))]), o 58 (.keep (.t 57)), o 59 (.call (.c (.func (.func 16) #[] #[])) [(.t 56), (.t 58)])])
 (.seq (.line [m 60 11, m 61 0, o 62 (.call (.c (.func (.func 25) #[] #[])) [(.t 60), (.t 61)])])
 (.seq (.line [m 63 5, o 64 (.call (.c (.func (.func 23) #[] #[])) [(.t 63)]), m 15 64])
 (.seq (.seq (.line [m 65 15, o 66 (.len false (.t 65)), o 67 (.move (.c (.int .i64 0)))])
 (.block 0 (.loop (.seq (.line [o 68 (.bin .lss none (.t 67) (.t 66))])
   (.seq (.cond (.t 68) .skip (.exit 0))
   (.seq (.block 1 (.seq (.line [m 69 67, m 16 69])
    (.line [m 70 15, m 71 16, o 72 (.ia none 1 (.t 70) (.t 71)), l 73 72, o 74 (.bin .add none (.t 73) (.c (.int .u8 1))), o 75 (.ia none 1 (.t 70) (.t 71)), e (.store none (.t 75) (.t 74))])))
   (.line [o 76 (.bin .add none (.t 67) (.c (.int .i64 1))), m 67 76])))))))
 (.seq (.seq (.line [m 77 13, o 78 (.len false (.t 77)), o 79 (.move (.c (.int .i64 0)))])
 (.block 2 (.loop (.seq (.line [o 80 (.bin .lss none (.t 79) (.t 78))])
   (.seq (.cond (.t 80) .skip (.exit 2))
   (.seq (.block 3 (.seq (.line [m 81 79, m 17 81])
    (.seq (.line [m 82 13, m 83 17, o 84 (.ia none 3 (.t 82) (.t 83)), f 85 2 84, l 86 85, o 87 (.len false (.t 86)), o 88 (.move (.c (.int .i64 0)))])
    (.block 4 (.loop (.seq (.line [o 89 (.bin .lss none (.t 88) (.t 87))])
      (.seq (.cond (.t 89) .skip (.exit 4))
      (.seq (.block 5 (.seq (.line [m 90 88, m 18 90])
       (.line [m 91 13, m 92 17, o 93 (.ia none 3 (.t 91) (.t 92)), f 94 2 93, l 95 94, m 96 18, o 97 (.ia none 1 (.t 95) (.t 96)), l 98 97, o 99 (.bin .add none (.t 98) (.c (.int .u8 1))), o 100 (.ia none 1 (.t 95) (.t 96)), e (.store none (.t 100) (.t 99))])))
      (.line [o 101 (.bin .add none (.t 88) (.c (.int .i64 1))), m 88 101])))))))))
   (.line [o 102 (.bin .add none (.t 79) (.c (.int .i64 1))), m 79 102])))))))
 (.seq (.seq (.line [m 103 5, o 104 (.call (.c (.func (.func 23) #[] #[])) [(.t 103)]), o 105 (.conv .ofBytes (.t 104)), m 106 10, o 107 (.bin .neq (some .str) (.t 105) (.t 106))])
 (.cond (.t 107) (.seq (.line [o 4 (.move (.c (.bool false)))])
  .ret) .skip))
 (.seq (.line [o 19 (.move (.c (.pointer none)))])
 (.seq (.line [o 20 (.move (.c (.pointer none)))])
 (.seq (.line [m 108 19, m 109 0, o 110 (.call (.c (.func (.func 20) #[] #[])) [(.t 108), (.t 109)])])
 (.seq (.line [m 111 19, o 112 (.call (.c (.func (.func 21) #[] #[])) [(.t 111)])])
 (.seq (.line [m 114 19, o 115 (.call (.c (.func (.func 12) #[] #[])) [(.t 114)]), m 113 115, o 116 (.ext (.t 113) 0), o 117 (.ext (.t 113) 1), o 118 (.ext (.t 113) 2), m 21 116, m 22 117, m 23 118])
 (.seq (.line [m 120 20, m 121 1, o 122 (.call (.c (.func (.func 16) #[] #[])) [(.t 120), (.t 121)]), m 119 122, o 123 (.ext (.t 119) 0), o 124 (.ext (.t 119) 1), m 24 123, m 25 124])
 (.seq (.line [m 126 20, m 127 1, o 128 (.call (.c (.func (.func 14) #[] #[])) [(.t 126), (.t 127)]), m 125 128, o 129 (.ext (.t 125) 0), o 130 (.ext (.t 125) 1), m 26 129, m 27 130])
 (.seq (.line [m 131 21, o 132 (.bin .eql (some .ptr) (.t 131) (.c (.pointer none))), m 133 132, u 134 133 (.move (.t 22)), u 135 133 (.len false (.t 134)), u 136 133 (.bin .eql (some .int) (.t 135) (.c (.int .i64 0))), o 137 (.pick (.t 133) (.t 136) (.c (.bool false))), m 138 137, u 139 138 (.move (.t 23)), u 140 138 (.bin .eql (some .int) (.t 139) (.c (.int .i64 1))), o 141 (.pick (.t 138) (.t 140) (.c (.bool false))), m 142 141, u 143 142 (.move (.t 25)), u 144 142 (.bin .eql (some .int) (.t 143) (.c (.int .i64 1))), o 145 (.pick (.t 142) (.t 144) (.c (.bool false))), m 146 145, u 147 146 (.move (.t 27)), u 148 146 (.bin .eql (some .int) (.t 147) (.c (.int .i64 1))), o 149 (.pick (.t 146) (.t 148) (.c (.bool false))), m 150 149, u 151 150 (.move (.t 20)), u 152 150 (.call (.c (.func (.func 18) #[] #[])) [(.t 151)]), u 153 150 (.bin .eql (some .int) (.t 152) (.c (.int .i64 0))), o 154 (.pick (.t 150) (.t 153) (.c (.bool false))), m 155 154, u 156 155 (.move (.t 20)), u 157 155 (.call (.c (.func (.func 15) #[] #[])) [(.t 156)]), u 158 155 (.bin .eql (some .int) (.t 157) (.c (.int .i64 (-1)))), o 159 (.pick (.t 155) (.t 158) (.c (.bool false))), m 160 159, u 161 160 (.move (.t 20)), u 162 160 (.call (.c (.func (.func 19) #[] #[])) [(.t 161)]), u 163 160 (.un .not (.t 162)), o 164 (.pick (.t 160) (.t 163) (.c (.bool false))), m 165 164, u 166 165 (.move (.t 19)), u 167 165 (.call (.c (.func (.func 24) #[] #[])) [(.t 166)]), u 168 165 (.bin .eql (some .int) (.t 167) (.c (.int .i64 0))), o 169 (.pick (.t 165) (.t 168) (.c (.bool false))), m 170 169, u 171 170 (.move (.t 19)), u 172 170 (.call (.c (.func (.func 26) #[] #[])) [(.t 171)]), u 173 170 (.un .not (.t 172)), o 174 (.pick (.t 170) (.t 173) (.c (.bool false))), m 175 174, u 176 175 (.move (.t 19)), u 177 175 (.call (.c (.func (.func 23) #[] #[])) [(.t 176)]), u 178 175 (.len false (.t 177)), u 179 175 (.bin .eql (some .int) (.t 178) (.c (.int .i64 0))), o 180 (.pick (.t 175) (.t 179) (.c (.bool false))), m 181 180, u 182 181 (.move (.t 19)), u 183 181 (.move (.t 0)), u 184 181 (.call (.c (.func (.func 25) #[] #[])) [(.t 182), (.t 183)]), u 185 181 (.bin .eql (some .int) (.t 184) (.c (.int .i64 1))), o 186 (.pick (.t 181) (.t 185) (.c (.bool false))), m 187 186, u 188 187 (.move (.t 19)), u 189 187 (.call (.c (.func (.func 34) #[] #[])) [(.t 188)]), u 190 187 (.bin .eql (some .ptr) (.t 189) (.c (.pointer none))), o 191 (.pick (.t 187) (.t 190) (.c (.bool false))), m 4 191])
 .ret)))))))))))))))))))))))⟩
/-- captioner/captionerlaw55.awake -/
def g10 : GFun := ⟨100, [.tmp 0],
 (.seq (.line [o 0 (.move (.c (.bool false)))])
 (.seq (.line [o 12 (.call (.c (.func (.func 11) #[] #[])) [(.c (.int .i64 64))]), m 11 12, o 13 (.ext (.t 11) 0), o 14 (.ext (.t 11) 1), m 1 13, m 2 14])
 (.seq (.seq (.line [m 15 1, o 16 (.bin .eql (some .ptr) (.t 15) (.c (.pointer none))), m 17 16, w 18 17 (.move (.t 2)), w 19 17 (.bin .neq (some .int) (.t 18) (.c (.int .i64 0))), o 20 (.pick (.t 17) (.c (.bool true)) (.t 19))])
 (.cond (.t 20) (.seq (.line [o 0 (.move (.c (.bool false)))])
  .ret) .skip))
 (.seq (.line [m 22 1, o 23 (.call (.c (.func (.func 12) #[] #[])) [(.t 22)]), m 21 23, o 24 (.ext (.t 21) 0), o 25 (.ext (.t 21) 1), o 26 (.ext (.t 21) 2), m 3 24, m 4 25, m 5 26])
 (.seq (.seq (.line [m 27 3, o 28 (.bin .eql (some .ptr) (.t 27) (.c (.pointer none))), m 29 28, w 30 29 (.move (.t 5)), w 31 29 (.bin .neq (some .int) (.t 30) (.c (.int .i64 0))), o 32 (.pick (.t 29) (.c (.bool true)) (.t 31)), m 33 32, w 34 33 (.move (.t 4)), w 35 33 (.len false (.t 34)), w 36 33 (.bin .gtr none (.t 35) (.c (.int .i64 0))), o 37 (.pick (.t 33) (.c (.bool true)) (.t 36)), m 38 37, w 39 38 (.move (.t 3)), w 40 38 (.call (.c (.func (.func 15) #[] #[])) [(.t 39)]), w 41 38 (.bin .neq (some .int) (.t 40) (.c (.int .i64 33))), o 42 (.pick (.t 38) (.c (.bool true)) (.t 41))])
 (.cond (.t 42) (.seq (.line [o 0 (.move (.c (.bool false)))])
  .ret) .skip))
 (.seq (.line [m 43 3, o 44 (.buildSl 257 1 [(.int .u8 0)] [(0, 1, (.c (.int .u8 97)))]), o 45 (.keep (.t 44)), o 46 (.call (.c (.func (.func 16) #[] #[])) [(.t 43), (.t 45)])])
 (.seq (.line [m 47 3, o 48 (.buildSl 257 1 [(.int .u8 0)] [(0, 1, (.c (.int .u8 98)))]), o 49 (.keep (.t 48)), o 50 (.call (.c (.func (.func 16) #[] #[])) [(.t 47), (.t 49)])])
 (.seq (.line [m 52 3, o 53 (.buildSl 257 2 [(.int .u8 0)] [(0, 1, (.c (.int .u8 97))), (1, 1, (.c (.int .u8 98)))]), o 54 (.keep (.t 53)), o 55 (.call (.c (.func (.func 14) #[] #[])) [(.t 52), (.t 54)]), m 51 55, o 56 (.ext (.t 51) 0), o 57 (.ext (.t 51) 1), m 6 56, m 7 57])
 (.seq (.line [m 59 1, o 60 (.call (.c (.func (.func 12) #[] #[])) [(.t 59)]), m 58 60, o 61 (.ext (.t 58) 0), o 62 (.ext (.t 58) 1), o 63 (.ext (.t 58) 2), m 8 61, m 9 62, m 10 63])
 (.seq (.line [m 64 6, o 65 (.bin .eql (some .int) (.t 64) (.c (.int .i64 3))), m 66 65, u 67 66 (.move (.t 7)), u 68 66 (.bin .eql (some .int) (.t 67) (.c (.int .i64 0))), o 69 (.pick (.t 66) (.t 68) (.c (.bool false))), m 70 69, u 71 70 (.move (.t 10)), u 72 70 (.bin .eql (some .int) (.t 71) (.c (.int .i64 0))), o 73 (.pick (.t 70) (.t 72) (.c (.bool false))), m 74 73, u 75 74 (.move (.t 9)), u 76 74 (.len false (.t 75)), u 77 74 (.bin .eql (some .int) (.t 76) (.c (.int .i64 1))), o 78 (.pick (.t 74) (.t 77) (.c (.bool false))), m 79 78, u 80 79 (.move (.t 9)), u 81 79 (.ia none 3 (.t 80) (.c (.int .i64 0))), u 82 79 (.fa 0 (.t 81)), u 83 79 (.load none (.t 82)), u 84 79 (.bin .eql (some .int) (.t 83) (.c (.int .i64 3))), o 85 (.pick (.t 79) (.t 84) (.c (.bool false))), m 86 85, u 87 86 (.move (.t 9)), u 88 86 (.ia none 3 (.t 87) (.c (.int .i64 0))), u 89 86 (.fa 1 (.t 88)), u 90 86 (.load none (.t 89)), o 91 (.pick (.t 86) (.t 90) (.c (.bool false))), m 92 91, u 93 92 (.move (.t 9)), u 94 92 (.ia none 3 (.t 93) (.c (.int .i64 0))), u 95 92 (.fa 2 (.t 94)), u 96 92 (.load none (.t 95)), u 97 92 (.conv .ofBytes (.t 96)), u 98 92 (.bin .eql (some .str) (.t 97) (.c (.string ⟨#[97, 98]⟩))), o 99 (.pick (.t 92) (.t 98) (.c (.bool false))), m 0 99])
 .ret))))))))))⟩
/-- captioner/journal.NewMemory -/
def g11 : GFun := ⟨30, [.tmp 2, .tmp 3],
 (.seq (.line [o 2 (.move (.c (.pointer none))), o 3 (.move (.c (.int .i64 0)))])
 (.seq (.seq (.line [m 5 0, o 6 (.bin .lss none (.t 5) (.c (.int .i64 64))), m 7 6, w 8 7 (.move (.t 0)), w 9 7 (.bin .gtr none (.t 8) (.c (.int .i64 8388608))), o 10 (.pick (.t 7) (.c (.bool true)) (.t 9))])
 (.cond (.t 10) (.seq (.line [o 2 (.move (.c (.pointer none))), o 3 (.move (.c (.int .i64 2)))])
  .ret) .skip))
 (.seq (.line [m 11 0, o 12 (.bin .mul none (.c (.int .i64 2)) (.t 11)), o 13 (.mk [(.int .u8 0)] 1 257 (.t 12) (.t 12)), o 14 (.build [(.slice none 0 0), (.bool false), (.int .i64 0), (.bool false)] [(0, 1, (.t 13))]), o 15 (.box (.t 14)), m 4 15])
 (.seq (.line [m 16 4, o 17 (.nilc (.t 16)), f 18 0 17, l 19 18, o 20 (.ia none 1 (.t 19) (.c (.int .i64 0))), e (.store none (.t 20) (.c (.int .u8 183)))])
 (.seq (.any [] [m 21 4, o 22 (.nilc (.t 21)), f 23 0 22, l 24 23, o 25 (.slice (.sl 1) (.t 24) (some (.c (.int .i64 1))) none none), o 26 (.call (.c (.func (.func 36) #[] #[])) [(.c (.int .u64 1)), (.c (.int .i64 8))]), o 27 (.call (.c (.func (.func 35) #[] #[])) [(.t 26)])] [(false, o 28 (.copy 1 (.t 25) (.t 27)))])
 (.seq (.line [m 29 4, m 2 29, o 3 (.move (.c (.int .i64 0)))])
 .ret))))))⟩
/-- captioner/journal.Open -/
def g12 : GFun := ⟨84, [.tmp 2, .tmp 3, .tmp 4],
 (.seq (.line [o 2 (.move (.c (.pointer none))), o 3 (.move (.c (.slice none 0 0))), o 4 (.move (.c (.int .i64 0)))])
 (.seq (.seq (.line [m 14 0, o 15 (.bin .eql (some .ptr) (.t 14) (.c (.pointer none)))])
 (.cond (.t 15) (.seq (.line [o 2 (.move (.c (.pointer none))), o 3 (.move (.c (.slice none 0 0))), o 4 (.move (.c (.int .i64 1)))])
  .ret) .skip))
 (.seq (.seq (.line [m 16 0, o 17 (.nilc (.t 16)), f 18 3 17, l 19 18])
 (.cond (.t 19) (.seq (.line [o 2 (.move (.c (.pointer none))), o 3 (.move (.c (.slice none 0 0))), o 4 (.move (.c (.int .i64 21)))])
  .ret) .skip))
 (.seq (.line [m 21 0, o 22 (.call (.c (.func (.func 37) #[] #[])) [(.t 21)]), m 20 22, o 23 (.ext (.t 20) 0), o 24 (.ext (.t 20) 1), o 25 (.ext (.t 20) 2), m 5 23, m 6 24, m 7 25])
 (.seq (.seq (.line [m 26 7, o 27 (.un .not (.t 26))])
 (.cond (.t 27) (.seq (.line [o 2 (.move (.c (.pointer none))), o 3 (.move (.c (.slice none 0 0))), o 4 (.move (.c (.int .i64 19)))])
  .ret) .skip))
 (.seq (.line [m 28 0, m 29 5, m 30 6, o 31 (.build [(.pointer none), (.int .i64 0), (.int .u64 0), (.int .i64 0), (.int .i64 0), (.bool false), (.bool false)] [(0, 1, (.t 28)), (1, 1, (.t 29)), (2, 1, (.t 30)), (3, 1, (.c (.int .i64 13))), (4, 1, (.c (.int .i64 1)))]), o 32 (.box (.t 31)), m 8 32])
 (.seq (.line [m 33 0, m 34 5, o 35 (.call (.c (.func (.func 38) #[] #[])) [(.t 33), (.t 34)]), m 9 35])
 (.seq (.line [o 10 (.move (.c (.slice none 0 0)))])
 (.seq (.line [o 11 (.move (.c (.int .i64 0)))])
 (.seq (.block 0 (.loop (.seq (.seq (.line [m 36 9, m 37 8, o 38 (.nilc (.t 37)), f 39 3 38, l 40 39, o 41 (.ia none 1 (.t 36) (.t 40)), l 42 41, o 43 (.bin .neq (some .int) (.t 42) (.c (.int .u8 0)))])
   (.cond (.t 43) .skip (.exit 0)))
   (.block 1 (.seq (.line [m 45 9, m 46 8, o 47 (.nilc (.t 46)), f 48 3 47, l 49 48, m 50 11, o 51 (.call (.c (.func (.func 39) #[] #[])) [(.t 45), (.t 49), (.t 50)]), m 44 51, o 52 (.ext (.t 44) 0), o 53 (.ext (.t 44) 1), o 12 (.alloc 0 [(.int .i64 0), (.bool false), (.slice none 0 0)]), e (.store (some 3) (.t 12) (.t 52)), m 13 53])
    (.seq (.seq (.line [m 54 13, o 55 (.un .not (.t 54))])
    (.cond (.t 55) (.seq (.line [m 56 8, o 57 (.nilc (.t 56)), f 58 6 57, e (.store none (.t 58) (.c (.bool true)))])
     (.exit 0)) .skip))
    (.seq (.line [m 59 10, o 60 (.load (some 3) (.t 12)), o 61 (.buildSl 3 1 [(.int .i64 0), (.bool false), (.slice none 0 0)] [(0, 3, (.t 60))]), o 62 (.app 3 40 3 (.t 59) (.t 61)), m 10 62])
    (.seq (.line [f 63 0 12, l 64 63, m 11 64])
    (.seq (.any [] [m 65 8, o 66 (.nilc (.t 65)), f 67 3 66, l 68 67, f 69 2 12, l 70 69, o 71 (.len false (.t 70)), o 72 (.bin .add none (.c (.int .i64 17)) (.t 71)), o 73 (.bin .add none (.t 68) (.t 72)), o 74 (.nilc (.t 65)), f 75 3 74] [(false, e (.store none (.t 75) (.t 73)))])
    (.line [m 76 8, f 77 0 12, l 78 77, o 79 (.bin .add none (.t 78) (.c (.int .i64 1))), o 80 (.nilc (.t 76)), f 81 4 80, e (.store none (.t 81) (.t 79))]))))))))))
 (.seq (.line [m 82 8, m 83 10, m 2 82, m 3 83, o 4 (.move (.c (.int .i64 0)))])
 .ret)))))))))))⟩
/-- captioner/captionerlaw55.cut -/
def g13 : GFun := ⟨8, [.tmp 2],
 (.seq (.line [o 2 (.move (.c (.slice none 0 0)))])
 (.seq (.line [m 3 0, m 4 0, o 5 (.len false (.t 4)), o 6 (.min (.t 5) [(.c (.int .i64 60))]), o 7 (.slice (.sl 1) (.t 3) none (some (.t 6)) none), m 2 7])
 .ret))⟩
/-- (*captioner/journal.Log).Compact -/
def g14 : GFun := ⟨134, [.tmp 4, .tmp 5],
 (.seq (.line [o 4 (.move (.c (.int .i64 0))), o 5 (.move (.c (.int .i64 0)))])
 (.seq (.seq (.line [m 12 0, o 13 (.bin .eql (some .ptr) (.t 12) (.c (.pointer none)))])
 (.cond (.t 13) (.seq (.line [o 4 (.move (.c (.int .i64 0))), o 5 (.move (.c (.int .i64 1)))])
  .ret) .skip))
 (.seq (.seq (.line [m 14 0, m 15 1, o 16 (.len false (.t 15)), o 17 (.call (.c (.func (.func 40) #[] #[])) [(.t 14), (.c (.int .i64 13)), (.t 16)]), m 6 17])
 (.seq (.line [m 18 6, o 19 (.bin .neq (some .int) (.t 18) (.c (.int .i64 0)))])
 (.cond (.t 19) (.seq (.line [m 20 6, o 4 (.move (.c (.int .i64 0))), m 5 20])
  .ret) .skip)))
 (.seq (.any [] [m 21 0, o 22 (.nilc (.t 21)), f 23 0 22, l 24 23, m 25 0, o 26 (.nilc (.t 25)), f 27 1 26, l 28 27, o 29 (.bin .sub none (.c (.int .i64 1)) (.t 28)), m 7 24, m 8 29] [])
 (.seq (.line [m 30 8, m 31 7, o 32 (.call (.c (.func (.func 24) #[] #[])) [(.t 31)]), o 33 (.bin .mul none (.t 30) (.t 32)), m 9 33])
 (.seq (.line [m 34 9, o 35 (.bin .add none (.t 34) (.c (.int .i64 13))), m 10 35])
 (.seq (.line [m 36 0, o 37 (.nilc (.t 36)), f 38 2 37, l 39 38, o 40 (.bin .add none (.t 39) (.c (.int .u64 1))), o 41 (.call (.c (.func (.func 36) #[] #[])) [(.t 40), (.c (.int .i64 8))]), o 42 (.call (.c (.func (.func 35) #[] #[])) [(.t 41)]), m 11 42])
 (.seq (.seq (.line [m 43 7, m 44 9, o 45 (.buildSl 257 1 [(.int .u8 0)] [(0, 1, (.c (.int .u8 0)))]), o 46 (.call (.c (.func (.func 41) #[] #[])) [(.t 43), (.t 44), (.t 45)]), o 47 (.un .not (.t 46)), m 48 47, w 49 48 (.move (.t 7)), w 50 48 (.move (.t 9)), w 51 48 (.bin .add none (.t 50) (.c (.int .i64 1))), w 52 48 (.move (.t 11)), w 53 48 (.call (.c (.func (.func 41) #[] #[])) [(.t 49), (.t 51), (.t 52)]), w 54 48 (.un .not (.t 53)), o 55 (.pick (.t 48) (.c (.bool true)) (.t 54)), m 56 55, w 57 56 (.move (.t 7)), w 58 56 (.move (.t 10)), w 59 56 (.buildSl 257 1 [(.int .u8 0)] [(0, 1, (.c (.int .u8 0)))]), w 60 56 (.call (.c (.func (.func 41) #[] #[])) [(.t 57), (.t 58), (.t 59)]), w 61 56 (.un .not (.t 60)), o 62 (.pick (.t 56) (.c (.bool true)) (.t 61)), m 63 62, w 64 63 (.move (.t 7)), w 65 63 (.move (.t 10)), w 66 63 (.bin .add none (.t 65) (.c (.int .i64 17))), w 67 63 (.move (.t 1)), w 68 63 (.len false (.t 67)), w 69 63 (.bin .add none (.t 66) (.t 68)), w 70 63 (.buildSl 257 1 [(.int .u8 0)] [(0, 1, (.c (.int .u8 0)))]), w 71 63 (.call (.c (.func (.func 41) #[] #[])) [(.t 64), (.t 69), (.t 70)]), w 72 63 (.un .not (.t 71)), o 73 (.pick (.t 63) (.c (.bool true)) (.t 72)), m 74 73, w 75 74 (.move (.t 7)), w 76 74 (.move (.t 10)), w 77 74 (.bin .add none (.t 76) (.c (.int .i64 1))), w 78 74 (.move (.t 0)), w 79 74 (.move (.t 1)), w 80 74 (.call (.c (.func (.func 42) #[] #[])) [(.t 78), (.t 79)]), w 81 74 (.call (.c (.func (.func 41) #[] #[])) [(.t 75), (.t 77), (.t 80)]), w 82 74 (.un .not (.t 81)), o 83 (.pick (.t 74) (.c (.bool true)) (.t 82)), m 84 83, w 85 84 (.move (.t 7)), w 86 84 (.move (.t 10)), w 87 84 (.buildSl 257 1 [(.int .u8 0)] [(0, 1, (.c (.int .u8 166)))]), w 88 84 (.call (.c (.func (.func 41) #[] #[])) [(.t 85), (.t 86), (.t 87)]), w 89 84 (.un .not (.t 88)), o 90 (.pick (.t 84) (.c (.bool true)) (.t 89)), m 91 90, w 92 91 (.move (.t 7)), w 93 91 (.move (.t 9)), w 94 91 (.buildSl 257 1 [(.int .u8 0)] [(0, 1, (.c (.int .u8 183)))]), w 95 91 (.call (.c (.func (.func 41) #[] #[])) [(.t 92), (.t 93), (.t 94)]), w 96 91 (.un .not (.t 95)), o 97 (.pick (.t 91) (.c (.bool true)) (.t 96))])
 (.cond (.t 97) (.seq (.line [m 98 0, o 99 (.nilc (.t 98)), f 100 5 99, e (.store none (.t 100) (.c (.bool true)))])
  (.seq (.line [o 4 (.move (.c (.int .i64 0))), o 5 (.move (.c (.int .i64 21)))])
  .ret)) .skip))
 (.seq (.line [m 101 0, m 102 0, m 103 0, m 104 8, m 105 0, o 106 (.nilc (.t 105)), f 107 2 106, l 108 107, o 109 (.bin .add none (.t 108) (.c (.int .u64 1))), o 110 (.nilc (.t 101)), f 111 1 110, e (.store none (.t 111) (.t 104)), o 112 (.nilc (.t 102)), f 113 2 112, e (.store none (.t 113) (.t 109)), o 114 (.nilc (.t 103)), f 115 6 114, e (.store none (.t 115) (.c (.bool false)))])
 (.seq (.line [m 116 0, m 117 1, o 118 (.len false (.t 117)), o 119 (.bin .add none (.c (.int .i64 30)) (.t 118)), o 120 (.nilc (.t 116)), f 121 3 120, e (.store none (.t 121) (.t 119))])
 (.seq (.line [m 122 0, o 123 (.nilc (.t 122)), f 124 4 123, l 125 124, o 126 (.bin .add none (.t 125) (.c (.int .i64 1))), o 127 (.nilc (.t 122)), f 128 4 127, e (.store none (.t 128) (.t 126))])
 (.seq (.line [m 129 0, o 130 (.nilc (.t 129)), f 131 4 130, l 132 131, o 133 (.bin .sub none (.t 132) (.c (.int .i64 1))), m 4 133, o 5 (.move (.c (.int .i64 0)))])
 .ret))))))))))))⟩
/-- (*captioner/journal.Log).Free -/
def g15 : GFun := ⟨18, [.tmp 2],
 (.seq (.line [o 2 (.move (.c (.int .i64 0)))])
 (.seq (.seq (.line [m 3 0, o 4 (.bin .eql (some .ptr) (.t 3) (.c (.pointer none)))])
 (.cond (.t 4) (.seq (.line [o 2 (.move (.c (.int .i64 (-1))))])
  .ret) .skip))
 (.seq (.any [] [m 5 0, o 6 (.nilc (.t 5)), f 7 0 6, l 8 7, o 9 (.call (.c (.func (.func 24) #[] #[])) [(.t 8)]), m 10 0, o 11 (.nilc (.t 10)), f 12 3 11, l 13 12, o 14 (.bin .sub none (.t 9) (.t 13)), o 15 (.bin .sub none (.t 14) (.c (.int .i64 17))), o 16 (.bin .sub none (.t 15) (.c (.int .i64 1))), o 17 (.max (.t 16) [(.c (.int .i64 (-1)))]), m 2 17] [])
 .ret)))⟩
/-- (*captioner/journal.Log).Append -/
def g16 : GFun := ⟨101, [.tmp 4, .tmp 5],
 (.seq (.line [o 4 (.move (.c (.int .i64 0))), o 5 (.move (.c (.int .i64 0)))])
 (.seq (.seq (.line [m 10 0, o 11 (.bin .eql (some .ptr) (.t 10) (.c (.pointer none)))])
 (.cond (.t 11) (.seq (.line [o 4 (.move (.c (.int .i64 0))), o 5 (.move (.c (.int .i64 1)))])
  .ret) .skip))
 (.seq (.seq (.line [m 12 0, m 13 0, o 14 (.nilc (.t 13)), f 15 3 14, l 16 15, m 17 1, o 18 (.len false (.t 17)), o 19 (.call (.c (.func (.func 40) #[] #[])) [(.t 12), (.t 16), (.t 18)]), m 6 19])
 (.seq (.line [m 20 6, o 21 (.bin .neq (some .int) (.t 20) (.c (.int .i64 0)))])
 (.cond (.t 21) (.seq (.line [m 22 6, o 4 (.move (.c (.int .i64 0))), m 5 22])
  .ret) .skip)))
 (.seq (.any [] [m 23 0, o 24 (.nilc (.t 23)), f 25 0 24, l 26 25, m 27 0, o 28 (.nilc (.t 27)), f 29 1 28, l 30 29, m 31 0, o 32 (.nilc (.t 31)), f 33 0 32, l 34 33, o 35 (.call (.c (.func (.func 24) #[] #[])) [(.t 34)]), o 36 (.bin .mul none (.t 30) (.t 35)), m 37 0, o 38 (.nilc (.t 37)), f 39 3 38, l 40 39, o 41 (.bin .add none (.t 36) (.t 40)), m 7 26, m 8 41] [])
 (.seq (.line [m 42 8, o 43 (.bin .add none (.t 42) (.c (.int .i64 17))), m 44 1, o 45 (.len false (.t 44)), o 46 (.bin .add none (.t 43) (.t 45)), m 9 46])
 (.seq (.seq (.line [m 47 7, m 48 8, o 49 (.buildSl 257 1 [(.int .u8 0)] [(0, 1, (.c (.int .u8 0)))]), o 50 (.call (.c (.func (.func 41) #[] #[])) [(.t 47), (.t 48), (.t 49)]), o 51 (.un .not (.t 50)), m 52 51, w 53 52 (.move (.t 7)), w 54 52 (.move (.t 9)), w 55 52 (.buildSl 257 1 [(.int .u8 0)] [(0, 1, (.c (.int .u8 0)))]), w 56 52 (.call (.c (.func (.func 41) #[] #[])) [(.t 53), (.t 54), (.t 55)]), w 57 52 (.un .not (.t 56)), o 58 (.pick (.t 52) (.c (.bool true)) (.t 57)), m 59 58, w 60 59 (.move (.t 7)), w 61 59 (.move (.t 8)), w 62 59 (.bin .add none (.t 61) (.c (.int .i64 1))), w 63 59 (.move (.t 0)), w 64 59 (.move (.t 1)), w 65 59 (.call (.c (.func (.func 42) #[] #[])) [(.t 63), (.t 64)]), w 66 59 (.call (.c (.func (.func 41) #[] #[])) [(.t 60), (.t 62), (.t 65)]), w 67 59 (.un .not (.t 66)), o 68 (.pick (.t 59) (.c (.bool true)) (.t 67)), m 69 68, w 70 69 (.move (.t 7)), w 71 69 (.move (.t 8)), w 72 69 (.buildSl 257 1 [(.int .u8 0)] [(0, 1, (.c (.int .u8 165)))]), w 73 69 (.call (.c (.func (.func 41) #[] #[])) [(.t 70), (.t 71), (.t 72)]), w 74 69 (.un .not (.t 73)), o 75 (.pick (.t 69) (.c (.bool true)) (.t 74))])
 (.cond (.t 75) (.seq (.line [m 76 0, o 77 (.nilc (.t 76)), f 78 5 77, e (.store none (.t 78) (.c (.bool true)))])
  (.seq (.line [o 4 (.move (.c (.int .i64 0))), o 5 (.move (.c (.int .i64 21)))])
  .ret)) .skip))
 (.seq (.line [m 79 0, o 80 (.nilc (.t 79)), f 81 3 80, l 82 81, m 83 1, o 84 (.len false (.t 83)), o 85 (.bin .add none (.c (.int .i64 17)) (.t 84)), o 86 (.bin .add none (.t 82) (.t 85)), o 87 (.nilc (.t 79)), f 88 3 87, e (.store none (.t 88) (.t 86))])
 (.seq (.line [m 89 0, o 90 (.nilc (.t 89)), f 91 4 90, l 92 91, o 93 (.bin .add none (.t 92) (.c (.int .i64 1))), o 94 (.nilc (.t 89)), f 95 4 94, e (.store none (.t 95) (.t 93))])
 (.seq (.line [m 96 0, o 97 (.nilc (.t 96)), f 98 4 97, l 99 98, o 100 (.bin .sub none (.t 99) (.c (.int .i64 1))), m 4 100, o 5 (.move (.c (.int .i64 0)))])
 .ret)))))))))⟩
/-- captioner/captionerref55.SameRecords -/
def g17 : GFun := ⟨56, [.tmp 4],
 (.seq (.line [o 4 (.move (.c (.bool false)))])
 (.seq (.seq (.line [m 6 0, o 7 (.len false (.t 6)), m 8 1, o 9 (.len false (.t 8)), o 10 (.bin .neq (some .int) (.t 7) (.t 9))])
 (.cond (.t 10) (.seq (.line [o 4 (.move (.c (.bool false)))])
  .ret) .skip))
 (.seq (.seq (.line [m 11 0, o 12 (.len false (.t 11)), o 13 (.move (.c (.int .i64 0)))])
 (.block 0 (.loop (.seq (.line [o 14 (.bin .lss none (.t 13) (.t 12))])
   (.seq (.cond (.t 14) .skip (.exit 0))
   (.seq (.block 1 (.seq (.line [m 15 13, m 5 15])
    (.seq (.any [] [m 16 0, m 17 5, o 18 (.ia none 3 (.t 16) (.t 17)), f 19 0 18, l 20 19, m 21 1, m 22 5, o 23 (.ia none 3 (.t 21) (.t 22)), f 24 0 23, l 25 24, o 26 (.bin .neq (some .int) (.t 20) (.t 25)), m 27 26, w 28 27 (.move (.t 0)), w 29 27 (.move (.t 5)), w 30 27 (.ia none 3 (.t 28) (.t 29)), w 31 27 (.fa 1 (.t 30)), w 32 27 (.load none (.t 31)), w 33 27 (.move (.t 1)), w 34 27 (.move (.t 5)), w 35 27 (.ia none 3 (.t 33) (.t 34)), w 36 27 (.fa 1 (.t 35)), w 37 27 (.load none (.t 36)), w 38 27 (.bin .neq (some .bool) (.t 32) (.t 37)), o 39 (.pick (.t 27) (.c (.bool true)) (.t 38)), m 40 39, w 41 40 (.move (.t 0)), w 42 40 (.move (.t 5)), w 43 40 (.ia none 3 (.t 41) (.t 42)), w 44 40 (.fa 2 (.t 43)), w 45 40 (.load none (.t 44)), w 46 40 (.conv .ofBytes (.t 45)), w 47 40 (.move (.t 1)), w 48 40 (.move (.t 5)), w 49 40 (.ia none 3 (.t 47) (.t 48)), w 50 40 (.fa 2 (.t 49)), w 51 40 (.load none (.t 50)), w 52 40 (.conv .ofBytes (.t 51)), w 53 40 (.bin .neq (some .str) (.t 46) (.t 52)), o 54 (.pick (.t 40) (.c (.bool true)) (.t 53))] [])
    (.cond (.t 54) (.seq (.line [o 4 (.move (.c (.bool false)))])
     .ret) .skip))))
   (.line [o 55 (.bin .add none (.t 13) (.c (.int .i64 1))), m 13 55])))))))
 (.seq (.line [o 4 (.move (.c (.bool true)))])
 .ret))))⟩
/-- (*captioner/journal.Log).Next -/
def g18 : GFun := ⟨9, [.tmp 2],
 (.seq (.line [o 2 (.move (.c (.int .i64 0)))])
 (.seq (.seq (.line [m 3 0, o 4 (.bin .eql (some .ptr) (.t 3) (.c (.pointer none)))])
 (.cond (.t 4) (.seq (.line [o 2 (.move (.c (.int .i64 0)))])
  .ret) .skip))
 (.seq (.line [m 5 0, o 6 (.nilc (.t 5)), f 7 4 6, l 8 7, m 2 8])
 .ret)))⟩
/-- (*captioner/journal.Log).Damaged -/
def g19 : GFun := ⟨11, [.tmp 2],
 (.seq (.line [o 2 (.move (.c (.bool false)))])
 (.seq (.line [m 3 0, o 4 (.bin .neq (some .ptr) (.t 3) (.c (.pointer none))), m 5 4, u 6 5 (.move (.t 0)), u 7 5 (.nilc (.t 6)), u 8 5 (.fa 6 (.t 7)), u 9 5 (.load none (.t 8)), o 10 (.pick (.t 5) (.t 9) (.c (.bool false))), m 2 10])
 .ret))⟩
/-- (*captioner/journal.Memory).Arm -/
def g20 : GFun := ⟨14, [],
 (.seq (.line [m 4 0, o 5 (.bin .neq (some .ptr) (.t 4) (.c (.pointer none)))])
 (.cond (.t 5) (.line [m 6 0, m 7 0, m 8 1, o 9 (.max (.t 8) [(.c (.int .i64 0))]), o 10 (.nilc (.t 6)), f 11 1 10, e (.store none (.t 11) (.c (.bool true))), o 12 (.nilc (.t 7)), f 13 2 12, e (.store none (.t 13) (.t 9))]) .skip))⟩
/-- (*captioner/journal.Memory).On -/
def g21 : GFun := ⟨13, [],
 (.seq (.line [m 2 0, o 3 (.bin .neq (some .ptr) (.t 2) (.c (.pointer none)))])
 (.cond (.t 3) (.line [m 4 0, m 5 0, m 6 0, o 7 (.nilc (.t 4)), f 8 3 7, e (.store none (.t 8) (.c (.bool false))), o 9 (.nilc (.t 5)), f 10 1 9, e (.store none (.t 10) (.c (.bool false))), o 11 (.nilc (.t 6)), f 12 2 11, e (.store none (.t 12) (.c (.int .i64 0)))]) .skip))⟩
/-- captioner/captionerref55.NewMemory -/
def g22 : GFun := ⟨38, [.cell 2 (some 5), .tmp 3],
 (.seq (.line [o 2 (.alloc 0 [(.int .i64 0), (.slice none 0 0), (.bool false), (.int .i64 0), (.bool false)]), o 3 (.move (.c (.int .i64 0)))])
 (.seq (.seq (.line [m 7 0, o 8 (.bin .lss none (.t 7) (.c (.int .i64 64))), m 9 8, w 10 9 (.move (.t 0)), w 11 9 (.bin .gtr none (.t 10) (.c (.int .i64 8388608))), o 12 (.pick (.t 9) (.c (.bool true)) (.t 11))])
 (.cond (.t 12) (.seq (.line [o 13 (.build [(.int .i64 0), (.slice none 0 0), (.bool false), (.int .i64 0), (.bool false)] []), e (.store (some 5) (.t 2) (.t 13)), o 3 (.move (.c (.int .i64 2)))])
  .ret) .skip))
 (.seq (.line [m 14 0, m 15 0, o 16 (.bin .mul none (.c (.int .i64 2)) (.t 15)), o 17 (.mk [(.int .u8 0)] 1 257 (.t 16) (.t 16)), o 18 (.build [(.int .i64 0), (.slice none 0 0), (.bool false), (.int .i64 0), (.bool false)] [(0, 1, (.t 14)), (1, 1, (.t 17))]), o 4 (.alloc 0 [(.int .i64 0), (.slice none 0 0), (.bool false), (.int .i64 0), (.bool false)]), e (.store (some 5) (.t 4) (.t 18))])
 (.seq (.line [f 19 1 4, l 20 19, o 21 (.ia none 1 (.t 20) (.c (.int .i64 0))), e (.store none (.t 21) (.c (.int .u8 183)))])
 (.seq (.seq (.line [o 22 (.call (.c (.func (.func 44) #[] #[])) [(.c (.int .u64 1)), (.c (.int .i64 8))]), o 23 (.call (.c (.func (.func 43) #[] #[])) [(.t 22)]), o 24 (.len false (.t 23)), o 25 (.move (.c (.int .i64 0)))])
 (.block 0 (.loop (.seq (.line [o 26 (.bin .lss none (.t 25) (.t 24))])
   (.seq (.cond (.t 26) .skip (.exit 0))
   (.seq (.block 1 (.seq (.line [m 27 25, o 28 (.ia none 1 (.t 23) (.t 25)), l 29 28, m 5 27, m 6 29])
    (.line [f 30 1 4, l 31 30, m 32 5, o 33 (.bin .add none (.c (.int .i64 1)) (.t 32)), m 34 6, o 35 (.ia none 1 (.t 31) (.t 33)), e (.store none (.t 35) (.t 34))])))
   (.line [o 36 (.bin .add none (.t 25) (.c (.int .i64 1))), m 25 36])))))))
 (.seq (.line [o 37 (.load (some 5) (.t 4)), e (.store (some 5) (.t 2) (.t 37)), o 3 (.move (.c (.int .i64 0)))])
 .ret))))))⟩
/-- (*captioner/journal.Memory).Bytes -/
def g23 : GFun := ⟨10, [.tmp 2],
 (.seq (.line [o 2 (.move (.c (.slice none 0 0)))])
 (.seq (.seq (.line [m 3 0, o 4 (.bin .eql (some .ptr) (.t 3) (.c (.pointer none)))])
 (.cond (.t 4) (.seq (.line [o 2 (.move (.c (.slice none 0 0)))])
  .ret) .skip))
 (.seq (.line [m 5 0, o 6 (.nilc (.t 5)), f 7 0 6, l 8 7, o 9 (.call (.c (.func (.func 45) #[] #[])) [(.t 8)]), m 2 9])
 .ret)))⟩
/-- (*captioner/journal.Memory).Size -/
def g24 : GFun := ⟨11, [.tmp 2],
 (.seq (.line [o 2 (.move (.c (.int .i64 0)))])
 (.seq (.seq (.line [m 3 0, o 4 (.bin .eql (some .ptr) (.t 3) (.c (.pointer none)))])
 (.cond (.t 4) (.seq (.line [o 2 (.move (.c (.int .i64 0)))])
  .ret) .skip))
 (.seq (.line [m 5 0, o 6 (.nilc (.t 5)), f 7 0 6, l 8 7, o 9 (.len false (.t 8)), o 10 (.bin .quo none (.t 9) (.c (.int .i64 2))), m 2 10])
 .ret)))⟩
/-- (*captioner/journal.Memory).Flip -/
def g25 : GFun := ⟨32, [.tmp 4],
 (.seq (.line [o 4 (.move (.c (.int .i64 0)))])
 (.seq (.seq (.line [m 5 0, o 6 (.bin .eql (some .ptr) (.t 5) (.c (.pointer none)))])
 (.cond (.t 6) (.seq (.line [o 4 (.move (.c (.int .i64 1)))])
  .ret) .skip))
 (.seq (.seq (.line [m 7 1, o 8 (.bin .lss none (.t 7) (.c (.int .i64 0))), m 9 8, w 10 9 (.move (.t 1)), w 11 9 (.move (.t 0)), w 12 9 (.nilc (.t 11)), w 13 9 (.fa 0 (.t 12)), w 14 9 (.load none (.t 13)), w 15 9 (.len false (.t 14)), w 16 9 (.bin .mul none (.c (.int .i64 8)) (.t 15)), w 17 9 (.bin .geq none (.t 10) (.t 16)), o 18 (.pick (.t 9) (.c (.bool true)) (.t 17))])
 (.cond (.t 18) (.seq (.line [o 4 (.move (.c (.int .i64 2)))])
  .ret) .skip))
 (.seq (.any [] [m 19 0, o 20 (.nilc (.t 19)), f 21 0 20, l 22 21, m 23 1, o 24 (.bin .quo none (.t 23) (.c (.int .i64 8))), o 25 (.ia none 1 (.t 22) (.t 24)), l 26 25, m 27 1, o 28 (.bin .rem none (.t 27) (.c (.int .i64 8))), o 29 (.bin .shl none (.c (.int .u8 1)) (.t 28)), o 30 (.bin .xor none (.t 26) (.t 29)), o 31 (.ia none 1 (.t 22) (.t 24))] [(false, e (.store none (.t 31) (.t 30)))])
 (.seq (.line [o 4 (.move (.c (.int .i64 0)))])
 .ret)))))⟩
/-- (*captioner/journal.Memory).Off -/
def g26 : GFun := ⟨11, [.tmp 2],
 (.seq (.line [o 2 (.move (.c (.bool false)))])
 (.seq (.line [m 3 0, o 4 (.bin .neq (some .ptr) (.t 3) (.c (.pointer none))), m 5 4, u 6 5 (.move (.t 0)), u 7 5 (.nilc (.t 6)), u 8 5 (.fa 3 (.t 7)), u 9 5 (.load none (.t 8)), o 10 (.pick (.t 5) (.t 9) (.c (.bool false))), m 2 10])
 .ret))⟩
/-- captioner/captionerref55.Open -/
def g27 : GFun := ⟨92, [.cell 2 (some 6), .tmp 3, .tmp 4],
 (.seq (.line [o 1 (.box (.t 0)), o 2 (.alloc 0 [(.int .i64 0), (.int .i64 0), (.int .i64 0), (.int .u64 0), (.bool false), (.bool false)]), o 3 (.move (.c (.slice none 0 0))), o 4 (.move (.c (.int .i64 0)))])
 (.seq (.seq (.line [f 14 4 1, l 15 14])
 (.cond (.t 15) (.seq (.line [o 16 (.build [(.int .i64 0), (.int .i64 0), (.int .i64 0), (.int .u64 0), (.bool false), (.bool false)] []), e (.store (some 6) (.t 2) (.t 16)), o 3 (.move (.c (.slice none 0 0))), o 4 (.move (.c (.int .i64 21)))])
  .ret) .skip))
 (.seq (.line [o 18 (.load (some 5) (.t 1)), o 19 (.call (.c (.func (.func 47) #[] #[])) [(.t 18), (.c (.int .i64 0))]), o 20 (.call (.c (.func (.func 46) #[] #[])) [(.t 19)]), m 17 20, o 21 (.ext (.t 17) 0), o 22 (.ext (.t 17) 1), m 5 21, m 6 22])
 (.seq (.line [o 24 (.load (some 5) (.t 1)), o 25 (.call (.c (.func (.func 47) #[] #[])) [(.t 24), (.c (.int .i64 1))]), o 26 (.call (.c (.func (.func 46) #[] #[])) [(.t 25)]), m 23 26, o 27 (.ext (.t 23) 0), o 28 (.ext (.t 23) 1), m 7 27, m 8 28])
 (.seq (.seq (.line [m 29 6, o 30 (.un .not (.t 29)), m 31 30, u 32 31 (.move (.t 8)), u 33 31 (.un .not (.t 32)), o 34 (.pick (.t 31) (.t 33) (.c (.bool false)))])
 (.cond (.t 34) (.seq (.line [o 35 (.build [(.int .i64 0), (.int .i64 0), (.int .i64 0), (.int .u64 0), (.bool false), (.bool false)] []), e (.store (some 6) (.t 2) (.t 35)), o 3 (.move (.c (.slice none 0 0))), o 4 (.move (.c (.int .i64 19)))])
  .ret) .skip))
 (.seq (.line [m 36 5, o 37 (.build [(.int .i64 0), (.int .i64 0), (.int .i64 0), (.int .u64 0), (.bool false), (.bool false)] [(1, 1, (.c (.int .i64 13))), (2, 1, (.c (.int .i64 1))), (3, 1, (.t 36))]), o 9 (.alloc 0 [(.int .i64 0), (.int .i64 0), (.int .i64 0), (.int .u64 0), (.bool false), (.bool false)]), e (.store (some 6) (.t 9) (.t 37))])
 (.seq (.seq (.line [m 38 8, m 39 38, u 40 39 (.move (.t 6)), u 41 39 (.un .not (.t 40)), u 42 39 (.move (.t 41)), w 43 42 (.move (.t 7)), w 44 42 (.move (.t 5)), w 45 42 (.bin .gtr none (.t 43) (.t 44)), u 46 39 (.pick (.t 42) (.c (.bool true)) (.t 45)), o 47 (.pick (.t 39) (.t 46) (.c (.bool false)))])
 (.cond (.t 47) (.line [m 48 7, f 49 0 9, e (.store none (.t 49) (.c (.int .i64 1))), f 50 3 9, e (.store none (.t 50) (.t 48))]) .skip))
 (.seq (.line [o 51 (.load (some 5) (.t 1)), f 52 0 9, l 53 52, o 54 (.call (.c (.func (.func 47) #[] #[])) [(.t 51), (.t 53)]), m 10 54])
 (.seq (.line [o 11 (.move (.c (.slice none 0 0)))])
 (.seq (.block 0 (.loop (.seq (.seq (.line [m 55 10, f 56 1 9, l 57 56, o 58 (.ia none 1 (.t 55) (.t 57)), l 59 58, o 60 (.bin .neq (some .int) (.t 59) (.c (.int .u8 0)))])
   (.cond (.t 60) .skip (.exit 0)))
   (.block 1 (.seq (.line [m 62 10, f 63 1 9, l 64 63, f 65 2 9, l 66 65, o 67 (.bin .sub none (.t 66) (.c (.int .i64 1))), o 68 (.call (.c (.func (.func 48) #[] #[])) [(.t 62), (.t 64), (.t 67)]), m 61 68, o 69 (.ext (.t 61) 0), o 70 (.ext (.t 61) 1), o 12 (.alloc 0 [(.int .i64 0), (.bool false), (.slice none 0 0)]), e (.store (some 3) (.t 12) (.t 69)), m 13 70])
    (.seq (.seq (.line [m 71 13, o 72 (.un .not (.t 71))])
    (.cond (.t 72) (.seq (.line [f 73 4 9, e (.store none (.t 73) (.c (.bool true)))])
     (.exit 0)) .skip))
    (.seq (.line [m 74 11, o 75 (.load (some 3) (.t 12)), o 76 (.buildSl 3 1 [(.int .i64 0), (.bool false), (.slice none 0 0)] [(0, 3, (.t 75))]), o 77 (.app 3 40 3 (.t 74) (.t 76)), m 11 77])
    (.seq (.line [f 78 0 12, l 79 78, o 80 (.bin .add none (.t 79) (.c (.int .i64 1))), f 81 2 9, e (.store none (.t 81) (.t 80))])
    (.line [f 82 1 9, l 83 82, f 84 2 12, l 85 84, o 86 (.len false (.t 85)), o 87 (.bin .add none (.c (.int .i64 17)) (.t 86)), o 88 (.bin .add none (.t 83) (.t 87)), f 89 1 9, e (.store none (.t 89) (.t 88))])))))))))
 (.seq (.line [o 90 (.load (some 6) (.t 9)), m 91 11, e (.store (some 6) (.t 2) (.t 90)), m 3 91, o 4 (.move (.c (.int .i64 0)))])
 .ret)))))))))))⟩
/-- captioner/captionerref55.Compact -/
def g28 : GFun := ⟨97, [.cell 6 (some 5), .cell 7 (some 6), .tmp 8, .tmp 9],
 (.seq (.line [o 3 (.box (.t 0)), o 4 (.box (.t 1)), o 6 (.alloc 0 [(.int .i64 0), (.slice none 0 0), (.bool false), (.int .i64 0), (.bool false)]), o 7 (.alloc 0 [(.int .i64 0), (.int .i64 0), (.int .i64 0), (.int .u64 0), (.bool false), (.bool false)]), o 8 (.move (.c (.int .i64 0))), o 9 (.move (.c (.int .i64 0)))])
 (.seq (.seq (.line [o 12 (.load (some 5) (.t 3)), o 13 (.load (some 6) (.t 4)), m 14 2, o 15 (.call (.c (.func (.func 49) #[] #[])) [(.t 12), (.t 13), (.c (.int .i64 13)), (.t 14)]), m 10 15])
 (.seq (.line [m 16 10, o 17 (.bin .neq (some .int) (.t 16) (.c (.int .i64 0)))])
 (.cond (.t 17) (.seq (.any [(.t 6)] [o 18 (.load (some 5) (.t 3)), o 19 (.load (some 6) (.t 4)), m 20 10] [(true, e (.store (some 5) (.t 6) (.t 18))), (false, e (.store (some 6) (.t 7) (.t 19))), (false, o 8 (.move (.c (.int .i64 0)))), (false, m 9 20)])
  .ret) .skip)))
 (.seq (.line [o 21 (.load (some 5) (.t 3)), o 22 (.call (.c (.func (.func 50) #[] #[])) [(.t 21)]), e (.store (some 5) (.t 3) (.t 22))])
 (.seq (.line [f 23 0 4, l 24 23, o 25 (.bin .sub none (.c (.int .i64 1)) (.t 24)), f 26 0 3, l 27 26, o 28 (.bin .mul none (.t 25) (.t 27)), m 11 28])
 (.seq (.line [o 29 (.load (some 5) (.t 3)), m 30 11, o 31 (.buildSl 257 1 [(.int .u8 0)] [(0, 1, (.c (.int .u8 0)))]), o 32 (.call (.c (.func (.func 51) #[] #[])) [(.t 29), (.t 30), (.t 31)]), e (.store (some 5) (.t 3) (.t 32))])
 (.seq (.any [(.c (.int .i64 8))] [o 33 (.load (some 5) (.t 3)), m 34 11, o 35 (.bin .add none (.t 34) (.c (.int .i64 1))), f 36 3 4, l 37 36, o 38 (.bin .add none (.t 37) (.c (.int .u64 1)))] [(true, o 39 (.call (.c (.func (.func 44) #[] #[])) [(.t 38), (.c (.int .i64 8))])), (true, o 40 (.call (.c (.func (.func 43) #[] #[])) [(.t 39)])), (false, o 41 (.call (.c (.func (.func 51) #[] #[])) [(.t 33), (.t 35), (.t 40)])), (false, e (.store (some 5) (.t 3) (.t 41)))])
 (.seq (.line [o 42 (.load (some 5) (.t 3)), m 43 11, o 44 (.bin .add none (.t 43) (.c (.int .i64 13))), o 45 (.buildSl 257 1 [(.int .u8 0)] [(0, 1, (.c (.int .u8 0)))]), o 46 (.call (.c (.func (.func 51) #[] #[])) [(.t 42), (.t 44), (.t 45)]), e (.store (some 5) (.t 3) (.t 46))])
 (.seq (.line [o 47 (.load (some 5) (.t 3)), m 48 11, o 49 (.bin .add none (.t 48) (.c (.int .i64 13))), o 50 (.bin .add none (.t 49) (.c (.int .i64 17))), m 51 2, o 52 (.len false (.t 51)), o 53 (.bin .add none (.t 50) (.t 52)), o 54 (.buildSl 257 1 [(.int .u8 0)] [(0, 1, (.c (.int .u8 0)))]), o 55 (.call (.c (.func (.func 51) #[] #[])) [(.t 47), (.t 53), (.t 54)]), e (.store (some 5) (.t 3) (.t 55))])
 (.seq (.any [(.t 2)] [o 56 (.load (some 5) (.t 3)), m 57 11, o 58 (.bin .add none (.t 57) (.c (.int .i64 13))), o 59 (.bin .add none (.t 58) (.c (.int .i64 1))), f 60 2 4, l 61 60, m 62 2] [(true, o 63 (.call (.c (.func (.func 52) #[] #[])) [(.t 61), (.t 62)])), (false, o 64 (.call (.c (.func (.func 51) #[] #[])) [(.t 56), (.t 59), (.t 63)])), (false, e (.store (some 5) (.t 3) (.t 64)))])
 (.seq (.line [o 65 (.load (some 5) (.t 3)), m 66 11, o 67 (.bin .add none (.t 66) (.c (.int .i64 13))), o 68 (.buildSl 257 1 [(.int .u8 0)] [(0, 1, (.c (.int .u8 166)))]), o 69 (.call (.c (.func (.func 51) #[] #[])) [(.t 65), (.t 67), (.t 68)]), e (.store (some 5) (.t 3) (.t 69))])
 (.seq (.line [o 70 (.load (some 5) (.t 3)), m 71 11, o 72 (.buildSl 257 1 [(.int .u8 0)] [(0, 1, (.c (.int .u8 183)))]), o 73 (.call (.c (.func (.func 51) #[] #[])) [(.t 70), (.t 71), (.t 72)]), e (.store (some 5) (.t 3) (.t 73))])
 (.seq (.seq (.line [f 74 4 3, l 75 74])
 (.cond (.t 75) (.seq (.line [f 76 5 4, e (.store none (.t 76) (.c (.bool true)))])
  (.seq (.any [(.t 6)] [o 77 (.load (some 5) (.t 3)), o 78 (.load (some 6) (.t 4))] [(true, e (.store (some 5) (.t 6) (.t 77))), (false, e (.store (some 6) (.t 7) (.t 78))), (false, o 8 (.move (.c (.int .i64 0)))), (false, o 9 (.move (.c (.int .i64 21))))])
  .ret)) .skip))
 (.seq (.line [f 79 0 4, l 80 79, o 81 (.bin .sub none (.c (.int .i64 1)) (.t 80)), m 82 2, o 83 (.len false (.t 82)), o 84 (.bin .add none (.c (.int .i64 30)) (.t 83)), f 85 2 4, l 86 85, o 87 (.bin .add none (.t 86) (.c (.int .i64 1))), f 88 3 4, l 89 88, o 90 (.bin .add none (.t 89) (.c (.int .u64 1))), o 91 (.build [(.int .i64 0), (.int .i64 0), (.int .i64 0), (.int .u64 0), (.bool false), (.bool false)] [(0, 1, (.t 81)), (1, 1, (.t 84)), (2, 1, (.t 87)), (3, 1, (.t 90))]), e (.store (some 6) (.t 4) (.t 91))])
 (.seq (.any [(.t 6), (.t 7)] [o 92 (.load (some 5) (.t 3)), o 93 (.load (some 6) (.t 4)), f 94 2 4, l 95 94, o 96 (.bin .sub none (.t 95) (.c (.int .i64 1)))] [(true, e (.store (some 5) (.t 6) (.t 92))), (true, e (.store (some 6) (.t 7) (.t 93))), (false, m 8 96), (false, o 9 (.move (.c (.int .i64 0))))])
 .ret))))))))))))))⟩
/-- captioner/captionerref55.Append -/
def g29 : GFun := ⟨78, [.cell 6 (some 5), .cell 7 (some 6), .tmp 8, .tmp 9],
 (.seq (.line [o 3 (.box (.t 0)), o 4 (.box (.t 1)), o 6 (.alloc 0 [(.int .i64 0), (.slice none 0 0), (.bool false), (.int .i64 0), (.bool false)]), o 7 (.alloc 0 [(.int .i64 0), (.int .i64 0), (.int .i64 0), (.int .u64 0), (.bool false), (.bool false)]), o 8 (.move (.c (.int .i64 0))), o 9 (.move (.c (.int .i64 0)))])
 (.seq (.seq (.line [o 12 (.load (some 5) (.t 3)), o 13 (.load (some 6) (.t 4)), f 14 1 4, l 15 14, m 16 2, o 17 (.call (.c (.func (.func 49) #[] #[])) [(.t 12), (.t 13), (.t 15), (.t 16)]), m 10 17])
 (.seq (.line [m 18 10, o 19 (.bin .neq (some .int) (.t 18) (.c (.int .i64 0)))])
 (.cond (.t 19) (.seq (.any [(.t 6)] [o 20 (.load (some 5) (.t 3)), o 21 (.load (some 6) (.t 4)), m 22 10] [(true, e (.store (some 5) (.t 6) (.t 20))), (false, e (.store (some 6) (.t 7) (.t 21))), (false, o 8 (.move (.c (.int .i64 0)))), (false, m 9 22)])
  .ret) .skip)))
 (.seq (.line [o 23 (.load (some 5) (.t 3)), o 24 (.call (.c (.func (.func 50) #[] #[])) [(.t 23)]), e (.store (some 5) (.t 3) (.t 24))])
 (.seq (.line [f 25 0 4, l 26 25, f 27 0 3, l 28 27, o 29 (.bin .mul none (.t 26) (.t 28)), f 30 1 4, l 31 30, o 32 (.bin .add none (.t 29) (.t 31)), m 11 32])
 (.seq (.line [o 33 (.load (some 5) (.t 3)), m 34 11, o 35 (.buildSl 257 1 [(.int .u8 0)] [(0, 1, (.c (.int .u8 0)))]), o 36 (.call (.c (.func (.func 51) #[] #[])) [(.t 33), (.t 34), (.t 35)]), e (.store (some 5) (.t 3) (.t 36))])
 (.seq (.line [o 37 (.load (some 5) (.t 3)), m 38 11, o 39 (.bin .add none (.t 38) (.c (.int .i64 17))), m 40 2, o 41 (.len false (.t 40)), o 42 (.bin .add none (.t 39) (.t 41)), o 43 (.buildSl 257 1 [(.int .u8 0)] [(0, 1, (.c (.int .u8 0)))]), o 44 (.call (.c (.func (.func 51) #[] #[])) [(.t 37), (.t 42), (.t 43)]), e (.store (some 5) (.t 3) (.t 44))])
 (.seq (.any [(.t 2)] [o 45 (.load (some 5) (.t 3)), m 46 11, o 47 (.bin .add none (.t 46) (.c (.int .i64 1))), f 48 2 4, l 49 48, m 50 2] [(true, o 51 (.call (.c (.func (.func 52) #[] #[])) [(.t 49), (.t 50)])), (false, o 52 (.call (.c (.func (.func 51) #[] #[])) [(.t 45), (.t 47), (.t 51)])), (false, e (.store (some 5) (.t 3) (.t 52)))])
 (.seq (.line [o 53 (.load (some 5) (.t 3)), m 54 11, o 55 (.buildSl 257 1 [(.int .u8 0)] [(0, 1, (.c (.int .u8 165)))]), o 56 (.call (.c (.func (.func 51) #[] #[])) [(.t 53), (.t 54), (.t 55)]), e (.store (some 5) (.t 3) (.t 56))])
 (.seq (.seq (.line [f 57 4 3, l 58 57])
 (.cond (.t 58) (.seq (.line [f 59 5 4, e (.store none (.t 59) (.c (.bool true)))])
  (.seq (.any [(.t 6)] [o 60 (.load (some 5) (.t 3)), o 61 (.load (some 6) (.t 4))] [(true, e (.store (some 5) (.t 6) (.t 60))), (false, e (.store (some 6) (.t 7) (.t 61))), (false, o 8 (.move (.c (.int .i64 0)))), (false, o 9 (.move (.c (.int .i64 21))))])
  .ret)) .skip))
 (.seq (.line [f 62 1 4, l 63 62, m 64 2, o 65 (.len false (.t 64)), o 66 (.bin .add none (.c (.int .i64 17)) (.t 65)), o 67 (.bin .add none (.t 63) (.t 66)), f 68 1 4, e (.store none (.t 68) (.t 67))])
 (.seq (.line [f 69 2 4, l 70 69, o 71 (.bin .add none (.t 70) (.c (.int .i64 1))), f 72 2 4, e (.store none (.t 72) (.t 71))])
 (.seq (.any [(.t 6), (.t 7)] [o 73 (.load (some 5) (.t 3)), o 74 (.load (some 6) (.t 4)), f 75 2 4, l 76 75, o 77 (.bin .sub none (.t 76) (.c (.int .i64 1)))] [(true, e (.store (some 5) (.t 6) (.t 73))), (true, e (.store (some 6) (.t 7) (.t 74))), (false, m 8 77), (false, o 9 (.move (.c (.int .i64 0))))])
 .ret))))))))))))⟩
/-- captioner/captionerref55.Arm -/
def g30 : GFun := ⟨10, [.cell 4 (some 5)],
 (.seq (.line [o 2 (.box (.t 0)), o 4 (.alloc 0 [(.int .i64 0), (.slice none 0 0), (.bool false), (.int .i64 0), (.bool false)])])
 (.seq (.line [m 5 1, o 6 (.max (.t 5) [(.c (.int .i64 0))]), f 7 2 2, e (.store none (.t 7) (.c (.bool true))), f 8 3 2, e (.store none (.t 8) (.t 6))])
 (.seq (.line [o 9 (.load (some 5) (.t 2)), e (.store (some 5) (.t 4) (.t 9))])
 .ret)))⟩
/-- captioner/captionerref55.On -/
def g31 : GFun := ⟨7, [.cell 2 (some 5)],
 (.seq (.line [o 1 (.box (.t 0)), o 2 (.alloc 0 [(.int .i64 0), (.slice none 0 0), (.bool false), (.int .i64 0), (.bool false)])])
 (.seq (.line [f 3 2 1, e (.store none (.t 3) (.c (.bool false))), f 4 3 1, e (.store none (.t 4) (.c (.int .i64 0))), f 5 4 1, e (.store none (.t 5) (.c (.bool false)))])
 (.seq (.line [o 6 (.load (some 5) (.t 1)), e (.store (some 5) (.t 2) (.t 6))])
 .ret)))⟩
/-- captioner/captionerref55.Flip -/
def g32 : GFun := ⟨34, [.cell 4 (some 5), .tmp 5],
 (.seq (.line [o 2 (.box (.t 0)), o 4 (.alloc 0 [(.int .i64 0), (.slice none 0 0), (.bool false), (.int .i64 0), (.bool false)]), o 5 (.move (.c (.int .i64 0)))])
 (.seq (.seq (.line [m 6 1, o 7 (.bin .lss none (.t 6) (.c (.int .i64 0))), m 8 7, w 9 8 (.move (.t 1)), w 10 8 (.fa 1 (.t 2)), w 11 8 (.load none (.t 10)), w 12 8 (.len false (.t 11)), w 13 8 (.bin .mul none (.c (.int .i64 8)) (.t 12)), w 14 8 (.bin .geq none (.t 9) (.t 13)), o 15 (.pick (.t 8) (.c (.bool true)) (.t 14))])
 (.cond (.t 15) (.seq (.line [o 16 (.load (some 5) (.t 2)), e (.store (some 5) (.t 4) (.t 16)), o 5 (.move (.c (.int .i64 2)))])
  .ret) .skip))
 (.seq (.line [o 17 (.buildSl 257 0 [(.int .u8 0)] []), f 18 1 2, l 19 18, o 20 (.app 1 1 257 (.t 17) (.t 19)), f 21 1 2, e (.store none (.t 21) (.t 20))])
 (.seq (.any [] [f 22 1 2, l 23 22, m 24 1, o 25 (.bin .quo none (.t 24) (.c (.int .i64 8))), o 26 (.ia none 1 (.t 23) (.t 25)), l 27 26, m 28 1, o 29 (.bin .rem none (.t 28) (.c (.int .i64 8))), o 30 (.bin .shl none (.c (.int .u8 1)) (.t 29)), o 31 (.bin .xor none (.t 27) (.t 30)), o 32 (.ia none 1 (.t 23) (.t 25))] [(false, e (.store none (.t 32) (.t 31)))])
 (.seq (.line [o 33 (.load (some 5) (.t 2)), e (.store (some 5) (.t 4) (.t 33)), o 5 (.move (.c (.int .i64 0)))])
 .ret)))))⟩
/-- captioner/captionerref55.Free -/
def g33 : GFun := ⟨12, [.tmp 4],
 (.seq (.line [o 2 (.box (.t 0)), o 3 (.box (.t 1)), o 4 (.move (.c (.int .i64 0)))])
 (.seq (.line [f 5 0 2, l 6 5, f 7 1 3, l 8 7, o 9 (.bin .sub none (.t 6) (.t 8)), o 10 (.bin .sub none (.t 9) (.c (.int .i64 18))), o 11 (.max (.t 10) [(.c (.int .i64 (-1)))]), m 4 11])
 .ret))⟩
/-- (*captioner/journal.Memory).Clone -/
def g34 : GFun := ⟨15, [.tmp 2],
 (.seq (.line [o 2 (.move (.c (.pointer none)))])
 (.seq (.seq (.line [m 4 0, o 5 (.bin .eql (some .ptr) (.t 4) (.c (.pointer none)))])
 (.cond (.t 5) (.seq (.line [o 2 (.move (.c (.pointer none)))])
  .ret) .skip))
 (.seq (.line [m 6 0, o 7 (.nilc (.t 6)), o 8 (.load (some 4) (.t 7)), o 3 (.alloc 0 [(.slice none 0 0), (.bool false), (.int .i64 0), (.bool false)]), e (.store (some 4) (.t 3) (.t 8))])
 (.seq (.line [m 9 0, o 10 (.nilc (.t 9)), f 11 0 10, l 12 11, o 13 (.call (.c (.func (.func 45) #[] #[])) [(.t 12)]), f 14 0 3, e (.store none (.t 14) (.t 13))])
 (.seq (.line [m 2 3])
 .ret)))))⟩
/-- captioner/crc.Seal -/
def g35 : GFun := ⟨23, [.tmp 2],
 (.seq (.line [o 2 (.move (.c (.slice none 0 0)))])
 (.seq (.line [m 5 0, o 6 (.call (.c (.func (.func 53) #[] #[])) [(.t 5)]), m 3 6])
 (.seq (.line [m 7 0, o 8 (.app 1 1 257 (.c (.slice none 0 0)) (.t 7)), m 4 8])
 (.seq (.line [m 9 4, m 10 3, o 11 (.conv (.int .u8) (.t 10)), m 12 3, o 13 (.bin .shr none (.t 12) (.c (.int .u64 8))), o 14 (.conv (.int .u8) (.t 13)), m 15 3, o 16 (.bin .shr none (.t 15) (.c (.int .u64 16))), o 17 (.conv (.int .u8) (.t 16)), m 18 3, o 19 (.bin .shr none (.t 18) (.c (.int .u64 24))), o 20 (.conv (.int .u8) (.t 19)), o 21 (.buildSl 257 4 [(.int .u8 0)] [(0, 1, (.t 11)), (1, 1, (.t 14)), (2, 1, (.t 17)), (3, 1, (.t 20))]), o 22 (.app 1 1 257 (.t 9) (.t 21)), m 2 22])
 .ret))))⟩
/-- captioner/journal.low -/
def g36 : GFun := ⟨24, [.tmp 4],
 (.seq (.line [o 4 (.move (.c (.slice none 0 0)))])
 (.seq (.line [m 7 1, o 8 (.mk [(.int .u8 0)] 1 257 (.t 7) (.t 7)), m 5 8])
 (.seq (.seq (.line [m 9 5, o 10 (.len false (.t 9)), o 11 (.move (.c (.int .i64 0)))])
 (.block 0 (.loop (.seq (.line [o 12 (.bin .lss none (.t 11) (.t 10))])
   (.seq (.cond (.t 12) .skip (.exit 0))
   (.seq (.block 1 (.seq (.line [m 13 11, m 6 13])
    (.line [m 14 5, m 15 6, m 16 0, m 17 6, o 18 (.bin .mul none (.c (.int .i64 8)) (.t 17)), o 19 (.bin .shr none (.t 16) (.t 18)), o 20 (.conv (.int .u8) (.t 19)), o 21 (.ia none 1 (.t 14) (.t 15)), e (.store none (.t 21) (.t 20))])))
   (.line [o 22 (.bin .add none (.t 11) (.c (.int .i64 1))), m 11 22])))))))
 (.seq (.line [m 23 5, m 4 23])
 .ret))))⟩
/-- captioner/journal.choose -/
def g37 : GFun := ⟨32, [.tmp 2, .tmp 3, .tmp 4],
 (.seq (.line [o 2 (.move (.c (.int .i64 0))), o 3 (.move (.c (.int .u64 0))), o 4 (.move (.c (.bool false)))])
 (.seq (.line [m 10 0, o 11 (.call (.c (.func (.func 54) #[] #[])) [(.t 10), (.c (.int .i64 0))]), m 9 11, o 12 (.ext (.t 9) 0), o 13 (.ext (.t 9) 1), m 5 12, m 6 13])
 (.seq (.line [m 15 0, o 16 (.call (.c (.func (.func 54) #[] #[])) [(.t 15), (.c (.int .i64 1))]), m 14 16, o 17 (.ext (.t 14) 0), o 18 (.ext (.t 14) 1), m 7 17, m 8 18])
 (.seq (.seq (.line [m 19 8, m 20 19, u 21 20 (.move (.t 6)), u 22 20 (.un .not (.t 21)), u 23 20 (.move (.t 22)), w 24 23 (.move (.t 7)), w 25 23 (.move (.t 5)), w 26 23 (.bin .gtr none (.t 24) (.t 25)), u 27 20 (.pick (.t 23) (.c (.bool true)) (.t 26)), o 28 (.pick (.t 20) (.t 27) (.c (.bool false)))])
 (.cond (.t 28) (.seq (.line [m 29 7, o 2 (.move (.c (.int .i64 1))), m 3 29, o 4 (.move (.c (.bool true)))])
  .ret) .skip))
 (.seq (.line [m 30 5, m 31 6, o 2 (.move (.c (.int .i64 0))), m 3 30, m 4 31])
 .ret)))))⟩
/-- (*captioner/journal.Memory).bank -/
def g38 : GFun := ⟨19, [.tmp 4],
 (.seq (.line [o 4 (.move (.c (.slice none 0 0)))])
 (.seq (.any [] [m 5 0, o 6 (.nilc (.t 5)), f 7 0 6, l 8 7, m 9 1, m 10 0, o 11 (.call (.c (.func (.func 24) #[] #[])) [(.t 10)]), o 12 (.bin .mul none (.t 9) (.t 11)), m 13 1, o 14 (.bin .add none (.t 13) (.c (.int .i64 1))), m 15 0, o 16 (.call (.c (.func (.func 24) #[] #[])) [(.t 15)]), o 17 (.bin .mul none (.t 14) (.t 16)), o 18 (.slice (.sl 1) (.t 8) (some (.t 12)) (some (.t 17)) none), m 4 18] [])
 .ret))⟩
/-- captioner/journal.read -/
def g39 : GFun := ⟨103, [.cell 6 (some 3), .tmp 7],
 (.seq (.line [o 6 (.alloc 0 [(.int .i64 0), (.bool false), (.slice none 0 0)]), o 7 (.move (.c (.bool false)))])
 (.seq (.seq (.line [m 12 0, m 13 1, o 14 (.ia none 1 (.t 12) (.t 13)), l 15 14, o 16 (.bin .neq (some .int) (.t 15) (.c (.int .u8 165))), m 17 16, u 18 17 (.move (.t 0)), u 19 17 (.move (.t 1)), u 20 17 (.ia none 1 (.t 18) (.t 19)), u 21 17 (.load none (.t 20)), u 22 17 (.bin .neq (some .int) (.t 21) (.c (.int .u8 166))), u 23 17 (.move (.t 22)), w 24 23 (.move (.t 2)), w 25 23 (.bin .neq (some .int) (.t 24) (.c (.int .i64 0))), u 26 17 (.pick (.t 23) (.c (.bool true)) (.t 25)), o 27 (.pick (.t 17) (.t 26) (.c (.bool false))), m 28 27, w 29 28 (.move (.t 1)), w 30 28 (.bin .add none (.t 29) (.c (.int .i64 17))), w 31 28 (.move (.t 0)), w 32 28 (.len false (.t 31)), w 33 28 (.bin .geq none (.t 30) (.t 32)), o 34 (.pick (.t 28) (.c (.bool true)) (.t 33))])
 (.cond (.t 34) (.seq (.line [o 35 (.build [(.int .i64 0), (.bool false), (.slice none 0 0)] []), e (.store (some 3) (.t 6) (.t 35)), o 7 (.move (.c (.bool false)))])
  .ret) .skip))
 (.seq (.line [m 36 0, m 37 1, o 38 (.bin .add none (.t 37) (.c (.int .i64 1))), m 39 1, o 40 (.bin .add none (.t 39) (.c (.int .i64 5))), o 41 (.slice (.sl 1) (.t 36) (some (.t 38)) (some (.t 40)) none), o 42 (.call (.c (.func (.func 55) #[] #[])) [(.t 41)]), m 8 42])
 (.seq (.seq (.line [m 43 8, m 44 0, o 45 (.len false (.t 44)), m 46 1, o 47 (.bin .sub none (.t 45) (.t 46)), o 48 (.bin .sub none (.t 47) (.c (.int .i64 17))), o 49 (.conv (.int .u64) (.t 48)), o 50 (.bin .geq none (.t 43) (.t 49))])
 (.cond (.t 50) (.seq (.line [o 51 (.build [(.int .i64 0), (.bool false), (.slice none 0 0)] []), e (.store (some 3) (.t 6) (.t 51)), o 7 (.move (.c (.bool false)))])
  .ret) .skip))
 (.seq (.line [m 53 0, m 54 1, o 55 (.bin .add none (.t 54) (.c (.int .i64 1))), m 56 1, o 57 (.bin .add none (.t 56) (.c (.int .i64 17))), m 58 8, o 59 (.conv (.int .i64) (.t 58)), o 60 (.bin .add none (.t 57) (.t 59)), o 61 (.slice (.sl 1) (.t 53) (some (.t 55)) (some (.t 60)) none), o 62 (.call (.c (.func (.func 56) #[] #[])) [(.t 61)]), m 52 62, o 63 (.ext (.t 52) 0), o 64 (.ext (.t 52) 1), m 9 63, m 10 64])
 (.seq (.seq (.line [m 65 10, o 66 (.bin .neq (some .int) (.t 65) (.c (.int .i64 0)))])
 (.cond (.t 66) (.seq (.line [o 67 (.build [(.int .i64 0), (.bool false), (.slice none 0 0)] []), e (.store (some 3) (.t 6) (.t 67)), o 7 (.move (.c (.bool false)))])
  .ret) .skip))
 (.seq (.line [m 68 9, o 69 (.slice (.sl 1) (.t 68) (some (.c (.int .i64 4))) (some (.c (.int .i64 12))) none), o 70 (.call (.c (.func (.func 55) #[] #[])) [(.t 69)]), m 11 70])
 (.seq (.seq (.line [m 71 2, o 72 (.bin .eql (some .int) (.t 71) (.c (.int .i64 0))), m 73 72, u 74 73 (.move (.t 11)), u 75 73 (.bin .lss none (.t 74) (.c (.int .u64 1))), u 76 73 (.move (.t 75)), w 77 76 (.move (.t 11)), w 78 76 (.bin .gtr none (.t 77) (.c (.int .u64 1099511627776))), u 79 73 (.pick (.t 76) (.c (.bool true)) (.t 78)), o 80 (.pick (.t 73) (.t 79) (.c (.bool false))), m 81 80, w 82 81 (.move (.t 2)), w 83 81 (.bin .neq (some .int) (.t 82) (.c (.int .i64 0))), w 84 81 (.move (.t 83)), u 85 84 (.move (.t 11)), u 86 84 (.move (.t 2)), u 87 84 (.conv (.int .u64) (.t 86)), u 88 84 (.bin .add none (.t 87) (.c (.int .u64 1))), u 89 84 (.bin .neq (some .int) (.t 85) (.t 88)), w 90 81 (.pick (.t 84) (.t 89) (.c (.bool false))), o 91 (.pick (.t 81) (.c (.bool true)) (.t 90))])
 (.cond (.t 91) (.seq (.line [o 92 (.build [(.int .i64 0), (.bool false), (.slice none 0 0)] []), e (.store (some 3) (.t 6) (.t 92)), o 7 (.move (.c (.bool false)))])
  .ret) .skip))
 (.seq (.any [] [m 93 11, o 94 (.conv (.int .i64) (.t 93)), m 95 0, m 96 1, o 97 (.ia none 1 (.t 95) (.t 96)), l 98 97, o 99 (.bin .eql (some .int) (.t 98) (.c (.int .u8 166))), m 100 9, o 101 (.slice (.sl 1) (.t 100) (some (.c (.int .i64 12))) none none), o 102 (.build [(.int .i64 0), (.bool false), (.slice none 0 0)] [(0, 1, (.t 94)), (1, 1, (.t 99)), (2, 1, (.t 101))])] [(false, e (.store (some 3) (.t 6) (.t 102))), (false, o 7 (.move (.c (.bool true))))])
 .ret)))))))))⟩
/-- (*captioner/journal.Log).refused -/
def g40 : GFun := ⟨41, [.tmp 6],
 (.seq (.line [o 6 (.move (.c (.int .i64 0)))])
 (.seq (.block 0 (.seq (.line [m 8 0, o 9 (.nilc (.t 8)), f 10 4 9, l 11 10, o 12 (.bin .gtr none (.t 11) (.c (.int .i64 1099511627776))), m 7 12])
  (.cond (.t 7) (.seq (.line [o 6 (.move (.c (.int .i64 9)))])
   .ret) (.seq (.line [m 14 2, m 15 0, o 16 (.nilc (.t 15)), f 17 0 16, l 18 17, o 19 (.call (.c (.func (.func 24) #[] #[])) [(.t 18)]), m 20 1, o 21 (.bin .sub none (.t 19) (.t 20)), o 22 (.bin .sub none (.t 21) (.c (.int .i64 17))), o 23 (.bin .geq none (.t 14) (.t 22)), m 13 23])
   (.cond (.t 13) (.seq (.line [o 6 (.move (.c (.int .i64 20)))])
    .ret) (.seq (.line [m 25 0, o 26 (.nilc (.t 25)), f 27 5 26, l 28 27, m 29 28, w 30 29 (.move (.t 0)), w 31 29 (.nilc (.t 30)), w 32 29 (.fa 0 (.t 31)), w 33 29 (.load none (.t 32)), w 34 29 (.nilc (.t 33)), w 35 29 (.fa 3 (.t 34)), w 36 29 (.load none (.t 35)), o 37 (.pick (.t 29) (.c (.bool true)) (.t 36)), m 24 37])
    (.cond (.t 24) (.seq (.line [m 38 0, o 39 (.nilc (.t 38)), f 40 5 39, e (.store none (.t 40) (.c (.bool true)))])
     (.seq (.line [o 6 (.move (.c (.int .i64 21)))])
     .ret)) .skip)))))))
 (.seq (.line [o 6 (.move (.c (.int .i64 0)))])
 .ret)))⟩
/-- (*captioner/journal.Memory).write -/
def g41 : GFun := ⟨56, [.tmp 6],
 (.seq (.line [o 6 (.move (.c (.bool false)))])
 (.seq (.seq (.line [m 9 2, o 10 (.len false (.t 9)), o 11 (.move (.c (.int .i64 0)))])
 (.block 0 (.loop (.seq (.line [o 12 (.bin .lss none (.t 11) (.t 10))])
   (.seq (.cond (.t 12) .skip (.exit 0))
   (.seq (.block 1 (.seq (.line [m 13 11, o 14 (.ia none 1 (.t 9) (.t 11)), l 15 14, m 7 13, m 8 15])
    (.seq (.seq (.line [m 16 0, o 17 (.nilc (.t 16)), f 18 1 17, l 19 18, m 20 19, u 21 20 (.move (.t 0)), u 22 20 (.nilc (.t 21)), u 23 20 (.fa 2 (.t 22)), u 24 20 (.load none (.t 23)), u 25 20 (.bin .eql (some .int) (.t 24) (.c (.int .i64 0))), o 26 (.pick (.t 20) (.t 25) (.c (.bool false)))])
    (.cond (.t 26) (.line [m 27 0, o 28 (.nilc (.t 27)), f 29 3 28, e (.store none (.t 29) (.c (.bool true)))]) .skip))
    (.seq (.seq (.line [m 30 0, o 31 (.nilc (.t 30)), f 32 3 31, l 33 32])
    (.cond (.t 33) (.seq (.line [o 6 (.move (.c (.bool false)))])
     .ret) .skip))
    (.seq (.line [m 34 0, o 35 (.nilc (.t 34)), f 36 2 35, l 37 36, o 38 (.bin .sub none (.t 37) (.c (.int .i64 1))), o 39 (.nilc (.t 34)), f 40 2 39, e (.store none (.t 40) (.t 38))])
    (.line [m 41 0, o 42 (.nilc (.t 41)), f 43 0 42, l 44 43, m 45 1, m 46 7, o 47 (.bin .add none (.t 45) (.t 46)), m 48 8, o 49 (.ia none 1 (.t 44) (.t 47)), e (.store none (.t 49) (.t 48))]))))))
   (.line [o 50 (.bin .add none (.t 11) (.c (.int .i64 1))), m 11 50])))))))
 (.seq (.line [m 51 0, o 52 (.nilc (.t 51)), f 53 3 52, l 54 53, o 55 (.un .not (.t 54)), m 6 55])
 .ret)))⟩
/-- (*captioner/journal.Log).sealed -/
def g42 : GFun := ⟨19, [.tmp 4],
 (.seq (.line [o 4 (.move (.c (.slice none 0 0)))])
 (.seq (.any [] [m 5 1, o 6 (.len false (.t 5)), o 7 (.conv (.int .u64) (.t 6)), o 8 (.call (.c (.func (.func 36) #[] #[])) [(.t 7), (.c (.int .i64 4))]), m 9 0, o 10 (.nilc (.t 9)), f 11 4 10, l 12 11, o 13 (.conv (.int .u64) (.t 12)), o 14 (.call (.c (.func (.func 36) #[] #[])) [(.t 13), (.c (.int .i64 8))]), m 15 1, o 16 (.buildSl 1 3 [(.slice none 0 0)] [(0, 1, (.t 8)), (1, 1, (.t 14)), (2, 1, (.t 15))]), o 17 (.call (.c (.func (.func 57) #[] #[])) [(.t 16)]), o 18 (.call (.c (.func (.func 35) #[] #[])) [(.t 17)]), m 4 18] [])
 .ret))⟩
/-- captioner/captionerref54.Seal -/
def g43 : GFun := ⟨22, [.tmp 2],
 (.seq (.line [o 2 (.move (.c (.slice none 0 0)))])
 (.seq (.line [m 4 0, o 5 (.call (.c (.func (.func 58) #[] #[])) [(.t 4)]), m 3 5])
 (.seq (.line [o 6 (.buildSl 257 0 [(.int .u8 0)] []), m 7 0, o 8 (.app 1 1 257 (.t 6) (.t 7)), m 9 3, o 10 (.conv (.int .u8) (.t 9)), m 11 3, o 12 (.bin .shr none (.t 11) (.c (.int .u64 8))), o 13 (.conv (.int .u8) (.t 12)), m 14 3, o 15 (.bin .shr none (.t 14) (.c (.int .u64 16))), o 16 (.conv (.int .u8) (.t 15)), m 17 3, o 18 (.bin .shr none (.t 17) (.c (.int .u64 24))), o 19 (.conv (.int .u8) (.t 18)), o 20 (.buildSl 257 4 [(.int .u8 0)] [(0, 1, (.t 10)), (1, 1, (.t 13)), (2, 1, (.t 16)), (3, 1, (.t 19))]), o 21 (.app 1 1 257 (.t 8) (.t 20)), m 2 21])
 .ret)))⟩
/-- captioner/captionerref55.low -/
def g44 : GFun := ⟨21, [.tmp 4],
 (.seq (.line [o 4 (.move (.c (.slice none 0 0)))])
 (.seq (.line [o 5 (.move (.c (.slice none 0 0)))])
 (.seq (.seq (.line [m 7 1, o 8 (.move (.c (.int .i64 0)))])
 (.block 0 (.loop (.seq (.line [o 9 (.bin .lss none (.t 8) (.t 7))])
   (.seq (.cond (.t 9) .skip (.exit 0))
   (.seq (.block 1 (.seq (.line [m 10 8, m 6 10])
    (.line [m 11 5, m 12 0, m 13 6, o 14 (.bin .mul none (.c (.int .i64 8)) (.t 13)), o 15 (.bin .shr none (.t 12) (.t 14)), o 16 (.conv (.int .u8) (.t 15)), o 17 (.buildSl 257 1 [(.int .u8 0)] [(0, 1, (.t 16))]), o 18 (.app 1 1 257 (.t 11) (.t 17)), m 5 18])))
   (.line [o 19 (.bin .add none (.t 8) (.c (.int .i64 1))), m 8 19])))))))
 (.seq (.line [m 20 5, m 4 20])
 .ret))))⟩
/-- slices.Clone[[]byte,byte] -/
def g45 : GFun := ⟨8, [.tmp 2],
 (.seq (.line [o 2 (.move (.c (.slice none 0 0)))])
 (.seq (.seq (.line [m 3 0, o 4 (.bin .eql (some .sl) (.t 3) (.c (.slice none 0 0)))])
 (.cond (.t 4) (.seq (.line [o 2 (.move (.c (.slice none 0 0)))])
  .ret) .skip))
 (.seq (.line [o 5 (.buildSl 257 0 [(.int .u8 0)] []), m 6 0, o 7 (.app 1 1 257 (.t 5) (.t 6)), m 2 7])
 .ret)))⟩
/-- captioner/captionerref55.generation -/
def g46 : GFun := ⟨22, [.tmp 2, .tmp 3],
 (.seq (.line [o 2 (.move (.c (.int .u64 0))), o 3 (.move (.c (.bool false)))])
 (.seq (.line [m 7 0, o 8 (.slice (.sl 1) (.t 7) (some (.c (.int .i64 1))) (some (.c (.int .i64 13))) none), o 9 (.call (.c (.func (.func 59) #[] #[])) [(.t 8)]), m 6 9, o 10 (.ext (.t 6) 0), o 11 (.ext (.t 6) 1), m 4 10, m 5 11])
 (.seq (.seq (.line [m 12 0, o 13 (.ia none 1 (.t 12) (.c (.int .i64 0))), l 14 13, o 15 (.bin .neq (some .int) (.t 14) (.c (.int .u8 183))), m 16 15, w 17 16 (.move (.t 5)), w 18 16 (.bin .neq (some .int) (.t 17) (.c (.int .i64 0))), o 19 (.pick (.t 16) (.c (.bool true)) (.t 18))])
 (.cond (.t 19) (.seq (.line [o 2 (.move (.c (.int .u64 0))), o 3 (.move (.c (.bool false)))])
  .ret) .skip))
 (.seq (.line [m 20 4, o 21 (.call (.c (.func (.func 60) #[] #[])) [(.t 20)]), m 2 21, o 3 (.move (.c (.bool true)))])
 .ret))))⟩
/-- captioner/captionerref55.bank -/
def g47 : GFun := ⟨17, [.tmp 4],
 (.seq (.line [o 2 (.box (.t 0)), o 4 (.move (.c (.slice none 0 0)))])
 (.seq (.line [f 5 1 2, l 6 5, m 7 1, f 8 0 2, l 9 8, o 10 (.bin .mul none (.t 7) (.t 9)), m 11 1, o 12 (.bin .add none (.t 11) (.c (.int .i64 1))), f 13 0 2, l 14 13, o 15 (.bin .mul none (.t 12) (.t 14)), o 16 (.slice (.sl 1) (.t 6) (some (.t 10)) (some (.t 15)) none), m 4 16])
 .ret))⟩
/-- captioner/captionerref55.read -/
def g48 : GFun := ⟨111, [.cell 6 (some 3), .tmp 7],
 (.seq (.line [o 6 (.alloc 0 [(.int .i64 0), (.bool false), (.slice none 0 0)]), o 7 (.move (.c (.bool false)))])
 (.seq (.seq (.line [m 12 0, m 13 1, o 14 (.ia none 1 (.t 12) (.t 13)), l 15 14, o 16 (.bin .neq (some .int) (.t 15) (.c (.int .u8 165))), m 17 16, u 18 17 (.move (.t 0)), u 19 17 (.move (.t 1)), u 20 17 (.ia none 1 (.t 18) (.t 19)), u 21 17 (.load none (.t 20)), u 22 17 (.bin .neq (some .int) (.t 21) (.c (.int .u8 166))), o 23 (.pick (.t 17) (.t 22) (.c (.bool false))), m 24 23, w 25 24 (.move (.t 0)), w 26 24 (.move (.t 1)), w 27 24 (.ia none 1 (.t 25) (.t 26)), w 28 24 (.load none (.t 27)), w 29 24 (.bin .eql (some .int) (.t 28) (.c (.int .u8 166))), w 30 24 (.move (.t 29)), u 31 30 (.move (.t 1)), u 32 30 (.bin .neq (some .int) (.t 31) (.c (.int .i64 13))), w 33 24 (.pick (.t 30) (.t 32) (.c (.bool false))), o 34 (.pick (.t 24) (.c (.bool true)) (.t 33)), m 35 34, w 36 35 (.move (.t 1)), w 37 35 (.bin .add none (.t 36) (.c (.int .i64 17))), w 38 35 (.move (.t 0)), w 39 35 (.len false (.t 38)), w 40 35 (.bin .geq none (.t 37) (.t 39)), o 41 (.pick (.t 35) (.c (.bool true)) (.t 40))])
 (.cond (.t 41) (.seq (.line [o 42 (.build [(.int .i64 0), (.bool false), (.slice none 0 0)] []), e (.store (some 3) (.t 6) (.t 42)), o 7 (.move (.c (.bool false)))])
  .ret) .skip))
 (.seq (.line [m 43 0, m 44 1, o 45 (.bin .add none (.t 44) (.c (.int .i64 1))), m 46 1, o 47 (.bin .add none (.t 46) (.c (.int .i64 5))), o 48 (.slice (.sl 1) (.t 43) (some (.t 45)) (some (.t 47)) none), o 49 (.call (.c (.func (.func 60) #[] #[])) [(.t 48)]), o 50 (.conv (.int .i64) (.t 49)), m 8 50])
 (.seq (.seq (.line [m 51 1, o 52 (.bin .add none (.t 51) (.c (.int .i64 17))), m 53 8, o 54 (.bin .add none (.t 52) (.t 53)), m 55 0, o 56 (.len false (.t 55)), o 57 (.bin .geq none (.t 54) (.t 56))])
 (.cond (.t 57) (.seq (.line [o 58 (.build [(.int .i64 0), (.bool false), (.slice none 0 0)] []), e (.store (some 3) (.t 6) (.t 58)), o 7 (.move (.c (.bool false)))])
  .ret) .skip))
 (.seq (.line [m 60 0, m 61 1, o 62 (.bin .add none (.t 61) (.c (.int .i64 1))), m 63 1, o 64 (.bin .add none (.t 63) (.c (.int .i64 17))), m 65 8, o 66 (.bin .add none (.t 64) (.t 65)), o 67 (.slice (.sl 1) (.t 60) (some (.t 62)) (some (.t 66)) none), o 68 (.call (.c (.func (.func 59) #[] #[])) [(.t 67)]), m 59 68, o 69 (.ext (.t 59) 0), o 70 (.ext (.t 59) 1), m 9 69, m 10 70])
 (.seq (.seq (.line [m 71 10, o 72 (.bin .neq (some .int) (.t 71) (.c (.int .i64 0)))])
 (.cond (.t 72) (.seq (.line [o 73 (.build [(.int .i64 0), (.bool false), (.slice none 0 0)] []), e (.store (some 3) (.t 6) (.t 73)), o 7 (.move (.c (.bool false)))])
  .ret) .skip))
 (.seq (.line [m 74 9, o 75 (.slice (.sl 1) (.t 74) (some (.c (.int .i64 4))) (some (.c (.int .i64 12))) none), o 76 (.call (.c (.func (.func 60) #[] #[])) [(.t 75)]), m 11 76])
 (.seq (.seq (.line [m 77 11, o 78 (.bin .lss none (.t 77) (.c (.int .u64 1))), m 79 78, w 80 79 (.move (.t 1)), w 81 79 (.bin .eql (some .int) (.t 80) (.c (.int .i64 13))), w 82 79 (.move (.t 81)), u 83 82 (.move (.t 11)), u 84 82 (.bin .gtr none (.t 83) (.c (.int .u64 1099511627776))), w 85 79 (.pick (.t 82) (.t 84) (.c (.bool false))), o 86 (.pick (.t 79) (.c (.bool true)) (.t 85)), m 87 86, w 88 87 (.move (.t 1)), w 89 87 (.bin .neq (some .int) (.t 88) (.c (.int .i64 13))), w 90 87 (.move (.t 89)), u 91 90 (.move (.t 11)), u 92 90 (.move (.t 2)), u 93 90 (.bin .add none (.t 92) (.c (.int .i64 1))), u 94 90 (.conv (.int .u64) (.t 93)), u 95 90 (.bin .neq (some .int) (.t 91) (.t 94)), w 96 87 (.pick (.t 90) (.t 95) (.c (.bool false))), o 97 (.pick (.t 87) (.c (.bool true)) (.t 96))])
 (.cond (.t 97) (.seq (.line [o 98 (.build [(.int .i64 0), (.bool false), (.slice none 0 0)] []), e (.store (some 3) (.t 6) (.t 98)), o 7 (.move (.c (.bool false)))])
  .ret) .skip))
 (.seq (.any [] [m 99 11, o 100 (.conv (.int .i64) (.t 99)), m 101 0, m 102 1, o 103 (.ia none 1 (.t 101) (.t 102)), l 104 103, o 105 (.bin .eql (some .int) (.t 104) (.c (.int .u8 166))), o 106 (.buildSl 257 0 [(.int .u8 0)] []), m 107 9, o 108 (.slice (.sl 1) (.t 107) (some (.c (.int .i64 12))) none none), o 109 (.appM 1 1 257 (.t 106) (.t 108)), o 110 (.build [(.int .i64 0), (.bool false), (.slice none 0 0)] [(0, 1, (.t 100)), (1, 1, (.t 105)), (2, 1, (.t 109))])] [(false, e (.store (some 3) (.t 6) (.t 110))), (false, o 7 (.move (.c (.bool true))))])
 .ret)))))))))⟩
/-- captioner/captionerref55.refused -/
def g49 : GFun := ⟨25, [.tmp 8],
 (.seq (.line [o 4 (.box (.t 0)), o 5 (.box (.t 1)), o 8 (.move (.c (.int .i64 0)))])
 (.seq (.block 0 (.seq (.line [f 10 2 5, l 11 10, o 12 (.bin .gtr none (.t 11) (.c (.int .i64 1099511627776))), m 9 12])
  (.cond (.t 9) (.seq (.line [o 8 (.move (.c (.int .i64 9)))])
   .ret) (.seq (.line [m 14 2, o 15 (.bin .add none (.t 14) (.c (.int .i64 17))), m 16 3, o 17 (.len false (.t 16)), o 18 (.bin .add none (.t 15) (.t 17)), f 19 0 4, l 20 19, o 21 (.bin .geq none (.t 18) (.t 20)), m 13 21])
   (.cond (.t 13) (.seq (.line [o 8 (.move (.c (.int .i64 20)))])
    .ret) (.seq (.line [f 23 5 5, l 24 23, m 22 24])
    (.cond (.t 22) (.seq (.line [o 8 (.move (.c (.int .i64 21)))])
     .ret) .skip)))))))
 (.seq (.line [o 8 (.move (.c (.int .i64 0)))])
 .ret)))⟩
/-- captioner/captionerref55.copied -/
def g50 : GFun := ⟨9, [.cell 2 (some 5)],
 (.seq (.line [o 1 (.box (.t 0)), o 2 (.alloc 0 [(.int .i64 0), (.slice none 0 0), (.bool false), (.int .i64 0), (.bool false)])])
 (.seq (.line [o 3 (.buildSl 257 0 [(.int .u8 0)] []), f 4 1 1, l 5 4, o 6 (.app 1 1 257 (.t 3) (.t 5)), f 7 1 1, e (.store none (.t 7) (.t 6))])
 (.seq (.line [o 8 (.load (some 5) (.t 1)), e (.store (some 5) (.t 2) (.t 8))])
 .ret)))⟩
/-- captioner/captionerref55.write -/
def g51 : GFun := ⟨47, [.cell 6 (some 5)],
 (.seq (.line [o 3 (.box (.t 0)), o 6 (.alloc 0 [(.int .i64 0), (.slice none 0 0), (.bool false), (.int .i64 0), (.bool false)])])
 (.seq (.seq (.line [m 9 2, o 10 (.len false (.t 9)), o 11 (.move (.c (.int .i64 0)))])
 (.block 0 (.loop (.seq (.line [o 12 (.bin .lss none (.t 11) (.t 10))])
   (.seq (.cond (.t 12) .skip (.exit 0))
   (.seq (.block 1 (.seq (.line [m 13 11, o 14 (.ia none 1 (.t 9) (.t 11)), l 15 14, m 7 13, m 8 15])
    (.seq (.seq (.line [f 16 4 3, l 17 16, o 18 (.un .not (.t 17)), m 19 18, u 20 19 (.fa 2 (.t 3)), u 21 19 (.load none (.t 20)), o 22 (.pick (.t 19) (.t 21) (.c (.bool false))), m 23 22, u 24 23 (.fa 3 (.t 3)), u 25 23 (.load none (.t 24)), u 26 23 (.bin .eql (some .int) (.t 25) (.c (.int .i64 0))), o 27 (.pick (.t 23) (.t 26) (.c (.bool false)))])
    (.cond (.t 27) (.line [f 28 4 3, e (.store none (.t 28) (.c (.bool true)))]) .skip))
    (.seq (.seq (.line [f 29 4 3, l 30 29])
    (.cond (.t 30) (.seq (.line [o 31 (.load (some 5) (.t 3)), e (.store (some 5) (.t 6) (.t 31))])
     .ret) .skip))
    (.seq (.seq (.line [f 32 2 3, l 33 32])
    (.cond (.t 33) (.line [f 34 3 3, l 35 34, o 36 (.bin .sub none (.t 35) (.c (.int .i64 1))), f 37 3 3, e (.store none (.t 37) (.t 36))]) .skip))
    (.line [f 38 1 3, l 39 38, m 40 1, m 41 7, o 42 (.bin .add none (.t 40) (.t 41)), m 43 8, o 44 (.ia none 1 (.t 39) (.t 42)), e (.store none (.t 44) (.t 43))]))))))
   (.line [o 45 (.bin .add none (.t 11) (.c (.int .i64 1))), m 11 45])))))))
 (.seq (.line [o 46 (.load (some 5) (.t 3)), e (.store (some 5) (.t 6) (.t 46))])
 .ret)))⟩
/-- captioner/captionerref55.record -/
def g52 : GFun := ⟨16, [.tmp 4],
 (.seq (.line [o 4 (.move (.c (.slice none 0 0)))])
 (.seq (.line [m 5 1, o 6 (.len false (.t 5)), o 7 (.conv (.int .u64) (.t 6)), o 8 (.call (.c (.func (.func 44) #[] #[])) [(.t 7), (.c (.int .i64 4))]), m 9 0, o 10 (.conv (.int .u64) (.t 9)), o 11 (.call (.c (.func (.func 44) #[] #[])) [(.t 10), (.c (.int .i64 8))]), o 12 (.app 1 1 257 (.t 8) (.t 11)), m 13 1, o 14 (.app 1 1 257 (.t 12) (.t 13)), o 15 (.call (.c (.func (.func 43) #[] #[])) [(.t 14)]), m 4 15])
 .ret))⟩
/-- captioner/crc.Sum -/
def g53 : GFun := ⟨5, [.tmp 2],
 (.seq (.line [o 2 (.move (.c (.int .u32 0)))])
 (.seq (.line [m 3 0, o 4 (.call (.c (.func (.func 61) #[] #[])) [(.c (.int .u32 0)), (.t 3)]), m 2 4])
 .ret))⟩
/-- (*captioner/journal.Memory).generation -/
def g54 : GFun := ⟨26, [.tmp 4, .tmp 5],
 (.seq (.line [o 4 (.move (.c (.int .u64 0))), o 5 (.move (.c (.bool false)))])
 (.seq (.line [m 9 0, m 10 1, o 11 (.call (.c (.func (.func 38) #[] #[])) [(.t 9), (.t 10)]), m 6 11])
 (.seq (.seq (.line [m 12 6, o 13 (.ia none 1 (.t 12) (.c (.int .i64 0))), l 14 13, o 15 (.bin .neq (some .int) (.t 14) (.c (.int .u8 183)))])
 (.cond (.t 15) (.seq (.line [o 4 (.move (.c (.int .u64 0))), o 5 (.move (.c (.bool false)))])
  .ret) .skip))
 (.seq (.line [m 17 6, o 18 (.slice (.sl 1) (.t 17) (some (.c (.int .i64 1))) (some (.c (.int .i64 13))) none), o 19 (.call (.c (.func (.func 56) #[] #[])) [(.t 18)]), m 16 19, o 20 (.ext (.t 16) 0), o 21 (.ext (.t 16) 1), m 7 20, m 8 21])
 (.seq (.line [m 22 7, o 23 (.call (.c (.func (.func 55) #[] #[])) [(.t 22)]), m 24 8, o 25 (.bin .eql (some .int) (.t 24) (.c (.int .i64 0))), m 4 23, m 5 25])
 .ret)))))⟩
/-- captioner/journal.number -/
def g55 : GFun := ⟨22, [.tmp 2],
 (.seq (.line [o 2 (.move (.c (.int .u64 0)))])
 (.seq (.line [o 3 (.move (.c (.int .u64 0)))])
 (.seq (.seq (.line [m 6 0, o 7 (.len false (.t 6)), o 8 (.move (.c (.int .i64 0)))])
 (.block 0 (.loop (.seq (.line [o 9 (.bin .lss none (.t 8) (.t 7))])
   (.seq (.cond (.t 9) .skip (.exit 0))
   (.seq (.block 1 (.seq (.line [m 10 8, o 11 (.ia none 1 (.t 6) (.t 8)), l 12 11, m 4 10, m 5 12])
    (.line [m 13 3, m 14 5, o 15 (.conv (.int .u64) (.t 14)), m 16 4, o 17 (.bin .mul none (.c (.int .i64 8)) (.t 16)), o 18 (.bin .shl none (.t 15) (.t 17)), o 19 (.bin .or none (.t 13) (.t 18)), m 3 19])))
   (.line [o 20 (.bin .add none (.t 8) (.c (.int .i64 1))), m 8 20])))))))
 (.seq (.line [m 21 3, m 2 21])
 .ret))))⟩
/-- captioner/crc.Open -/
def g56 : GFun := ⟨59, [.tmp 2, .tmp 3],
 (.seq (.line [o 2 (.move (.c (.slice none 0 0))), o 3 (.move (.c (.int .i64 0)))])
 (.seq (.line [m 6 0, o 7 (.len false (.t 6)), o 8 (.bin .sub none (.t 7) (.c (.int .i64 4))), m 4 8])
 (.seq (.seq (.line [m 9 4, o 10 (.bin .lss none (.t 9) (.c (.int .i64 0)))])
 (.cond (.t 10) (.seq (.line [o 2 (.move (.c (.slice none 0 0))), o 3 (.move (.c (.int .i64 4)))])
  .ret) .skip))
 (.seq (.line [m 11 0, m 12 4, o 13 (.slice (.sl 1) (.t 11) none (some (.t 12)) none), o 14 (.call (.c (.func (.func 53) #[] #[])) [(.t 13)]), m 5 14])
 (.seq (.seq (.line [m 15 0, m 16 4, o 17 (.ia none 1 (.t 15) (.t 16)), l 18 17, m 19 5, o 20 (.conv (.int .u8) (.t 19)), o 21 (.bin .neq (some .int) (.t 18) (.t 20)), m 22 21, w 23 22 (.move (.t 0)), w 24 22 (.move (.t 4)), w 25 22 (.bin .add none (.t 24) (.c (.int .i64 1))), w 26 22 (.ia none 1 (.t 23) (.t 25)), w 27 22 (.load none (.t 26)), w 28 22 (.move (.t 5)), w 29 22 (.bin .shr none (.t 28) (.c (.int .u64 8))), w 30 22 (.conv (.int .u8) (.t 29)), w 31 22 (.bin .neq (some .int) (.t 27) (.t 30)), o 32 (.pick (.t 22) (.c (.bool true)) (.t 31)), m 33 32, w 34 33 (.move (.t 0)), w 35 33 (.move (.t 4)), w 36 33 (.bin .add none (.t 35) (.c (.int .i64 2))), w 37 33 (.ia none 1 (.t 34) (.t 36)), w 38 33 (.load none (.t 37)), w 39 33 (.move (.t 5)), w 40 33 (.bin .shr none (.t 39) (.c (.int .u64 16))), w 41 33 (.conv (.int .u8) (.t 40)), w 42 33 (.bin .neq (some .int) (.t 38) (.t 41)), o 43 (.pick (.t 33) (.c (.bool true)) (.t 42)), m 44 43, w 45 44 (.move (.t 0)), w 46 44 (.move (.t 4)), w 47 44 (.bin .add none (.t 46) (.c (.int .i64 3))), w 48 44 (.ia none 1 (.t 45) (.t 47)), w 49 44 (.load none (.t 48)), w 50 44 (.move (.t 5)), w 51 44 (.bin .shr none (.t 50) (.c (.int .u64 24))), w 52 44 (.conv (.int .u8) (.t 51)), w 53 44 (.bin .neq (some .int) (.t 49) (.t 52)), o 54 (.pick (.t 44) (.c (.bool true)) (.t 53))])
 (.cond (.t 54) (.seq (.line [o 2 (.move (.c (.slice none 0 0))), o 3 (.move (.c (.int .i64 19)))])
  .ret) .skip))
 (.seq (.line [m 55 0, m 56 4, o 57 (.slice (.sl 1) (.t 55) none (some (.t 56)) none), o 58 (.app 1 1 257 (.c (.slice none 0 0)) (.t 57)), m 2 58, o 3 (.move (.c (.int .i64 0)))])
 .ret))))))⟩
/-- slices.Concat[[]byte,byte] -/
def g57 : GFun := ⟨36, [.tmp 2],
 (.seq (.line [o 2 (.move (.c (.slice none 0 0)))])
 (.seq (.line [o 3 (.move (.c (.int .i64 0)))])
 (.seq (.seq (.line [m 9 0, o 10 (.len false (.t 9)), o 11 (.move (.c (.int .i64 0)))])
 (.block 0 (.loop (.seq (.line [o 12 (.bin .lss none (.t 11) (.t 10))])
   (.seq (.cond (.t 12) .skip (.exit 0))
   (.seq (.block 1 (.seq (.line [o 13 (.ia none 1 (.t 9) (.t 11)), l 14 13, m 5 14])
    (.seq (.line [m 15 3, m 16 5, o 17 (.len false (.t 16)), o 18 (.bin .add none (.t 15) (.t 17)), m 3 18])
    (.seq (.line [m 19 3, o 20 (.bin .lss none (.t 19) (.c (.int .i64 0)))])
    (.cond (.t 20) (.line [o 21 (.bad), e (.bad)]) .skip)))))
   (.line [o 22 (.bin .add none (.t 11) (.c (.int .i64 1))), m 11 22])))))))
 (.seq (.line [m 23 3, o 24 (.call (.c (.func (.func 62) #[] #[])) [(.c (.slice none 0 0)), (.t 23)]), m 6 24])
 (.seq (.seq (.line [m 25 0, o 26 (.len false (.t 25)), o 27 (.move (.c (.int .i64 0)))])
 (.block 2 (.loop (.seq (.line [o 28 (.bin .lss none (.t 27) (.t 26))])
   (.seq (.cond (.t 28) .skip (.exit 2))
   (.seq (.block 3 (.seq (.line [o 29 (.ia none 1 (.t 25) (.t 27)), l 30 29, m 8 30])
    (.line [m 31 6, m 32 8, o 33 (.app 1 1 257 (.t 31) (.t 32)), m 6 33])))
   (.line [o 34 (.bin .add none (.t 27) (.c (.int .i64 1))), m 27 34])))))))
 (.seq (.line [m 35 6, m 2 35])
 .ret))))))⟩
/-- captioner/captionerref54.Sum -/
def g58 : GFun := ⟨5, [.tmp 2],
 (.seq (.line [o 2 (.move (.c (.int .u32 0)))])
 (.seq (.line [m 3 0, o 4 (.call (.c (.func (.func 63) #[] #[])) [(.c (.int .u32 0)), (.t 3)]), m 2 4])
 .ret))⟩
/-- captioner/captionerref54.Open -/
def g59 : GFun := ⟨23, [.tmp 2, .tmp 3],
 (.seq (.line [o 2 (.move (.c (.slice none 0 0))), o 3 (.move (.c (.int .i64 0)))])
 (.seq (.line [m 5 0, o 6 (.len false (.t 5)), o 7 (.bin .sub none (.t 6) (.c (.int .i64 4))), m 4 7])
 (.seq (.seq (.line [m 8 4, o 9 (.bin .lss none (.t 8) (.c (.int .i64 0)))])
 (.cond (.t 9) (.seq (.line [o 2 (.move (.c (.slice none 0 0))), o 3 (.move (.c (.int .i64 4)))])
  .ret) .skip))
 (.seq (.seq (.any [] [m 10 0, m 11 4, o 12 (.slice (.sl 1) (.t 10) none (some (.t 11)) none), o 13 (.call (.c (.func (.func 43) #[] #[])) [(.t 12)]), o 14 (.conv .ofBytes (.t 13)), m 15 0, o 16 (.conv .ofBytes (.t 15)), o 17 (.bin .neq (some .str) (.t 14) (.t 16))] [])
 (.cond (.t 17) (.seq (.line [o 2 (.move (.c (.slice none 0 0))), o 3 (.move (.c (.int .i64 19)))])
  .ret) .skip))
 (.seq (.line [o 18 (.buildSl 257 0 [(.int .u8 0)] []), m 19 0, m 20 4, o 21 (.slice (.sl 1) (.t 19) none (some (.t 20)) none), o 22 (.app 1 1 257 (.t 18) (.t 21)), m 2 22, o 3 (.move (.c (.int .i64 0)))])
 .ret)))))⟩
/-- captioner/captionerref55.number -/
def g60 : GFun := ⟨22, [.tmp 2],
 (.seq (.line [o 2 (.move (.c (.int .u64 0)))])
 (.seq (.line [o 3 (.move (.c (.int .u64 0)))])
 (.seq (.seq (.line [m 6 0, o 7 (.len false (.t 6)), o 8 (.move (.c (.int .i64 0)))])
 (.block 0 (.loop (.seq (.line [o 9 (.bin .lss none (.t 8) (.t 7))])
   (.seq (.cond (.t 9) .skip (.exit 0))
   (.seq (.block 1 (.seq (.line [m 10 8, o 11 (.ia none 1 (.t 6) (.t 8)), l 12 11, m 4 10, m 5 12])
    (.line [m 13 3, m 14 5, o 15 (.conv (.int .u64) (.t 14)), m 16 4, o 17 (.bin .mul none (.c (.int .i64 8)) (.t 16)), o 18 (.bin .shl none (.t 15) (.t 17)), o 19 (.bin .or none (.t 13) (.t 18)), m 3 19])))
   (.line [o 20 (.bin .add none (.t 8) (.c (.int .i64 1))), m 8 20])))))))
 (.seq (.line [m 21 3, m 2 21])
 .ret))))⟩
/-- captioner/crc.Update -/
def g61 : GFun := ⟨35, [.tmp 4],
 (.seq (.line [o 4 (.move (.c (.int .u32 0)))])
 (.seq (.line [m 9 0, o 10 (.un .xor (.t 9)), m 5 10])
 (.seq (.seq (.line [m 11 1, o 12 (.len false (.t 11)), o 13 (.move (.c (.int .i64 0)))])
 (.block 0 (.loop (.seq (.line [o 14 (.bin .lss none (.t 13) (.t 12))])
   (.seq (.cond (.t 14) .skip (.exit 0))
   (.seq (.block 1 (.seq (.line [o 15 (.ia none 1 (.t 11) (.t 13)), l 16 15, m 7 16])
    (.seq (.line [m 17 5, m 18 7, o 19 (.conv (.int .u32) (.t 18)), o 20 (.bin .xor none (.t 17) (.t 19)), m 5 20])
    (.seq (.line [o 21 (.move (.c (.int .i64 0)))])
    (.block 2 (.loop (.seq (.line [o 22 (.bin .lss none (.t 21) (.c (.int .i64 8)))])
      (.seq (.cond (.t 22) .skip (.exit 2))
      (.seq (.block 3 (.seq (.line [m 23 5, o 24 (.bin .and none (.t 23) (.c (.int .u32 1))), m 8 24])
       (.seq (.line [m 25 5, o 26 (.bin .shr none (.t 25) (.c (.int .u64 1))), m 5 26])
       (.seq (.line [m 27 8, o 28 (.bin .eql (some .int) (.t 27) (.c (.int .u32 1)))])
       (.cond (.t 28) (.line [m 29 5, o 30 (.bin .xor none (.t 29) (.c (.int .u32 2197175160))), m 5 30]) .skip)))))
      (.line [o 31 (.bin .add none (.t 21) (.c (.int .i64 1))), m 21 31]))))))))))
   (.line [o 32 (.bin .add none (.t 13) (.c (.int .i64 1))), m 13 32])))))))
 (.seq (.line [m 33 5, o 34 (.un .xor (.t 33)), m 4 34])
 .ret))))⟩
/-- slices.Grow[[]byte,byte] -/
def g62 : GFun := ⟨27, [.tmp 4],
 (.seq (.line [o 4 (.move (.c (.slice none 0 0)))])
 (.seq (.seq (.line [m 5 1, o 6 (.bin .lss none (.t 5) (.c (.int .i64 0)))])
 (.cond (.t 6) (.line [o 7 (.bad), e (.bad)]) .skip))
 (.seq (.seq (.line [m 8 1, m 9 0, o 10 (.cap (.t 9)), m 11 0, o 12 (.len false (.t 11)), o 13 (.bin .sub none (.t 10) (.t 12)), o 14 (.bin .sub none (.t 8) (.t 13)), m 1 14])
 (.seq (.line [m 15 1, o 16 (.bin .gtr none (.t 15) (.c (.int .i64 0)))])
 (.cond (.t 16) (.line [m 17 0, m 18 0, o 19 (.cap (.t 18)), o 20 (.slice (.sl 1) (.t 17) none (some (.t 19)) none), m 21 1, o 22 (.appZ 1 1 257 [(.int .u8 0)] (.t 20) (.t 21)), m 23 0, o 24 (.len false (.t 23)), o 25 (.slice (.sl 1) (.t 22) none (some (.t 24)) none), m 0 25]) .skip)))
 (.seq (.line [m 26 0, m 4 26])
 .ret))))⟩
/-- captioner/captionerref54.Update -/
def g63 : GFun := ⟨35, [.tmp 4],
 (.seq (.line [o 4 (.move (.c (.int .u32 0)))])
 (.seq (.line [m 9 0, o 10 (.un .xor (.t 9)), m 5 10])
 (.seq (.seq (.line [m 11 1, o 12 (.len false (.t 11)), o 13 (.move (.c (.int .i64 0)))])
 (.block 0 (.loop (.seq (.line [o 14 (.bin .lss none (.t 13) (.t 12))])
   (.seq (.cond (.t 14) .skip (.exit 0))
   (.seq (.block 1 (.seq (.line [o 15 (.ia none 1 (.t 11) (.t 13)), l 16 15, m 7 16])
    (.seq (.line [m 17 5, m 18 7, o 19 (.conv (.int .u32) (.t 18)), o 20 (.bin .xor none (.t 17) (.t 19)), m 5 20])
    (.seq (.line [o 21 (.move (.c (.int .i64 0)))])
    (.block 2 (.loop (.seq (.line [o 22 (.bin .lss none (.t 21) (.c (.int .i64 8)))])
      (.seq (.cond (.t 22) .skip (.exit 2))
      (.seq (.block 3 (.seq (.line [m 23 5, o 24 (.bin .and none (.t 23) (.c (.int .u32 1))), m 8 24])
       (.seq (.line [m 25 5, o 26 (.bin .shr none (.t 25) (.c (.int .u64 1))), m 5 26])
       (.seq (.line [m 27 8, o 28 (.bin .eql (some .int) (.t 27) (.c (.int .u32 1)))])
       (.cond (.t 28) (.line [m 29 5, o 30 (.bin .xor none (.t 29) (.c (.int .u32 2197175160))), m 5 30]) .skip)))))
      (.line [o 31 (.bin .add none (.t 21) (.c (.int .i64 1))), m 21 31]))))))))))
   (.line [o 32 (.bin .add none (.t 13) (.c (.int .i64 1))), m 13 32])))))))
 (.seq (.line [m 33 5, o 34 (.un .xor (.t 33)), m 4 34])
 .ret))))⟩

def G : FuncId → Option GEnt
  | 2 => some (.fn g2)
  | 3 => some (.fn g3)
  | 4 => some (.fn g4)
  | 5 => some (.fn g5)
  | 6 => some (.fn g6)
  | 7 => some (.fn g7)
  | 8 => some (.fn g8)
  | 9 => some (.fn g9)
  | 10 => some (.pure g10)
  | 11 => some (.fn g11)
  | 12 => some (.fn g12)
  | 13 => some (.fn g13)
  | 14 => some (.fn g14)
  | 15 => some (.fn g15)
  | 16 => some (.fn g16)
  | 17 => some (.fn g17)
  | 18 => some (.fn g18)
  | 19 => some (.fn g19)
  | 20 => some (.fn g20)
  | 21 => some (.fn g21)
  | 22 => some (.fn g22)
  | 23 => some (.fn g23)
  | 24 => some (.fn g24)
  | 25 => some (.fn g25)
  | 26 => some (.fn g26)
  | 27 => some (.fn g27)
  | 28 => some (.fn g28)
  | 29 => some (.fn g29)
  | 30 => some (.fn g30)
  | 31 => some (.fn g31)
  | 32 => some (.fn g32)
  | 33 => some (.fn g33)
  | 34 => some (.fn g34)
  | 35 => some (.fn g35)
  | 36 => some (.fn g36)
  | 37 => some (.fn g37)
  | 38 => some (.fn g38)
  | 39 => some (.fn g39)
  | 40 => some (.fn g40)
  | 41 => some (.fn g41)
  | 42 => some (.fn g42)
  | 43 => some (.fn g43)
  | 44 => some (.fn g44)
  | 45 => some (.fn g45)
  | 46 => some (.fn g46)
  | 47 => some (.fn g47)
  | 48 => some (.fn g48)
  | 49 => some (.fn g49)
  | 50 => some (.fn g50)
  | 51 => some (.fn g51)
  | 52 => some (.fn g52)
  | 53 => some (.fn g53)
  | 54 => some (.fn g54)
  | 55 => some (.fn g55)
  | 56 => some (.fn g56)
  | 57 => some (.fn g57)
  | 58 => some (.fn g58)
  | 59 => some (.fn g59)
  | 60 => some (.fn g60)
  | 61 => some (.fn g61)
  | 62 => some (.fn g62)
  | 63 => some (.fn g63)
  | _ => none
theorem awake_run : (gbody (gcall G 30 11) 30 g10 [] ⟨.nil, 0, 0⟩).map (·.1) = some (.bool true) := by kernel_rfl
theorem awake_gev (H : GHeap) : gev G 10 [] H = some (.bool true, H) := by
  have h := awake_run
  simp only [Option.map_eq_some_iff] at h
  obtain ⟨⟨v, H'⟩, h1, h2⟩ := h
  simp only at h2
  subst h2
  refine gev_pure (m := 30) (H' := H') (g := g10) rfl rfl rfl ?_
  exact gbody_mono (fun f args H r h => gev_of_gcall h) (Nat.le_refl _) h1
end Go.Gh
