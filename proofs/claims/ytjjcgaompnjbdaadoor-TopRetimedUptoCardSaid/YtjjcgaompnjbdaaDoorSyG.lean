/-
  The ghost functions of this seat.
-/
import Derived.Test.YtjjcgaompnjbdaaDoorLc
import Derived.Test.YtjjcgaompnjbdaaDoorBd
import Derived.KernelRfl
namespace Go.Gh
open Go.RowKit
set_option maxRecDepth 100000
abbrev m (d n : Nat) : GOper := ⟨some d, none, .move (.t n)⟩
abbrev l (d n : Nat) : GOper := ⟨some d, none, .load none (.t n)⟩
abbrev f (d a n : Nat) : GOper := ⟨some d, none, .fa a (.t n)⟩
abbrev o (d : Nat) (p : GOp) : GOper := ⟨some d, none, p⟩
abbrev u (d g : Nat) (p : GOp) : GOper := ⟨some d, some (g, true), p⟩
abbrev w (d g : Nat) (p : GOp) : GOper := ⟨some d, some (g, false), p⟩
abbrev e (p : GOp) : GOper := ⟨none, none, p⟩

/-- captioner/captionertop.TopRetimed -/
def g3 : GFun := ⟨191, [.tmp 4],
 (.seq (.line [o 2 (.box (.t 0)), o 4 (.move (.c (.bool false)))])
 (.seq (.seq (.line [o 21 (.build [(.int .i64 0), (.int .i64 0)] [(0, 1, (.c (.int .i64 25))), (1, 1, (.c (.int .i64 50)))]), o 22 (.call (.c (.func (.func 4) #[] #[])) [(.c (.int .u8 3)), (.c (.int .u8 2)), (.t 21), (.c (.int .u8 1))]), m 20 22, o 23 (.ext (.t 20) 0), o 24 (.ext (.t 20) 1), o 5 (.alloc 0 [(.int .i64 0), (.int .i64 0)]), e (.store (some 2) (.t 5) (.t 23)), m 6 24])
 (.seq (.line [m 25 6, o 26 (.bin .neq (some .int) (.t 25) (.c (.int .i64 0))), m 27 26, w 28 27 (.load (some 2) (.t 5)), w 29 27 (.build [(.int .i64 0), (.int .i64 0)] [(0, 1, (.c (.int .i64 24))), (1, 1, (.c (.int .i64 48)))]), w 30 27 (.bin .neq (some (.parts [(0, none, .int), (1, none, .int)])) (.t 28) (.t 29)), o 31 (.pick (.t 27) (.c (.bool true)) (.t 30))])
 (.cond (.t 31) (.seq (.line [o 4 (.move (.c (.bool false)))])
  .ret) .skip)))
 (.seq (.line [o 32 (.load (some 8) (.t 2)), o 33 (.call (.c (.func (.func 5) #[] #[])) [(.t 32)]), e (.store (some 8) (.t 2) (.t 33))])
 (.seq (.line [o 35 (.load (some 8) (.t 2)), m 36 1, o 37 (.call (.c (.func (.func 6) #[] #[])) [(.t 35), (.t 36), (.c (.bool false)), (.c (.int .u8 1))]), m 34 37, o 38 (.ext (.t 34) 0), o 39 (.ext (.t 34) 1), o 40 (.ext (.t 34) 2), o 7 (.alloc 0 [(.string ⟨#[]⟩), (.string ⟨#[]⟩), (.int .u8 0), (.bool false), (.int .i64 0), (.slice none 0 0), (.slice none 0 0), (.slice none 0 0)]), e (.store (some 8) (.t 7) (.t 38)), m 8 39, m 9 40])
 (.seq (.seq (.line [m 41 9, o 42 (.bin .neq (some .int) (.t 41) (.c (.int .i64 0)))])
 (.cond (.t 42) (.seq (.line [o 4 (.move (.c (.bool true)))])
  .ret) .skip))
 (.seq (.seq (.line [o 43 (.load (some 8) (.t 7)), o 44 (.call (.c (.func (.func 7) #[] #[])) [(.t 43)]), o 45 (.bin .neq (some .int) (.t 44) (.c (.int .i64 0))), m 46 45, w 47 46 (.fa 6 (.t 7)), w 48 46 (.load none (.t 47)), w 49 46 (.len false (.t 48)), w 50 46 (.fa 6 (.t 2)), w 51 46 (.load none (.t 50)), w 52 46 (.len false (.t 51)), w 53 46 (.bin .neq (some .int) (.t 49) (.t 52)), o 54 (.pick (.t 46) (.c (.bool true)) (.t 53)), m 55 54, w 56 55 (.move (.t 8)), w 57 55 (.len false (.t 56)), w 58 55 (.fa 6 (.t 2)), w 59 55 (.load none (.t 58)), w 60 55 (.len false (.t 59)), w 61 55 (.bin .neq (some .int) (.t 57) (.t 60)), o 62 (.pick (.t 55) (.c (.bool true)) (.t 61))])
 (.cond (.t 62) (.seq (.line [o 4 (.move (.c (.bool false)))])
  .ret) .skip))
 (.seq (.seq (.line [m 63 8, o 64 (.len false (.t 63)), o 65 (.move (.c (.int .i64 0)))])
 (.block 0 (.loop (.seq (.line [o 66 (.bin .lss none (.t 65) (.t 64))])
   (.seq (.cond (.t 66) .skip (.exit 0))
   (.seq (.block 1 (.seq (.line [m 67 65, o 68 (.ia none 3 (.t 63) (.t 65)), o 69 (.load (some 3) (.t 68)), o 11 (.alloc 0 [(.int .i64 0), (.int .i64 0), (.int .i64 0)]), m 10 67, e (.store (some 3) (.t 11) (.t 69))])
    (.seq (.any [] [f 71 2 2, l 72 71, f 73 6 2, l 74 73, m 75 10, o 76 (.ia none 7 (.t 74) (.t 75)), f 77 1 76, f 78 0 77, l 79 78] [(false, o 80 (.call (.c (.func (.func 8) #[] #[])) [(.t 72), (.t 79)])), (false, m 70 80), (false, o 81 (.ext (.t 70) 0)), (false, o 82 (.ext (.t 70) 1)), (false, m 12 81), (false, m 13 82)])
    (.seq (.line [m 84 1, f 85 6 7, l 86 85, m 87 10, o 88 (.ia none 7 (.t 86) (.t 87)), f 89 1 88, f 90 0 89, l 91 90, o 92 (.call (.c (.func (.func 8) #[] #[])) [(.t 84), (.t 91)]), m 83 92, o 93 (.ext (.t 83) 0), o 94 (.ext (.t 83) 1), m 14 93, m 15 94])
    (.seq (.any [] [m 95 13, o 96 (.bin .neq (some .int) (.t 95) (.c (.int .i64 0))), m 97 96, w 98 97 (.move (.t 15)), w 99 97 (.bin .neq (some .int) (.t 98) (.c (.int .i64 0))), o 100 (.pick (.t 97) (.c (.bool true)) (.t 99)), m 101 100, w 102 101 (.fa 1 (.t 11)), w 103 101 (.load none (.t 102)), w 104 101 (.move (.t 14)), w 105 101 (.move (.t 12)), w 106 101 (.bin .sub none (.t 104) (.t 105)), w 107 101 (.bin .neq (some .int) (.t 103) (.t 106)), o 108 (.pick (.t 101) (.c (.bool true)) (.t 107)), m 109 108, w 110 109 (.fa 1 (.t 11)), w 111 109 (.load none (.t 110)), w 112 109 (.bin .mul none (.c (.int .i64 2)) (.t 111)), w 113 109 (.move (.t 1)), w 114 109 (.call (.c (.func (.func 9) #[] #[])) [(.t 113)]), w 115 109 (.bin .gtr none (.t 112) (.t 114)), o 116 (.pick (.t 109) (.c (.bool true)) (.t 115)), m 117 116, w 118 117 (.fa 1 (.t 11)), w 119 117 (.load none (.t 118)), w 120 117 (.bin .mul none (.c (.int .i64 (-2))) (.t 119)), w 121 117 (.move (.t 1)), w 122 117 (.call (.c (.func (.func 9) #[] #[])) [(.t 121)]), w 123 117 (.bin .gtr none (.t 120) (.t 122)), o 124 (.pick (.t 117) (.c (.bool true)) (.t 123)), m 125 124, w 126 125 (.move (.t 10)), w 127 125 (.bin .gtr none (.t 126) (.c (.int .i64 0))), w 128 125 (.move (.t 127)), u 129 128 (.fa 6 (.t 7)), u 130 128 (.load none (.t 129)), u 131 128 (.move (.t 10)), u 132 128 (.ia none 7 (.t 130) (.t 131)), u 133 128 (.fa 1 (.t 132)), u 134 128 (.fa 0 (.t 133)), u 135 128 (.load none (.t 134)), u 136 128 (.fa 6 (.t 7)), u 137 128 (.load none (.t 136)), u 138 128 (.move (.t 10)), u 139 128 (.bin .sub none (.t 138) (.c (.int .i64 1))), u 140 128 (.ia none 7 (.t 137) (.t 139)), u 141 128 (.fa 1 (.t 140)), u 142 128 (.fa 0 (.t 141)), u 143 128 (.load none (.t 142)), u 144 128 (.bin .lss none (.t 135) (.t 143)), w 145 125 (.pick (.t 128) (.t 144) (.c (.bool false))), o 146 (.pick (.t 125) (.c (.bool true)) (.t 145))] [])
    (.cond (.t 146) (.seq (.line [o 4 (.move (.c (.bool false)))])
     .ret) .skip))))))
   (.line [o 147 (.bin .add none (.t 65) (.c (.int .i64 1))), m 65 147])))))))
 (.seq (.seq (.any [] [m 148 1, o 149 (.call (.c (.func (.func 9) #[] #[])) [(.t 148)]), f 150 2 2, l 151 150, o 152 (.call (.c (.func (.func 9) #[] #[])) [(.t 151)]), o 153 (.bin .gtr none (.t 149) (.t 152))] [])
 (.cond (.t 153) (.seq (.line [o 4 (.move (.c (.bool true)))])
  .ret) .skip))
 (.seq (.line [o 155 (.load (some 8) (.t 7)), f 156 2 2, l 157 156, f 158 3 2, l 159 158, o 160 (.call (.c (.func (.func 6) #[] #[])) [(.t 155), (.t 157), (.t 159), (.c (.int .u8 1))]), m 154 160, o 161 (.ext (.t 154) 0), o 162 (.ext (.t 154) 1), o 163 (.ext (.t 154) 2), o 16 (.alloc 0 [(.string ⟨#[]⟩), (.string ⟨#[]⟩), (.int .u8 0), (.bool false), (.int .i64 0), (.slice none 0 0), (.slice none 0 0), (.slice none 0 0)]), e (.store (some 8) (.t 16) (.t 161)), m 17 162, m 9 163])
 (.seq (.seq (.line [m 164 9, o 165 (.bin .neq (some .int) (.t 164) (.c (.int .i64 0)))])
 (.cond (.t 165) (.seq (.line [o 4 (.move (.c (.bool true)))])
  .ret) .skip))
 (.seq (.seq (.line [f 166 6 16, l 167 166, o 168 (.len false (.t 167)), o 169 (.move (.c (.int .i64 0)))])
 (.block 2 (.loop (.seq (.line [o 170 (.bin .lss none (.t 169) (.t 168))])
   (.seq (.cond (.t 170) .skip (.exit 2))
   (.seq (.block 3 (.seq (.line [m 171 169, o 172 (.ia none 7 (.t 167) (.t 169)), o 173 (.load (some 7) (.t 172)), o 19 (.alloc 0 [(.int .i64 0), (.int .i64 0), (.int .i64 0), (.string ⟨#[]⟩), (.int .u8 0), (.string ⟨#[]⟩), (.slice none 0 0)]), m 18 171, e (.store (some 7) (.t 19) (.t 173))])
    (.seq (.any [] [f 174 1 19, o 175 (.load (some 2) (.t 174)), f 176 6 2, l 177 176, m 178 18, o 179 (.ia none 7 (.t 177) (.t 178)), f 180 1 179, o 181 (.load (some 2) (.t 180)), o 182 (.bin .neq (some (.parts [(0, none, .int), (1, none, .int)])) (.t 175) (.t 181))] [])
    (.cond (.t 182) (.seq (.line [o 4 (.move (.c (.bool false)))])
     .ret) .skip))))
   (.line [o 183 (.bin .add none (.t 169) (.c (.int .i64 1))), m 169 183])))))))
 (.seq (.line [f 184 6 16, l 185 184, o 186 (.len false (.t 185)), f 187 6 2, l 188 187, o 189 (.len false (.t 188)), o 190 (.bin .eql (some .int) (.t 186) (.t 189)), m 4 190])
 .ret))))))))))))⟩
/-- captioner/retime.Span -/
def g4 : GFun := ⟨83, [.cell 8 (some 2), .tmp 9],
 (.seq (.line [o 6 (.box (.t 2)), o 8 (.alloc 0 [(.int .i64 0), (.int .i64 0)]), o 9 (.move (.c (.int .i64 0)))])
 (.seq (.block 0 (.seq (.line [m 14 0, o 15 (.call (.c (.func (.func 10) #[] #[])) [(.t 14)]), o 16 (.un .not (.t 15)), m 17 16, w 18 17 (.move (.t 1)), w 19 17 (.call (.c (.func (.func 10) #[] #[])) [(.t 18)]), w 20 17 (.un .not (.t 19)), o 21 (.pick (.t 17) (.c (.bool true)) (.t 20)), m 13 21])
  (.cond (.t 13) (.seq (.line [o 22 (.build [(.int .i64 0), (.int .i64 0)] []), e (.store (some 2) (.t 8) (.t 22)), o 9 (.move (.c (.int .i64 3)))])
   .ret) (.seq (.line [m 24 3, o 25 (.call (.c (.func (.func 11) #[] #[])) [(.t 24)]), o 26 (.un .not (.t 25)), m 27 26, w 28 27 (.fa 0 (.t 6)), w 29 27 (.load none (.t 28)), w 30 27 (.fa 1 (.t 6)), w 31 27 (.load none (.t 30)), w 32 27 (.bin .geq none (.t 29) (.t 31)), o 33 (.pick (.t 27) (.c (.bool true)) (.t 32)), m 23 33])
   (.cond (.t 23) (.seq (.line [o 34 (.build [(.int .i64 0), (.int .i64 0)] []), e (.store (some 2) (.t 8) (.t 34)), o 9 (.move (.c (.int .i64 1)))])
    .ret) (.seq (.line [f 36 0 6, l 37 36, o 38 (.bin .lss none (.t 37) (.c (.int .i64 0))), m 39 38, w 40 39 (.fa 1 (.t 6)), w 41 39 (.load none (.t 40)), w 42 39 (.bin .gtr none (.t 41) (.c (.int .i64 5184000))), o 43 (.pick (.t 39) (.c (.bool true)) (.t 42)), m 35 43])
    (.cond (.t 35) (.seq (.line [o 44 (.build [(.int .i64 0), (.int .i64 0)] []), e (.store (some 2) (.t 8) (.t 44)), o 9 (.move (.c (.int .i64 2)))])
     .ret) (.seq (.line [m 46 3, o 47 (.bin .eql (some .int) (.t 46) (.c (.int .u8 2))), m 45 47])
     (.cond (.t 45) (.seq (.line [o 48 (.load (some 2) (.t 6)), e (.store (some 2) (.t 8) (.t 48)), o 9 (.move (.c (.int .i64 0)))])
      .ret) .skip)))))))))
 (.seq (.line [m 50 0, m 51 1, f 52 0 6, l 53 52, o 54 (.call (.c (.func (.func 12) #[] #[])) [(.t 50), (.t 51), (.t 53), (.c (.int .u8 2))]), m 49 54, o 55 (.ext (.t 49) 0), o 56 (.ext (.t 49) 1), m 10 55, m 11 56])
 (.seq (.seq (.line [m 57 11, o 58 (.bin .neq (some .int) (.t 57) (.c (.int .i64 0)))])
 (.cond (.t 58) (.seq (.line [o 59 (.build [(.int .i64 0), (.int .i64 0)] []), m 60 11, e (.store (some 2) (.t 8) (.t 59)), m 9 60])
  .ret) .skip))
 (.seq (.line [m 62 0, m 63 1, f 64 1 6, l 65 64, o 66 (.call (.c (.func (.func 12) #[] #[])) [(.t 62), (.t 63), (.t 65), (.c (.int .u8 2))]), m 61 66, o 67 (.ext (.t 61) 0), o 68 (.ext (.t 61) 1), m 12 67, m 11 68])
 (.seq (.seq (.line [m 69 11, o 70 (.bin .neq (some .int) (.t 69) (.c (.int .i64 0)))])
 (.cond (.t 70) (.seq (.line [o 71 (.build [(.int .i64 0), (.int .i64 0)] []), m 72 11, e (.store (some 2) (.t 8) (.t 71)), m 9 72])
  .ret) .skip))
 (.seq (.line [m 73 12, m 74 10, o 75 (.bin .add none (.t 74) (.c (.int .i64 1))), o 76 (.max (.t 73) [(.t 75)]), m 12 76])
 (.seq (.seq (.line [m 77 12, o 78 (.bin .gtr none (.t 77) (.c (.int .i64 5184000)))])
 (.cond (.t 78) (.seq (.line [o 79 (.build [(.int .i64 0), (.int .i64 0)] []), e (.store (some 2) (.t 8) (.t 79)), o 9 (.move (.c (.int .i64 2)))])
  .ret) .skip))
 (.seq (.line [m 80 10, m 81 12, o 82 (.build [(.int .i64 0), (.int .i64 0)] [(0, 1, (.t 80)), (1, 1, (.t 81))]), e (.store (some 2) (.t 8) (.t 82)), o 9 (.move (.c (.int .i64 0)))])
 .ret)))))))))⟩
/-- captioner/captionertop.fewer -/
def g5 : GFun := ⟨28, [.cell 2 (some 8)],
 (.seq (.line [o 1 (.box (.t 0)), o 2 (.alloc 0 [(.string ⟨#[]⟩), (.string ⟨#[]⟩), (.int .u8 0), (.bool false), (.int .i64 0), (.slice none 0 0), (.slice none 0 0), (.slice none 0 0)])])
 (.seq (.any [] [f 3 6 1, l 4 3, f 5 6 1, l 6 5, o 7 (.len false (.t 6)), o 8 (.min (.t 7) [(.c (.int .i64 5))]), o 9 (.slice (.sl 7) (.t 4) none (some (.t 8)) none), f 10 7 1, l 11 10, f 12 7 1, l 13 12, o 14 (.len false (.t 13)), o 15 (.min (.t 14) [(.c (.int .i64 5))]), o 16 (.slice (.sl 8) (.t 11) none (some (.t 15)) none), f 17 5 1, l 18 17, f 19 5 1, l 20 19, o 21 (.len false (.t 20)), o 22 (.min (.t 21) [(.c (.int .i64 8))]), o 23 (.slice (.sl 7) (.t 18) none (some (.t 22)) none), f 24 6 1] [(false, e (.store none (.t 24) (.t 9))), (false, f 25 7 1), (false, e (.store none (.t 25) (.t 16))), (false, f 26 5 1), (false, e (.store none (.t 26) (.t 23)))])
 (.seq (.line [o 27 (.load (some 8) (.t 1)), e (.store (some 8) (.t 2) (.t 27))])
 .ret)))⟩
/-- captioner/retime.Retime -/
def g6 : GFun := ⟨168, [.cell 8 (some 8), .tmp 9, .tmp 10],
 (.seq (.line [o 4 (.box (.t 0)), o 8 (.alloc 0 [(.string ⟨#[]⟩), (.string ⟨#[]⟩), (.int .u8 0), (.bool false), (.int .i64 0), (.slice none 0 0), (.slice none 0 0), (.slice none 0 0)]), o 9 (.move (.c (.slice none 0 0))), o 10 (.move (.c (.int .i64 0)))])
 (.seq (.seq (.line [o 24 (.load (some 8) (.t 4)), o 25 (.call (.c (.func (.func 7) #[] #[])) [(.t 24)]), m 11 25])
 (.seq (.line [m 26 11, o 27 (.bin .neq (some .int) (.t 26) (.c (.int .i64 0)))])
 (.cond (.t 27) (.seq (.line [o 28 (.build [(.string ⟨#[]⟩), (.string ⟨#[]⟩), (.int .u8 0), (.bool false), (.int .i64 0), (.slice none 0 0), (.slice none 0 0), (.slice none 0 0)] []), m 29 11, e (.store (some 8) (.t 8) (.t 28)), o 9 (.move (.c (.slice none 0 0))), m 10 29])
  .ret) .skip)))
 (.seq (.block 0 (.seq (.line [m 31 1, o 32 (.call (.c (.func (.func 10) #[] #[])) [(.t 31)]), o 33 (.un .not (.t 32)), m 34 33, w 35 34 (.move (.t 2)), w 36 34 (.move (.t 35)), u 37 36 (.move (.t 1)), u 38 36 (.call (.c (.func (.func 13) #[] #[])) [(.t 37)]), u 39 36 (.un .not (.t 38)), w 40 34 (.pick (.t 36) (.t 39) (.c (.bool false))), o 41 (.pick (.t 34) (.c (.bool true)) (.t 40)), m 30 41])
  (.cond (.t 30) (.seq (.line [o 42 (.build [(.string ⟨#[]⟩), (.string ⟨#[]⟩), (.int .u8 0), (.bool false), (.int .i64 0), (.slice none 0 0), (.slice none 0 0), (.slice none 0 0)] []), e (.store (some 8) (.t 8) (.t 42)), o 9 (.move (.c (.slice none 0 0))), o 10 (.move (.c (.int .i64 13)))])
   .ret) (.seq (.line [m 44 3, o 45 (.call (.c (.func (.func 11) #[] #[])) [(.t 44)]), o 46 (.un .not (.t 45)), m 43 46])
   (.cond (.t 43) (.seq (.line [o 47 (.build [(.string ⟨#[]⟩), (.string ⟨#[]⟩), (.int .u8 0), (.bool false), (.int .i64 0), (.slice none 0 0), (.slice none 0 0), (.slice none 0 0)] []), e (.store (some 8) (.t 8) (.t 47)), o 9 (.move (.c (.slice none 0 0))), o 10 (.move (.c (.int .i64 1)))])
    .ret) .skip)))))
 (.seq (.line [o 48 (.load (some 8) (.t 4)), o 49 (.call (.c (.func (.func 14) #[] #[])) [(.t 48)]), o 12 (.alloc 0 [(.string ⟨#[]⟩), (.string ⟨#[]⟩), (.int .u8 0), (.bool false), (.int .i64 0), (.slice none 0 0), (.slice none 0 0), (.slice none 0 0)]), e (.store (some 8) (.t 12) (.t 49))])
 (.seq (.line [m 50 1, m 51 2, f 52 2 12, e (.store none (.t 52) (.t 50)), f 53 3 12, e (.store none (.t 53) (.t 51)), f 54 7 12, e (.store none (.t 54) (.c (.slice none 0 0)))])
 (.seq (.line [o 13 (.move (.c (.slice none 0 0)))])
 (.seq (.line [o 55 (.mkMap), m 14 55])
 (.seq (.line [f 56 2 4, l 57 56, o 58 (.call (.c (.func (.func 9) #[] #[])) [(.t 57)]), m 59 1, o 60 (.call (.c (.func (.func 9) #[] #[])) [(.t 59)]), m 15 58, m 16 60])
 (.seq (.seq (.line [f 61 6 12, l 62 61, o 63 (.len false (.t 62)), o 64 (.move (.c (.int .i64 0)))])
 (.block 1 (.loop (.seq (.line [o 65 (.bin .lss none (.t 64) (.t 63))])
   (.seq (.cond (.t 65) .skip (.exit 1))
   (.seq (.block 2 (.seq (.line [m 66 64, m 17 66])
    (.seq (.line [f 67 6 12, l 68 67, m 69 17, o 70 (.ia none 7 (.t 68) (.t 69)), m 18 70])
    (.seq (.any [] [f 72 2 4, l 73 72, m 74 1, m 75 18, o 76 (.nilc (.t 75)), f 77 1 76, o 78 (.load (some 2) (.t 77)), m 79 3, o 80 (.call (.c (.func (.func 4) #[] #[])) [(.t 73), (.t 74), (.t 78), (.t 79)]), m 71 80, o 81 (.ext (.t 71) 0), o 82 (.ext (.t 71) 1), o 19 (.alloc 0 [(.int .i64 0), (.int .i64 0)])] [(false, e (.store (some 2) (.t 19) (.t 81))), (false, m 20 82)])
    (.seq (.seq (.line [m 83 20, o 84 (.bin .neq (some .int) (.t 83) (.c (.int .i64 0)))])
    (.cond (.t 84) (.seq (.line [o 85 (.build [(.string ⟨#[]⟩), (.string ⟨#[]⟩), (.int .u8 0), (.bool false), (.int .i64 0), (.slice none 0 0), (.slice none 0 0), (.slice none 0 0)] []), m 86 20, e (.store (some 8) (.t 8) (.t 85)), o 9 (.move (.c (.slice none 0 0))), m 10 86])
     .ret) .skip))
    (.seq (.line [m 87 17, o 88 (.bin .add none (.t 87) (.c (.int .i64 1))), m 21 88])
    (.seq (.line [m 89 14, m 90 18, o 91 (.nilc (.t 90)), f 92 0 91, l 93 92, m 94 21, e (.mset (.t 89) (.t 93) (.t 94))])
    (.seq (.any [] [m 95 13, m 96 21, f 97 0 19, l 98 97, m 99 16, o 100 (.bin .mul none (.t 98) (.t 99)), m 101 18, o 102 (.nilc (.t 101)), f 103 1 102, f 104 0 103, l 105 104, m 106 15, o 107 (.bin .mul none (.t 105) (.t 106)), o 108 (.bin .sub none (.t 100) (.t 107)), f 109 1 19, l 110 109, m 111 16, o 112 (.bin .mul none (.t 110) (.t 111)), m 113 18, o 114 (.nilc (.t 113)), f 115 1 114, f 116 1 115, l 117 116, m 118 15, o 119 (.bin .mul none (.t 117) (.t 118)), o 120 (.bin .sub none (.t 112) (.t 119)), o 121 (.build [(.int .i64 0), (.int .i64 0), (.int .i64 0)] [(0, 1, (.t 96)), (1, 1, (.t 108)), (2, 1, (.t 120))]), o 122 (.buildSl 3 1 [(.int .i64 0), (.int .i64 0), (.int .i64 0)] [(0, 3, (.t 121))])] [(false, o 123 (.app 3 24 3 (.t 95) (.t 122))), (false, m 13 123)])
    (.any [(.t 18)] [m 124 18, m 125 18, m 126 21, o 127 (.load (some 2) (.t 19)), o 128 (.nilc (.t 124)), f 129 0 128] [(true, e (.store none (.t 129) (.t 126))), (false, o 130 (.nilc (.t 125))), (false, f 131 1 130), (false, e (.store (some 2) (.t 131) (.t 127)))])))))))))
   (.line [o 132 (.bin .add none (.t 64) (.c (.int .i64 1))), m 64 132])))))))
 (.seq (.line [f 133 6 12, l 134 133, o 135 (.len false (.t 134)), f 136 4 12, e (.store none (.t 136) (.t 135))])
 (.seq (.seq (.line [f 137 7 4, l 138 137, o 139 (.len false (.t 138)), o 140 (.move (.c (.int .i64 0)))])
 (.block 3 (.loop (.seq (.line [o 141 (.bin .lss none (.t 140) (.t 139))])
   (.seq (.cond (.t 141) .skip (.exit 3))
   (.seq (.block 4 (.seq (.line [o 142 (.ia none 8 (.t 138) (.t 140)), o 143 (.load (some 8) (.t 142)), o 23 (.alloc 0 [(.int .i64 0), (.int .i64 0), (.int .i64 0), (.int .i64 0), (.string ⟨#[]⟩), (.string ⟨#[]⟩), (.bool false), (.bool false)]), e (.store (some 8) (.t 23) (.t 143))])
    (.seq (.line [f 144 7 23, l 145 144, o 146 (.un .not (.t 145))])
    (.cond (.t 146) (.seq (.line [f 147 4 12, l 148 147, o 149 (.bin .add none (.t 148) (.c (.int .i64 1))), f 150 4 12, e (.store none (.t 150) (.t 149))])
     (.seq (.any [] [f 151 4 12, l 152 151, m 153 14, f 154 1 23, l 155 154, o 156 (.look (.int .i64 0) false (.t 153) (.t 155)), f 157 0 23] [(false, e (.store none (.t 157) (.t 152))), (false, f 158 1 23), (false, e (.store none (.t 158) (.t 156)))])
     (.line [f 159 7 12, l 160 159, o 161 (.load (some 8) (.t 23)), o 162 (.buildSl 8 1 [(.int .i64 0), (.int .i64 0), (.int .i64 0), (.int .i64 0), (.string ⟨#[]⟩), (.string ⟨#[]⟩), (.bool false), (.bool false)] [(0, 8, (.t 161))]), o 163 (.app 8 72 8 (.t 160) (.t 162)), f 164 7 12, e (.store none (.t 164) (.t 163))]))) .skip))))
   (.line [o 165 (.bin .add none (.t 140) (.c (.int .i64 1))), m 140 165])))))))
 (.seq (.line [o 166 (.load (some 8) (.t 12)), m 167 13, e (.store (some 8) (.t 8) (.t 166)), m 9 167, o 10 (.move (.c (.int .i64 0)))])
 .ret))))))))))))⟩
/-- captioner/document.Check -/
def g7 : GFun := ⟨79, [.tmp 2],
 (.seq (.line [o 1 (.box (.t 0)), o 2 (.move (.c (.int .i64 0)))])
 (.seq (.seq (.line [o 11 (.load (some 8) (.t 1)), o 12 (.call (.c (.func (.func 15) #[] #[])) [(.t 11)]), m 3 12])
 (.seq (.line [m 13 3, o 14 (.bin .neq (some .int) (.t 13) (.c (.int .i64 0)))])
 (.cond (.t 14) (.seq (.line [m 15 3, m 2 15])
  .ret) .skip)))
 (.seq (.seq (.line [f 16 5 1, l 17 16, o 18 (.call (.c (.func (.func 16) #[] #[])) [(.t 17)]), m 4 18])
 (.seq (.line [m 19 4, o 20 (.bin .neq (some .int) (.t 19) (.c (.int .i64 0)))])
 (.cond (.t 20) (.seq (.line [m 21 4, m 2 21])
  .ret) .skip)))
 (.seq (.seq (.line [f 22 6 1, l 23 22, o 24 (.len false (.t 23)), o 25 (.bin .gtr none (.t 24) (.c (.int .i64 400)))])
 (.cond (.t 25) (.seq (.line [o 2 (.move (.c (.int .i64 9)))])
  .ret) .skip))
 (.seq (.line [o 26 (.mkMap), m 5 26])
 (.seq (.seq (.line [f 27 6 1, l 28 27, o 29 (.len false (.t 28)), o 30 (.move (.c (.int .i64 0)))])
 (.block 0 (.loop (.seq (.line [o 31 (.bin .lss none (.t 30) (.t 29))])
   (.seq (.cond (.t 31) .skip (.exit 0))
   (.seq (.block 1 (.seq (.line [m 32 30, o 33 (.ia none 7 (.t 28) (.t 30)), o 34 (.load (some 7) (.t 33)), o 7 (.alloc 0 [(.int .i64 0), (.int .i64 0), (.int .i64 0), (.string ⟨#[]⟩), (.int .u8 0), (.string ⟨#[]⟩), (.slice none 0 0)]), m 6 32, e (.store (some 7) (.t 7) (.t 34))])
    (.seq (.seq (.line [o 35 (.load (some 7) (.t 7)), f 36 5 1, l 37 36, o 38 (.call (.c (.func (.func 17) #[] #[])) [(.t 35), (.t 37)]), m 8 38])
    (.seq (.line [m 39 8, o 40 (.bin .neq (some .int) (.t 39) (.c (.int .i64 0)))])
    (.cond (.t 40) (.seq (.line [m 41 8, m 2 41])
     .ret) .skip)))
    (.seq (.line [m 43 5, f 44 0 7, l 45 44, o 46 (.look (.int .i64 0) true (.t 43) (.t 45)), m 42 46, o 47 (.ext (.t 42) 0), o 48 (.ext (.t 42) 1), m 9 47, m 10 48])
    (.seq (.block 2 (.seq (.line [f 50 0 7, l 51 50, f 52 4 1, l 53 52, o 54 (.bin .gtr none (.t 51) (.t 53)), m 49 54])
     (.cond (.t 49) (.seq (.line [o 2 (.move (.c (.int .i64 2)))])
      .ret) (.seq (.any [] [m 56 6, o 57 (.bin .gtr none (.t 56) (.c (.int .i64 0))), m 58 57, u 59 58 (.fa 6 (.t 1)), u 60 58 (.load none (.t 59)), u 61 58 (.move (.t 6)), u 62 58 (.bin .sub none (.t 61) (.c (.int .i64 1))), u 63 58 (.ia none 7 (.t 60) (.t 62)), u 64 58 (.load (some 7) (.t 63)), u 65 58 (.load (some 7) (.t 7))] [(false, u 66 58 (.call (.c (.func (.func 18) #[] #[])) [(.t 64), (.t 65)])), (false, u 67 58 (.un .not (.t 66))), (false, o 68 (.pick (.t 58) (.t 67) (.c (.bool false)))), (false, m 55 68)])
      (.cond (.t 55) (.seq (.line [o 2 (.move (.c (.int .i64 8)))])
       .ret) (.seq (.line [m 70 10, m 69 70])
       (.cond (.t 69) (.seq (.line [o 2 (.move (.c (.int .i64 7)))])
        .ret) .skip)))))))
    (.line [m 71 5, f 72 0 7, l 73 72, m 74 6, e (.mset (.t 71) (.t 73) (.t 74))]))))))
   (.line [o 75 (.bin .add none (.t 30) (.c (.int .i64 1))), m 30 75])))))))
 (.seq (.line [o 76 (.load (some 8) (.t 1)), m 77 5, o 78 (.call (.c (.func (.func 19) #[] #[])) [(.t 76), (.t 77)]), m 2 78])
 .ret)))))))⟩
/-- captioner/timebase.Time -/
def g8 : GFun := ⟨24, [.tmp 4, .tmp 5],
 (.seq (.line [o 4 (.move (.c (.int .i64 0))), o 5 (.move (.c (.int .i64 0)))])
 (.seq (.block 0 (.seq (.line [m 7 0, o 8 (.call (.c (.func (.func 10) #[] #[])) [(.t 7)]), o 9 (.un .not (.t 8)), m 6 9])
  (.cond (.t 6) (.seq (.line [o 4 (.move (.c (.int .i64 0))), o 5 (.move (.c (.int .i64 3)))])
   .ret) (.seq (.line [m 11 1, o 12 (.bin .lss none (.t 11) (.c (.int .i64 0))), m 13 12, w 14 13 (.move (.t 1)), w 15 13 (.move (.t 0)), w 16 13 (.call (.c (.func (.func 9) #[] #[])) [(.t 15)]), w 17 13 (.bin .quo none (.c (.int .i64 10378368000)) (.t 16)), w 18 13 (.bin .gtr none (.t 14) (.t 17)), o 19 (.pick (.t 13) (.c (.bool true)) (.t 18)), m 10 19])
   (.cond (.t 10) (.seq (.line [o 4 (.move (.c (.int .i64 0))), o 5 (.move (.c (.int .i64 2)))])
    .ret) .skip)))))
 (.seq (.line [m 20 1, m 21 0, o 22 (.call (.c (.func (.func 9) #[] #[])) [(.t 21)]), o 23 (.bin .mul none (.t 20) (.t 22)), m 4 23, o 5 (.move (.c (.int .i64 0)))])
 .ret)))⟩
/-- captioner/timebase.Ticks -/
def g9 : GFun := ⟨6, [.tmp 2],
 (.seq (.line [o 2 (.move (.c (.int .i64 0)))])
 (.seq (.line [m 3 0, o 4 (.call (.c (.func (.func 20) #[] #[])) [(.t 3)]), o 5 (.fld 1 none (.t 4)), m 2 5])
 .ret))⟩
/-- captioner/timebase.Valid -/
def g10 : GFun := ⟨7, [.tmp 2],
 (.seq (.line [o 2 (.move (.c (.bool false)))])
 (.seq (.line [m 3 0, o 4 (.call (.c (.func (.func 20) #[] #[])) [(.t 3)]), o 5 (.fld 1 none (.t 4)), o 6 (.bin .gtr none (.t 5) (.c (.int .i64 0))), m 2 6])
 .ret))⟩
/-- captioner/retime.known -/
def g11 : GFun := ⟨9, [.tmp 2],
 (.seq (.line [o 2 (.move (.c (.bool false)))])
 (.seq (.line [m 3 0, o 4 (.bin .eql (some .int) (.t 3) (.c (.int .u8 1))), m 5 4, w 6 5 (.move (.t 0)), w 7 5 (.bin .eql (some .int) (.t 6) (.c (.int .u8 2))), o 8 (.pick (.t 5) (.c (.bool true)) (.t 7)), m 2 8])
 .ret))⟩
/-- captioner/timebase.Convert -/
def g12 : GFun := ⟨43, [.tmp 8, .tmp 9],
 (.seq (.line [o 8 (.move (.c (.int .i64 0))), o 9 (.move (.c (.int .i64 0)))])
 (.seq (.seq (.line [m 12 0, o 13 (.call (.c (.func (.func 10) #[] #[])) [(.t 12)]), o 14 (.un .not (.t 13)), m 15 14, w 16 15 (.move (.t 1)), w 17 15 (.call (.c (.func (.func 10) #[] #[])) [(.t 16)]), w 18 15 (.un .not (.t 17)), o 19 (.pick (.t 15) (.c (.bool true)) (.t 18)), m 20 19, w 21 20 (.move (.t 3)), w 22 20 (.bin .lss none (.t 21) (.c (.int .u8 1))), o 23 (.pick (.t 20) (.c (.bool true)) (.t 22)), m 24 23, w 25 24 (.move (.t 3)), w 26 24 (.bin .gtr none (.t 25) (.c (.int .u8 3))), o 27 (.pick (.t 24) (.c (.bool true)) (.t 26))])
 (.cond (.t 27) (.seq (.line [o 8 (.move (.c (.int .i64 0))), o 9 (.move (.c (.int .i64 3)))])
  .ret) .skip))
 (.seq (.line [m 29 0, m 30 2, o 31 (.call (.c (.func (.func 8) #[] #[])) [(.t 29), (.t 30)]), m 28 31, o 32 (.ext (.t 28) 0), o 33 (.ext (.t 28) 1), m 10 32, m 11 33])
 (.seq (.seq (.line [m 34 11, o 35 (.bin .neq (some .int) (.t 34) (.c (.int .i64 0)))])
 (.cond (.t 35) (.seq (.line [m 36 11, o 8 (.move (.c (.int .i64 0))), m 9 36])
  .ret) .skip))
 (.seq (.line [m 37 1, m 38 10, m 39 3, o 40 (.call (.c (.func (.func 21) #[] #[])) [(.t 37), (.t 38), (.t 39)]), o 41 (.ext (.t 40) 0), o 42 (.ext (.t 40) 1), m 8 41, m 9 42])
 .ret)))))⟩
/-- captioner/timebase.CanDrop -/
def g13 : GFun := ⟨6, [.tmp 2],
 (.seq (.line [o 2 (.move (.c (.bool false)))])
 (.seq (.line [m 3 0, o 4 (.call (.c (.func (.func 20) #[] #[])) [(.t 3)]), o 5 (.fld 3 none (.t 4)), m 2 5])
 .ret))⟩
/-- captioner/document.Clone -/
def g14 : GFun := ⟨33, [.cell 2 (some 8)],
 (.seq (.line [o 1 (.box (.t 0)), o 2 (.alloc 0 [(.string ⟨#[]⟩), (.string ⟨#[]⟩), (.int .u8 0), (.bool false), (.int .i64 0), (.slice none 0 0), (.slice none 0 0), (.slice none 0 0)])])
 (.seq (.any [] [f 5 5 1, l 6 5, o 7 (.call (.c (.func (.func 22) #[] #[])) [(.t 6)]), f 8 7 1, l 9 8, o 10 (.call (.c (.func (.func 23) #[] #[])) [(.t 9)]), f 11 5 1] [(false, e (.store none (.t 11) (.t 7))), (false, f 12 7 1), (false, e (.store none (.t 12) (.t 10)))])
 (.seq (.line [f 13 6 1, l 14 13, o 15 (.call (.c (.func (.func 24) #[] #[])) [(.t 14)]), f 16 6 1, e (.store none (.t 16) (.t 15))])
 (.seq (.seq (.line [f 17 6 1, l 18 17, o 19 (.len false (.t 18)), o 20 (.move (.c (.int .i64 0)))])
 (.block 0 (.loop (.seq (.line [o 21 (.bin .lss none (.t 20) (.t 19))])
   (.seq (.cond (.t 21) .skip (.exit 0))
   (.seq (.block 1 (.seq (.line [m 22 20, o 23 (.ia none 7 (.t 18) (.t 20)), o 24 (.load (some 7) (.t 23)), o 4 (.alloc 0 [(.int .i64 0), (.int .i64 0), (.int .i64 0), (.string ⟨#[]⟩), (.int .u8 0), (.string ⟨#[]⟩), (.slice none 0 0)]), m 3 22, e (.store (some 7) (.t 4) (.t 24))])
    (.any [] [f 25 6 1, l 26 25, m 27 3, o 28 (.load (some 7) (.t 4)), o 29 (.call (.c (.func (.func 25) #[] #[])) [(.t 28)]), o 30 (.ia none 7 (.t 26) (.t 27))] [(false, e (.store (some 7) (.t 30) (.t 29)))])))
   (.line [o 31 (.bin .add none (.t 20) (.c (.int .i64 1))), m 20 31])))))))
 (.seq (.line [o 32 (.load (some 8) (.t 1)), e (.store (some 8) (.t 2) (.t 32))])
 .ret)))))⟩
/-- captioner/document.header -/
def g15 : GFun := ⟨40, [.tmp 2],
 (.seq (.line [o 1 (.box (.t 0)), o 2 (.move (.c (.int .i64 0)))])
 (.seq (.block 0 (.seq (.line [f 5 0 1, l 6 5, o 7 (.call (.c (.func (.func 26) #[] #[])) [(.t 6)]), o 8 (.un .not (.t 7)), m 4 8])
  (.cond (.t 4) (.seq (.line [o 2 (.move (.c (.int .i64 10)))])
   .ret) (.seq (.line [f 10 0 1, l 11 10, o 12 (.len true (.t 11)), o 13 (.bin .gtr none (.t 12) (.c (.int .i64 400))), m 9 13])
   (.cond (.t 9) (.seq (.line [o 2 (.move (.c (.int .i64 9)))])
    .ret) (.seq (.line [f 15 1 1, l 16 15, o 17 (.bin .neq (some .str) (.t 16) (.c (.string ⟨#[]⟩))), m 18 17, u 19 18 (.fa 1 (.t 1)), u 20 18 (.load none (.t 19)), u 21 18 (.call (.c (.func (.func 27) #[] #[])) [(.t 20)]), u 22 18 (.un .not (.t 21)), o 23 (.pick (.t 18) (.t 22) (.c (.bool false))), m 14 23])
    (.cond (.t 14) (.seq (.line [o 2 (.move (.c (.int .i64 5)))])
     .ret) .skip)))))))
 (.seq (.seq (.line [f 24 2 1, l 25 24, f 26 3 1, l 27 26, o 28 (.call (.c (.func (.func 28) #[] #[])) [(.t 25), (.t 27)]), m 3 28])
 (.seq (.line [m 29 3, o 30 (.bin .neq (some .int) (.t 29) (.c (.int .i64 0)))])
 (.cond (.t 30) (.seq (.line [m 31 3, m 2 31])
  .ret) .skip)))
 (.seq (.seq (.line [f 32 4 1, l 33 32, o 34 (.bin .lss none (.t 33) (.c (.int .i64 0))), m 35 34, w 36 35 (.fa 4 (.t 1)), w 37 35 (.load none (.t 36)), w 38 35 (.bin .gtr none (.t 37) (.c (.int .i64 1099511627776))), o 39 (.pick (.t 35) (.c (.bool true)) (.t 38))])
 (.cond (.t 39) (.seq (.line [o 2 (.move (.c (.int .i64 2)))])
  .ret) .skip))
 (.seq (.line [o 2 (.move (.c (.int .i64 0)))])
 .ret)))))⟩
/-- captioner/region.CheckList -/
def g16 : GFun := ⟨48, [.tmp 2],
 (.seq (.line [o 2 (.move (.c (.int .i64 0)))])
 (.seq (.seq (.line [m 6 0, o 7 (.len false (.t 6)), o 8 (.bin .gtr none (.t 7) (.c (.int .i64 16)))])
 (.cond (.t 8) (.seq (.line [o 2 (.move (.c (.int .i64 9)))])
  .ret) .skip))
 (.seq (.seq (.line [m 9 0, o 10 (.len false (.t 9)), o 11 (.move (.c (.int .i64 0)))])
 (.block 0 (.loop (.seq (.line [o 12 (.bin .lss none (.t 11) (.t 10))])
   (.seq (.cond (.t 12) .skip (.exit 0))
   (.seq (.block 1 (.seq (.line [m 13 11, o 14 (.ia none 7 (.t 9) (.t 11)), o 15 (.load (some 7) (.t 14)), o 4 (.alloc 0 [(.string ⟨#[]⟩), (.int .i64 0), (.int .i64 0), (.int .i64 0), (.int .i64 0), (.int .u8 0), (.bool false)]), m 3 13, e (.store (some 7) (.t 4) (.t 15))])
    (.seq (.seq (.line [o 16 (.load (some 7) (.t 4)), o 17 (.call (.c (.func (.func 29) #[] #[])) [(.t 16)]), m 5 17])
    (.seq (.line [m 18 5, o 19 (.bin .neq (some .int) (.t 18) (.c (.int .i64 0)))])
    (.cond (.t 19) (.seq (.line [m 20 5, m 2 20])
     .ret) .skip)))
    (.seq (.seq (.any [] [m 21 3, o 22 (.bin .gtr none (.t 21) (.c (.int .i64 0))), m 23 22, u 24 23 (.fa 0 (.t 4)), u 25 23 (.load none (.t 24)), u 26 23 (.move (.t 0)), u 27 23 (.move (.t 3)), u 28 23 (.bin .sub none (.t 27) (.c (.int .i64 1))), u 29 23 (.ia none 7 (.t 26) (.t 28)), u 30 23 (.fa 0 (.t 29)), u 31 23 (.load none (.t 30)), u 32 23 (.bin .eql (some .str) (.t 25) (.t 31)), o 33 (.pick (.t 23) (.t 32) (.c (.bool false)))] [])
    (.cond (.t 33) (.seq (.line [o 2 (.move (.c (.int .i64 7)))])
     .ret) .skip))
    (.seq (.any [] [m 34 3, o 35 (.bin .gtr none (.t 34) (.c (.int .i64 0))), m 36 35, u 37 36 (.fa 0 (.t 4)), u 38 36 (.load none (.t 37)), u 39 36 (.move (.t 0)), u 40 36 (.move (.t 3)), u 41 36 (.bin .sub none (.t 40) (.c (.int .i64 1))), u 42 36 (.ia none 7 (.t 39) (.t 41)), u 43 36 (.fa 0 (.t 42)), u 44 36 (.load none (.t 43)), u 45 36 (.bin .lss none (.t 38) (.t 44)), o 46 (.pick (.t 36) (.t 45) (.c (.bool false)))] [])
    (.cond (.t 46) (.seq (.line [o 2 (.move (.c (.int .i64 8)))])
     .ret) .skip))))))
   (.line [o 47 (.bin .add none (.t 11) (.c (.int .i64 1))), m 11 47])))))))
 (.seq (.line [o 2 (.move (.c (.int .i64 0)))])
 .ret))))⟩
/-- captioner/event.Check -/
def g17 : GFun := ⟨84, [.tmp 4],
 (.seq (.line [o 2 (.box (.t 0)), o 4 (.move (.c (.int .i64 0)))])
 (.seq (.line [m 13 1, f 14 3 2, l 15 14, o 16 (.call (.c (.func (.func 30) #[] #[])) [(.t 13), (.t 15)]), m 12 16, o 17 (.ext (.t 12) 0), o 18 (.ext (.t 12) 1), o 5 (.alloc 0 [(.string ⟨#[]⟩), (.int .i64 0), (.int .i64 0), (.int .i64 0), (.int .i64 0), (.int .u8 0), (.bool false)]), e (.store (some 7) (.t 5) (.t 17)), m 6 18])
 (.seq (.block 0 (.seq (.line [f 20 0 2, l 21 20, o 22 (.bin .lss none (.t 21) (.c (.int .i64 1))), m 23 22, w 24 23 (.fa 0 (.t 2)), w 25 23 (.load none (.t 24)), w 26 23 (.bin .gtr none (.t 25) (.c (.int .i64 1099511627776))), o 27 (.pick (.t 23) (.c (.bool true)) (.t 26)), m 28 27, w 29 28 (.fa 1 (.t 2)), w 30 28 (.load (some 2) (.t 29)), w 31 28 (.call (.c (.func (.func 31) #[] #[])) [(.t 30)]), w 32 28 (.un .not (.t 31)), o 33 (.pick (.t 28) (.c (.bool true)) (.t 32)), m 19 33])
  (.cond (.t 19) (.seq (.line [o 4 (.move (.c (.int .i64 2)))])
   .ret) (.seq (.line [m 35 6, o 36 (.un .not (.t 35)), m 34 36])
   (.cond (.t 34) (.seq (.line [o 4 (.move (.c (.int .i64 6)))])
    .ret) (.seq (.line [f 38 4 2, l 39 38, o 40 (.call (.c (.func (.func 32) #[] #[])) [(.t 39)]), o 41 (.bin .eql (some .str) (.t 40) (.c (.string ⟨#[]⟩))), m 37 41])
    (.cond (.t 37) (.seq (.line [o 4 (.move (.c (.int .i64 3)))])
     .ret) (.seq (.line [f 43 5 2, l 44 43, o 45 (.bin .neq (some .str) (.t 44) (.c (.string ⟨#[]⟩))), m 46 45, u 47 46 (.fa 5 (.t 2)), u 48 46 (.load none (.t 47)), u 49 46 (.call (.c (.func (.func 27) #[] #[])) [(.t 48)]), u 50 46 (.un .not (.t 49)), o 51 (.pick (.t 46) (.t 50) (.c (.bool false))), m 42 51])
     (.cond (.t 42) (.seq (.line [o 4 (.move (.c (.int .i64 5)))])
      .ret) (.seq (.line [f 53 6 2, l 54 53, o 55 (.len false (.t 54)), o 56 (.bin .eql (some .int) (.t 55) (.c (.int .i64 0))), m 57 56, w 58 57 (.fa 6 (.t 2)), w 59 57 (.load none (.t 58)), w 60 57 (.len false (.t 59)), w 61 57 (.bin .gtr none (.t 60) (.c (.int .i64 4))), o 62 (.pick (.t 57) (.c (.bool true)) (.t 61)), m 52 62])
      (.cond (.t 52) (.seq (.line [o 4 (.move (.c (.int .i64 9)))])
       .ret) .skip)))))))))))
 (.seq (.seq (.line [f 63 6 2, l 64 63, o 65 (.len false (.t 64)), o 66 (.move (.c (.int .i64 0)))])
 (.block 1 (.loop (.seq (.line [o 67 (.bin .lss none (.t 66) (.t 65))])
   (.seq (.cond (.t 67) .skip (.exit 1))
   (.seq (.block 2 (.seq (.line [o 68 (.ia none 1 (.t 64) (.t 66)), o 69 (.load (some 1) (.t 68)), o 8 (.alloc 0 [(.slice none 0 0)]), e (.store (some 1) (.t 8) (.t 69))])
    (.seq (.line [o 70 (.load (some 1) (.t 8)), o 71 (.call (.c (.func (.func 33) #[] #[])) [(.t 70)]), m 9 71])
    (.seq (.line [m 72 9, o 73 (.bin .neq (some .int) (.t 72) (.c (.int .i64 0)))])
    (.cond (.t 73) (.seq (.line [m 74 9, m 4 74])
     .ret) .skip)))))
   (.line [o 75 (.bin .add none (.t 66) (.c (.int .i64 1))), m 66 75])))))))
 (.seq (.any [] [o 77 (.load (some 7) (.t 5)), o 78 (.load (some 7) (.t 2)), o 79 (.call (.c (.func (.func 35) #[] #[])) [(.t 78)]), o 80 (.call (.c (.func (.func 34) #[] #[])) [(.t 77), (.t 79)]), m 76 80, o 81 (.ext (.t 76) 0), o 82 (.ext (.t 76) 1), m 10 81, m 11 82] [])
 (.seq (.line [m 83 11, m 4 83])
 .ret))))))⟩
/-- captioner/event.Less -/
def g18 : GFun := ⟨20, [.tmp 4],
 (.seq (.line [o 2 (.box (.t 0)), o 3 (.box (.t 1)), o 4 (.move (.c (.bool false)))])
 (.seq (.any [] [f 5 1 2, f 6 0 5, l 7 6, f 8 1 3, f 9 0 8, l 10 9, o 11 (.call (.c (.func (.func 37) #[] #[])) [(.t 7), (.t 10)]), f 12 0 2, l 13 12, f 14 0 3, l 15 14, o 16 (.call (.c (.func (.func 37) #[] #[])) [(.t 13), (.t 15)]), o 17 (.buildSl 1 2 [(.int .i64 0)] [(0, 1, (.t 11)), (1, 1, (.t 16))]), o 18 (.call (.c (.func (.func 36) #[] #[])) [(.t 17)]), o 19 (.bin .lss none (.t 18) (.c (.int .i64 0))), m 4 19] [])
 .ret))⟩
/-- captioner/document.comments -/
def g19 : GFun := ⟨84, [.tmp 4],
 (.seq (.line [o 2 (.box (.t 0)), o 4 (.move (.c (.int .i64 0)))])
 (.seq (.seq (.line [f 10 7 2, l 11 10, o 12 (.len false (.t 11)), o 13 (.bin .gtr none (.t 12) (.c (.int .i64 64)))])
 (.cond (.t 13) (.seq (.line [o 4 (.move (.c (.int .i64 9)))])
  .ret) .skip))
 (.seq (.seq (.line [f 14 7 2, l 15 14, o 16 (.len false (.t 15)), o 17 (.move (.c (.int .i64 0)))])
 (.block 0 (.loop (.seq (.line [o 18 (.bin .lss none (.t 17) (.t 16))])
   (.seq (.cond (.t 18) .skip (.exit 0))
   (.seq (.block 1 (.seq (.line [m 19 17, o 20 (.ia none 8 (.t 15) (.t 17)), o 21 (.load (some 8) (.t 20)), o 6 (.alloc 0 [(.int .i64 0), (.int .i64 0), (.int .i64 0), (.int .i64 0), (.string ⟨#[]⟩), (.string ⟨#[]⟩), (.bool false), (.bool false)]), m 5 19, e (.store (some 8) (.t 6) (.t 21))])
    (.seq (.line [m 23 1, f 24 0 6, l 25 24, o 26 (.look (.int .i64 0) true (.t 23) (.t 25)), m 22 26, o 27 (.ext (.t 22) 0), o 28 (.ext (.t 22) 1), m 7 27, m 8 28])
    (.seq (.block 2 (.seq (.line [f 30 0 6, l 31 30, o 32 (.bin .lss none (.t 31) (.c (.int .i64 1))), m 33 32, w 34 33 (.fa 0 (.t 6)), w 35 33 (.load none (.t 34)), w 36 33 (.fa 4 (.t 2)), w 37 33 (.load none (.t 36)), w 38 33 (.bin .gtr none (.t 35) (.t 37)), o 39 (.pick (.t 33) (.c (.bool true)) (.t 38)), m 29 39])
     (.cond (.t 29) (.seq (.line [o 4 (.move (.c (.int .i64 2)))])
      .ret) (.seq (.any [] [m 41 5, o 42 (.bin .gtr none (.t 41) (.c (.int .i64 0))), m 43 42, u 44 43 (.fa 0 (.t 6)), u 45 43 (.load none (.t 44)), u 46 43 (.fa 7 (.t 2)), u 47 43 (.load none (.t 46)), u 48 43 (.move (.t 5)), u 49 43 (.bin .sub none (.t 48) (.c (.int .i64 1))), u 50 43 (.ia none 8 (.t 47) (.t 49)), u 51 43 (.fa 0 (.t 50)), u 52 43 (.load none (.t 51)), u 53 43 (.bin .leq none (.t 45) (.t 52)), o 54 (.pick (.t 43) (.t 53) (.c (.bool false))), m 40 54] [])
      (.cond (.t 40) (.seq (.line [o 4 (.move (.c (.int .i64 8)))])
       .ret) (.seq (.line [m 56 8, m 55 56])
       (.cond (.t 55) (.seq (.line [o 4 (.move (.c (.int .i64 7)))])
        .ret) .skip)))))))
    (.seq (.seq (.line [o 57 (.load (some 8) (.t 2)), o 58 (.load (some 8) (.t 6)), m 59 1, o 60 (.call (.c (.func (.func 38) #[] #[])) [(.t 57), (.t 58), (.t 59)]), m 9 60])
    (.seq (.line [m 61 9, o 62 (.bin .neq (some .int) (.t 61) (.c (.int .i64 0)))])
    (.cond (.t 62) (.seq (.line [m 63 9, m 4 63])
     .ret) .skip)))
    (.block 3 (.seq (.line [f 65 4 6, l 66 65, o 67 (.call (.c (.func (.func 27) #[] #[])) [(.t 66)]), o 68 (.un .not (.t 67)), m 64 68])
     (.cond (.t 64) (.seq (.line [o 4 (.move (.c (.int .i64 5)))])
      .ret) (.seq (.line [f 70 5 6, l 71 70, o 72 (.call (.c (.func (.func 26) #[] #[])) [(.t 71)]), o 73 (.un .not (.t 72)), m 69 73])
      (.cond (.t 69) (.seq (.line [o 4 (.move (.c (.int .i64 10)))])
       .ret) (.seq (.line [f 75 5 6, l 76 75, o 77 (.bin .eql (some .str) (.t 76) (.c (.string ⟨#[]⟩))), m 74 77])
       (.cond (.t 74) (.seq (.line [o 4 (.move (.c (.int .i64 4)))])
        .ret) (.seq (.line [f 79 5 6, l 80 79, o 81 (.len true (.t 80)), o 82 (.bin .gtr none (.t 81) (.c (.int .i64 400))), m 78 82])
        (.cond (.t 78) (.seq (.line [o 4 (.move (.c (.int .i64 9)))])
         .ret) .skip))))))))))))))
   (.line [o 83 (.bin .add none (.t 17) (.c (.int .i64 1))), m 17 83])))))))
 (.seq (.line [o 4 (.move (.c (.int .i64 0)))])
 .ret))))⟩
/-- captioner/timebase.of -/
def g20 : GFun := ⟨20, [.cell 2 (some 4)],
 (.seq (.line [o 2 (.alloc 0 [(.string ⟨#[]⟩), (.int .i64 0), (.int .i64 0), (.bool false)])])
 (.seq (.line [o 4 (.build [(.string ⟨#[]⟩), (.int .i64 0), (.int .i64 0), (.bool false)] []), o 5 (.build [(.string ⟨#[]⟩), (.int .i64 0), (.int .i64 0), (.bool false)] [(0, 1, (.c (.string ⟨#[50, 51, 46, 57, 55, 54]⟩))), (1, 1, (.c (.int .i64 5005))), (2, 1, (.c (.int .i64 24))), (3, 1, (.c (.bool false)))]), o 6 (.build [(.string ⟨#[]⟩), (.int .i64 0), (.int .i64 0), (.bool false)] [(0, 1, (.c (.string ⟨#[50, 52]⟩))), (1, 1, (.c (.int .i64 5000))), (2, 1, (.c (.int .i64 24))), (3, 1, (.c (.bool false)))]), o 7 (.build [(.string ⟨#[]⟩), (.int .i64 0), (.int .i64 0), (.bool false)] [(0, 1, (.c (.string ⟨#[50, 53]⟩))), (1, 1, (.c (.int .i64 4800))), (2, 1, (.c (.int .i64 25))), (3, 1, (.c (.bool false)))]), o 8 (.build [(.string ⟨#[]⟩), (.int .i64 0), (.int .i64 0), (.bool false)] [(0, 1, (.c (.string ⟨#[50, 57, 46, 57, 55]⟩))), (1, 1, (.c (.int .i64 4004))), (2, 1, (.c (.int .i64 30))), (3, 1, (.c (.bool true)))]), o 9 (.build [(.string ⟨#[]⟩), (.int .i64 0), (.int .i64 0), (.bool false)] [(0, 1, (.c (.string ⟨#[51, 48]⟩))), (1, 1, (.c (.int .i64 4000))), (2, 1, (.c (.int .i64 30))), (3, 1, (.c (.bool false)))]), o 10 (.build [(.string ⟨#[]⟩), (.int .i64 0), (.int .i64 0), (.bool false)] [(0, 1, (.c (.string ⟨#[53, 48]⟩))), (1, 1, (.c (.int .i64 2400))), (2, 1, (.c (.int .i64 50))), (3, 1, (.c (.bool false)))]), o 11 (.build [(.string ⟨#[]⟩), (.int .i64 0), (.int .i64 0), (.bool false)] [(0, 1, (.c (.string ⟨#[53, 57, 46, 57, 52]⟩))), (1, 1, (.c (.int .i64 2002))), (2, 1, (.c (.int .i64 60))), (3, 1, (.c (.bool true)))]), o 12 (.build [(.string ⟨#[]⟩), (.int .i64 0), (.int .i64 0), (.bool false), (.string ⟨#[]⟩), (.int .i64 0), (.int .i64 0), (.bool false), (.string ⟨#[]⟩), (.int .i64 0), (.int .i64 0), (.bool false), (.string ⟨#[]⟩), (.int .i64 0), (.int .i64 0), (.bool false), (.string ⟨#[]⟩), (.int .i64 0), (.int .i64 0), (.bool false), (.string ⟨#[]⟩), (.int .i64 0), (.int .i64 0), (.bool false), (.string ⟨#[]⟩), (.int .i64 0), (.int .i64 0), (.bool false), (.string ⟨#[]⟩), (.int .i64 0), (.int .i64 0), (.bool false)] [(0, 4, (.t 4)), (4, 4, (.t 5)), (8, 4, (.t 6)), (12, 4, (.t 7)), (16, 4, (.t 8)), (20, 4, (.t 9)), (24, 4, (.t 10)), (28, 4, (.t 11))]), o 3 (.alloc 0 [(.string ⟨#[]⟩), (.int .i64 0), (.int .i64 0), (.bool false), (.string ⟨#[]⟩), (.int .i64 0), (.int .i64 0), (.bool false), (.string ⟨#[]⟩), (.int .i64 0), (.int .i64 0), (.bool false), (.string ⟨#[]⟩), (.int .i64 0), (.int .i64 0), (.bool false), (.string ⟨#[]⟩), (.int .i64 0), (.int .i64 0), (.bool false), (.string ⟨#[]⟩), (.int .i64 0), (.int .i64 0), (.bool false), (.string ⟨#[]⟩), (.int .i64 0), (.int .i64 0), (.bool false), (.string ⟨#[]⟩), (.int .i64 0), (.int .i64 0), (.bool false)]), e (.store (some 32) (.t 3) (.t 12))])
 (.seq (.seq (.line [m 13 0, o 14 (.conv (.int .i64) (.t 13)), o 15 (.bin .geq none (.t 14) (.c (.int .i64 8)))])
 (.cond (.t 15) (.seq (.line [o 16 (.build [(.string ⟨#[]⟩), (.int .i64 0), (.int .i64 0), (.bool false)] []), e (.store (some 4) (.t 2) (.t 16))])
  .ret) .skip))
 (.seq (.line [m 17 0, o 18 (.ia (some 8) 4 (.t 3) (.t 17)), o 19 (.load (some 4) (.t 18)), e (.store (some 4) (.t 2) (.t 19))])
 .ret))))⟩
/-- captioner/timebase.Frame -/
def g21 : GFun := ⟨43, [.tmp 6, .tmp 7],
 (.seq (.line [o 6 (.move (.c (.int .i64 0))), o 7 (.move (.c (.int .i64 0)))])
 (.seq (.block 0 (.seq (.line [m 11 0, o 12 (.call (.c (.func (.func 10) #[] #[])) [(.t 11)]), o 13 (.un .not (.t 12)), m 14 13, w 15 14 (.move (.t 2)), w 16 14 (.bin .lss none (.t 15) (.c (.int .u8 1))), o 17 (.pick (.t 14) (.c (.bool true)) (.t 16)), m 18 17, w 19 18 (.move (.t 2)), w 20 18 (.bin .gtr none (.t 19) (.c (.int .u8 3))), o 21 (.pick (.t 18) (.c (.bool true)) (.t 20)), m 10 21])
  (.cond (.t 10) (.seq (.line [o 6 (.move (.c (.int .i64 0))), o 7 (.move (.c (.int .i64 3)))])
   .ret) (.seq (.line [m 23 1, o 24 (.bin .lss none (.t 23) (.c (.int .i64 0))), m 25 24, w 26 25 (.move (.t 1)), w 27 25 (.bin .gtr none (.t 26) (.c (.int .i64 10378368000))), o 28 (.pick (.t 25) (.c (.bool true)) (.t 27)), m 22 28])
   (.cond (.t 22) (.seq (.line [o 6 (.move (.c (.int .i64 0))), o 7 (.move (.c (.int .i64 2)))])
    .ret) .skip)))))
 (.seq (.line [m 30 1, m 31 0, o 32 (.call (.c (.func (.func 9) #[] #[])) [(.t 31)]), m 33 2, o 34 (.call (.c (.func (.func 39) #[] #[])) [(.t 30), (.t 32), (.t 33)]), m 29 34, o 35 (.ext (.t 29) 0), o 36 (.ext (.t 29) 1), m 8 35, m 9 36])
 (.seq (.seq (.line [m 37 8, m 38 0, o 39 (.call (.c (.func (.func 9) #[] #[])) [(.t 38)]), o 40 (.bin .mul none (.t 37) (.t 39)), o 41 (.bin .gtr none (.t 40) (.c (.int .i64 10378368000)))])
 (.cond (.t 41) (.seq (.line [o 6 (.move (.c (.int .i64 0))), o 7 (.move (.c (.int .i64 2)))])
  .ret) .skip))
 (.seq (.line [m 42 8, m 6 42, o 7 (.move (.c (.int .i64 0)))])
 .ret)))))⟩
/-- slices.Clone[[]captioner/api.Region,captioner/api.Region] -/
def g22 : GFun := ⟨8, [.tmp 2],
 (.seq (.line [o 2 (.move (.c (.slice none 0 0)))])
 (.seq (.seq (.line [m 3 0, o 4 (.bin .eql (some .sl) (.t 3) (.c (.slice none 0 0)))])
 (.cond (.t 4) (.seq (.line [o 2 (.move (.c (.slice none 0 0)))])
  .ret) .skip))
 (.seq (.line [o 5 (.buildSl 7 0 [(.string ⟨#[]⟩), (.int .i64 0), (.int .i64 0), (.int .i64 0), (.int .i64 0), (.int .u8 0), (.bool false)] []), m 6 0, o 7 (.app 7 56 7 (.t 5) (.t 6)), m 2 7])
 .ret)))⟩
/-- slices.Clone[[]captioner/api.Comment,captioner/api.Comment] -/
def g23 : GFun := ⟨8, [.tmp 2],
 (.seq (.line [o 2 (.move (.c (.slice none 0 0)))])
 (.seq (.seq (.line [m 3 0, o 4 (.bin .eql (some .sl) (.t 3) (.c (.slice none 0 0)))])
 (.cond (.t 4) (.seq (.line [o 2 (.move (.c (.slice none 0 0)))])
  .ret) .skip))
 (.seq (.line [o 5 (.buildSl 8 0 [(.int .i64 0), (.int .i64 0), (.int .i64 0), (.int .i64 0), (.string ⟨#[]⟩), (.string ⟨#[]⟩), (.bool false), (.bool false)] []), m 6 0, o 7 (.app 8 72 8 (.t 5) (.t 6)), m 2 7])
 .ret)))⟩
/-- slices.Clone[[]captioner/api.Event,captioner/api.Event] -/
def g24 : GFun := ⟨8, [.tmp 2],
 (.seq (.line [o 2 (.move (.c (.slice none 0 0)))])
 (.seq (.seq (.line [m 3 0, o 4 (.bin .eql (some .sl) (.t 3) (.c (.slice none 0 0)))])
 (.cond (.t 4) (.seq (.line [o 2 (.move (.c (.slice none 0 0)))])
  .ret) .skip))
 (.seq (.line [o 5 (.buildSl 7 0 [(.int .i64 0), (.int .i64 0), (.int .i64 0), (.string ⟨#[]⟩), (.int .u8 0), (.string ⟨#[]⟩), (.slice none 0 0)] []), m 6 0, o 7 (.app 7 88 7 (.t 5) (.t 6)), m 2 7])
 .ret)))⟩
/-- captioner/event.Clone -/
def g25 : GFun := ⟨8, [.cell 2 (some 7)],
 (.seq (.line [o 1 (.box (.t 0)), o 2 (.alloc 0 [(.int .i64 0), (.int .i64 0), (.int .i64 0), (.string ⟨#[]⟩), (.int .u8 0), (.string ⟨#[]⟩), (.slice none 0 0)])])
 (.seq (.line [f 3 6 1, l 4 3, o 5 (.call (.c (.func (.func 40) #[] #[])) [(.t 4)]), f 6 6 1, e (.store none (.t 6) (.t 5))])
 (.seq (.line [o 7 (.load (some 7) (.t 1)), e (.store (some 7) (.t 2) (.t 7))])
 .ret)))⟩
/-- captioner/charset.Valid -/
def g26 : GFun := ⟨16, [.tmp 2],
 (.seq (.line [o 2 (.move (.c (.bool false)))])
 (.seq (.seq (.line [m 5 0, o 6 (.call (.c (.func (.func 41) #[] #[])) [(.t 5)]), o 7 (.un .not (.t 6))])
 (.cond (.t 7) (.seq (.line [o 2 (.move (.c (.bool false)))])
  .ret) .skip))
 (.seq (.seq (.line [m 8 0, o 9 (.rng (.t 8))])
 (.block 0 (.loop (.seq (.line [o 10 (.next (.t 9)), o 11 (.ext (.t 10) 0)])
   (.seq (.cond (.t 11) .skip (.exit 0))
   (.block 1 (.seq (.line [o 12 (.ext (.t 10) 2), m 4 12])
    (.seq (.line [m 13 4, o 14 (.call (.c (.func (.func 42) #[] #[])) [(.t 13)]), o 15 (.bin .lss none (.t 14) (.c (.int .i64 0)))])
    (.cond (.t 15) (.seq (.line [o 2 (.move (.c (.bool false)))])
     .ret) .skip)))))))))
 (.seq (.line [o 2 (.move (.c (.bool true)))])
 .ret))))⟩
/-- captioner/lines.Name -/
def g27 : GFun := ⟨54, [.tmp 2],
 (.seq (.line [o 2 (.move (.c (.bool false)))])
 (.seq (.seq (.line [m 5 0, o 6 (.len true (.t 5)), o 7 (.bin .lss none (.t 6) (.c (.int .i64 1))), m 8 7, w 9 8 (.move (.t 0)), w 10 8 (.len true (.t 9)), w 11 8 (.bin .gtr none (.t 10) (.c (.int .i64 16))), o 12 (.pick (.t 8) (.c (.bool true)) (.t 11)), m 13 12, w 14 13 (.move (.t 0)), w 15 13 (.ix none (.t 14) (.c (.int .i64 0))), w 16 13 (.bin .lss none (.t 15) (.c (.int .u8 65))), o 17 (.pick (.t 13) (.c (.bool true)) (.t 16)), m 18 17, w 19 18 (.move (.t 0)), w 20 18 (.ix none (.t 19) (.c (.int .i64 0))), w 21 18 (.bin .gtr none (.t 20) (.c (.int .u8 90))), o 22 (.pick (.t 18) (.c (.bool true)) (.t 21))])
 (.cond (.t 22) (.seq (.line [o 2 (.move (.c (.bool false)))])
  .ret) .skip))
 (.seq (.seq (.line [m 23 0, o 24 (.len true (.t 23)), o 25 (.move (.c (.int .i64 0)))])
 (.block 0 (.loop (.seq (.line [o 26 (.bin .lss none (.t 25) (.t 24))])
   (.seq (.cond (.t 26) .skip (.exit 0))
   (.seq (.block 1 (.seq (.line [m 27 25, m 3 27])
    (.seq (.line [m 28 0, m 29 3, o 30 (.ix none (.t 28) (.t 29)), m 4 30])
    (.seq (.line [m 31 4, o 32 (.bin .lss none (.t 31) (.c (.int .u8 65))), m 33 32, w 34 33 (.move (.t 4)), w 35 33 (.bin .gtr none (.t 34) (.c (.int .u8 90))), o 36 (.pick (.t 33) (.c (.bool true)) (.t 35)), m 37 36, u 38 37 (.move (.t 4)), u 39 37 (.bin .lss none (.t 38) (.c (.int .u8 48))), u 40 37 (.move (.t 39)), w 41 40 (.move (.t 4)), w 42 40 (.bin .gtr none (.t 41) (.c (.int .u8 57))), u 43 37 (.pick (.t 40) (.c (.bool true)) (.t 42)), o 44 (.pick (.t 37) (.t 43) (.c (.bool false))), m 45 44, u 46 45 (.move (.t 4)), u 47 45 (.bin .neq (some .int) (.t 46) (.c (.int .u8 95))), o 48 (.pick (.t 45) (.t 47) (.c (.bool false))), m 49 48, u 50 49 (.move (.t 4)), u 51 49 (.bin .neq (some .int) (.t 50) (.c (.int .u8 45))), o 52 (.pick (.t 49) (.t 51) (.c (.bool false)))])
    (.cond (.t 52) (.seq (.line [o 2 (.move (.c (.bool false)))])
     .ret) .skip)))))
   (.line [o 53 (.bin .add none (.t 25) (.c (.int .i64 1))), m 25 53])))))))
 (.seq (.line [o 2 (.move (.c (.bool true)))])
 .ret))))⟩
/-- captioner/document.rate -/
def g28 : GFun := ⟨16, [.tmp 4],
 (.seq (.line [o 4 (.move (.c (.int .i64 0)))])
 (.seq (.seq (.line [m 5 0, o 6 (.call (.c (.func (.func 10) #[] #[])) [(.t 5)]), o 7 (.un .not (.t 6)), m 8 7, w 9 8 (.move (.t 1)), w 10 8 (.move (.t 9)), u 11 10 (.move (.t 0)), u 12 10 (.call (.c (.func (.func 13) #[] #[])) [(.t 11)]), u 13 10 (.un .not (.t 12)), w 14 8 (.pick (.t 10) (.t 13) (.c (.bool false))), o 15 (.pick (.t 8) (.c (.bool true)) (.t 14))])
 (.cond (.t 15) (.seq (.line [o 4 (.move (.c (.int .i64 13)))])
  .ret) .skip))
 (.seq (.line [o 4 (.move (.c (.int .i64 0)))])
 .ret)))⟩
/-- captioner/region.Check -/
def g29 : GFun := ⟨46, [.tmp 2],
 (.seq (.line [o 1 (.box (.t 0)), o 2 (.move (.c (.int .i64 0)))])
 (.seq (.block 0 (.seq (.line [f 4 0 1, l 5 4, o 6 (.call (.c (.func (.func 27) #[] #[])) [(.t 5)]), o 7 (.un .not (.t 6)), m 3 7])
  (.cond (.t 3) (.seq (.line [o 2 (.move (.c (.int .i64 5)))])
   .ret) (.seq (.line [f 9 1 1, l 10 9, o 11 (.call (.c (.func (.func 43) #[] #[])) [(.t 10), (.c (.int .i64 0)), (.c (.int .i64 14))]), o 12 (.un .not (.t 11)), m 13 12, w 14 13 (.fa 2 (.t 1)), w 15 13 (.load none (.t 14)), w 16 13 (.fa 1 (.t 1)), w 17 13 (.load none (.t 16)), w 18 13 (.bin .sub none (.c (.int .i64 15)) (.t 17)), w 19 13 (.call (.c (.func (.func 43) #[] #[])) [(.t 15), (.c (.int .i64 1)), (.t 18)]), w 20 13 (.un .not (.t 19)), o 21 (.pick (.t 13) (.c (.bool true)) (.t 20)), m 22 21, w 23 22 (.fa 3 (.t 1)), w 24 22 (.load none (.t 23)), w 25 22 (.call (.c (.func (.func 43) #[] #[])) [(.t 24), (.c (.int .i64 0)), (.c (.int .i64 31))]), w 26 22 (.un .not (.t 25)), o 27 (.pick (.t 22) (.c (.bool true)) (.t 26)), m 28 27, w 29 28 (.fa 4 (.t 1)), w 30 28 (.load none (.t 29)), w 31 28 (.fa 3 (.t 1)), w 32 28 (.load none (.t 31)), w 33 28 (.bin .sub none (.c (.int .i64 32)) (.t 32)), w 34 28 (.call (.c (.func (.func 43) #[] #[])) [(.t 30), (.c (.int .i64 1)), (.t 33)]), w 35 28 (.un .not (.t 34)), o 36 (.pick (.t 28) (.c (.bool true)) (.t 35)), m 8 36])
   (.cond (.t 8) (.seq (.line [o 2 (.move (.c (.int .i64 2)))])
    .ret) (.seq (.line [f 38 5 1, l 39 38, o 40 (.bin .lss none (.t 39) (.c (.int .u8 1))), m 41 40, w 42 41 (.fa 5 (.t 1)), w 43 41 (.load none (.t 42)), w 44 41 (.bin .gtr none (.t 43) (.c (.int .u8 3))), o 45 (.pick (.t 41) (.c (.bool true)) (.t 44)), m 37 45])
    (.cond (.t 37) (.seq (.line [o 2 (.move (.c (.int .i64 3)))])
     .ret) .skip)))))))
 (.seq (.line [o 2 (.move (.c (.int .i64 0)))])
 .ret)))⟩
/-- captioner/region.Find -/
def g30 : GFun := ⟨24, [.cell 4 (some 7), .tmp 5],
 (.seq (.line [o 4 (.alloc 0 [(.string ⟨#[]⟩), (.int .i64 0), (.int .i64 0), (.int .i64 0), (.int .i64 0), (.int .u8 0), (.bool false)]), o 5 (.move (.c (.bool false)))])
 (.seq (.seq (.line [m 8 1, o 9 (.bin .eql (some .str) (.t 8) (.c (.string ⟨#[]⟩)))])
 (.cond (.t 9) (.seq (.line [o 10 (.call (.c (.func (.func 44) #[] #[])) []), e (.store (some 7) (.t 4) (.t 10)), o 5 (.move (.c (.bool true)))])
  .ret) .skip))
 (.seq (.seq (.line [m 11 0, o 12 (.len false (.t 11)), o 13 (.move (.c (.int .i64 0)))])
 (.block 0 (.loop (.seq (.line [o 14 (.bin .lss none (.t 13) (.t 12))])
   (.seq (.cond (.t 14) .skip (.exit 0))
   (.seq (.block 1 (.seq (.line [o 15 (.ia none 7 (.t 11) (.t 13)), o 16 (.load (some 7) (.t 15)), o 7 (.alloc 0 [(.string ⟨#[]⟩), (.int .i64 0), (.int .i64 0), (.int .i64 0), (.int .i64 0), (.int .u8 0), (.bool false)]), e (.store (some 7) (.t 7) (.t 16))])
    (.seq (.line [f 17 0 7, l 18 17, m 19 1, o 20 (.bin .eql (some .str) (.t 18) (.t 19))])
    (.cond (.t 20) (.seq (.line [o 21 (.load (some 7) (.t 7)), e (.store (some 7) (.t 4) (.t 21)), o 5 (.move (.c (.bool true)))])
     .ret) .skip))))
   (.line [o 22 (.bin .add none (.t 13) (.c (.int .i64 1))), m 13 22])))))))
 (.seq (.line [o 23 (.build [(.string ⟨#[]⟩), (.int .i64 0), (.int .i64 0), (.int .i64 0), (.int .i64 0), (.int .u8 0), (.bool false)] []), e (.store (some 7) (.t 4) (.t 23)), o 5 (.move (.c (.bool false)))])
 .ret))))⟩
/-- captioner/event.spans -/
def g31 : GFun := ⟨18, [.tmp 2],
 (.seq (.line [o 1 (.box (.t 0)), o 2 (.move (.c (.bool false)))])
 (.seq (.line [f 3 0 1, l 4 3, o 5 (.bin .geq none (.t 4) (.c (.int .i64 0))), m 6 5, u 7 6 (.fa 0 (.t 1)), u 8 6 (.load none (.t 7)), u 9 6 (.fa 1 (.t 1)), u 10 6 (.load none (.t 9)), u 11 6 (.bin .lss none (.t 8) (.t 10)), o 12 (.pick (.t 6) (.t 11) (.c (.bool false))), m 13 12, u 14 13 (.fa 1 (.t 1)), u 15 13 (.load none (.t 14)), u 16 13 (.bin .leq none (.t 15) (.c (.int .i64 5184000))), o 17 (.pick (.t 13) (.t 16) (.c (.bool false))), m 2 17])
 .ret))⟩
/-- captioner/event.KindName -/
def g32 : GFun := ⟨14, [.tmp 2],
 (.seq (.line [o 2 (.move (.c (.string ⟨#[]⟩)))])
 (.seq (.seq (.line [m 3 0, o 4 (.bin .lss none (.t 3) (.c (.int .u8 1))), m 5 4, w 6 5 (.move (.t 0)), w 7 5 (.bin .gtr none (.t 6) (.c (.int .u8 4))), o 8 (.pick (.t 5) (.c (.bool true)) (.t 7))])
 (.cond (.t 8) (.seq (.line [o 2 (.move (.c (.string ⟨#[]⟩)))])
  .ret) .skip))
 (.seq (.line [o 9 (.call (.c (.func (.func 45) #[] #[])) []), m 10 0, o 11 (.bin .sub none (.t 10) (.c (.int .u8 1))), o 12 (.ia none 1 (.t 9) (.t 11)), l 13 12, m 2 13])
 .ret)))⟩
/-- captioner/event.row -/
def g33 : GFun := ⟨34, [.tmp 2],
 (.seq (.line [o 1 (.box (.t 0)), o 2 (.move (.c (.int .i64 0)))])
 (.seq (.seq (.line [o 5 (.load (some 1) (.t 1)), o 6 (.call (.c (.func (.func 46) #[] #[])) [(.t 5)]), m 3 6])
 (.seq (.line [m 7 3, o 8 (.bin .neq (some .int) (.t 7) (.c (.int .i64 0)))])
 (.cond (.t 8) (.seq (.line [m 9 3, m 2 9])
  .ret) .skip)))
 (.seq (.line [o 10 (.load (some 1) (.t 1)), o 11 (.call (.c (.func (.func 47) #[] #[])) [(.t 10)]), m 4 11])
 (.seq (.seq (.line [m 12 4, o 13 (.bin .eql (some .str) (.t 12) (.c (.string ⟨#[]⟩))), m 14 13, w 15 14 (.move (.t 4)), w 16 14 (.ix none (.t 15) (.c (.int .i64 0))), w 17 14 (.bin .eql (some .int) (.t 16) (.c (.int .u8 32))), o 18 (.pick (.t 14) (.c (.bool true)) (.t 17)), m 19 18, w 20 19 (.move (.t 4)), w 21 19 (.move (.t 4)), w 22 19 (.len true (.t 21)), w 23 19 (.bin .sub none (.t 22) (.c (.int .i64 1))), w 24 19 (.ix none (.t 20) (.t 23)), w 25 19 (.bin .eql (some .int) (.t 24) (.c (.int .u8 32))), o 26 (.pick (.t 19) (.c (.bool true)) (.t 25)), m 27 26, w 28 27 (.move (.t 4)), w 29 27 (.call (.c (.func (.func 48) #[] #[])) [(.t 28), (.c (.string ⟨#[32, 32]⟩))]), o 30 (.pick (.t 27) (.c (.bool true)) (.t 29))])
 (.cond (.t 30) (.seq (.line [o 2 (.move (.c (.int .i64 4)))])
  .ret) .skip))
 (.seq (.seq (.line [o 31 (.load (some 1) (.t 1)), o 32 (.call (.c (.func (.func 49) #[] #[])) [(.t 31)]), o 33 (.bin .gtr none (.t 32) (.c (.int .i64 32)))])
 (.cond (.t 33) (.seq (.line [o 2 (.move (.c (.int .i64 11)))])
  .ret) .skip))
 (.seq (.line [o 2 (.move (.c (.int .i64 0)))])
 .ret))))))⟩
/-- captioner/region.Place -/
def g34 : GFun := ⟨81, [.tmp 4, .tmp 5],
 (.seq (.line [o 2 (.box (.t 0)), o 4 (.move (.c (.slice none 0 0))), o 5 (.move (.c (.int .i64 0)))])
 (.seq (.block 0 (.seq (.line [o 12 (.load (some 7) (.t 2)), o 13 (.call (.c (.func (.func 50) #[] #[])) [(.t 12)]), o 14 (.un .not (.t 13)), m 11 14])
  (.cond (.t 11) (.seq (.line [o 4 (.move (.c (.slice none 0 0))), o 5 (.move (.c (.int .i64 1)))])
   .ret) (.seq (.line [m 16 1, o 17 (.len false (.t 16)), f 18 2 2, l 19 18, o 20 (.bin .gtr none (.t 17) (.t 19)), m 15 20])
   (.cond (.t 15) (.seq (.line [o 4 (.move (.c (.slice none 0 0))), o 5 (.move (.c (.int .i64 9)))])
    .ret) .skip)))))
 (.seq (.line [f 21 1 2, l 22 21, m 6 22])
 (.seq (.seq (.line [f 23 6 2, l 24 23])
 (.cond (.t 24) (.line [m 25 6, f 26 2 2, l 27 26, m 28 1, o 29 (.len false (.t 28)), o 30 (.bin .sub none (.t 27) (.t 29)), o 31 (.bin .add none (.t 25) (.t 30)), m 6 31]) .skip))
 (.seq (.line [o 7 (.move (.c (.slice none 0 0)))])
 (.seq (.seq (.line [m 32 1, o 33 (.len false (.t 32)), o 34 (.move (.c (.int .i64 0)))])
 (.block 1 (.loop (.seq (.line [o 35 (.bin .lss none (.t 34) (.t 33))])
   (.seq (.cond (.t 35) .skip (.exit 1))
   (.seq (.block 2 (.seq (.line [m 36 34, o 37 (.ia none 1 (.t 32) (.t 34)), l 38 37, m 8 36, m 9 38])
    (.seq (.seq (.line [m 39 9, o 40 (.bin .lss none (.t 39) (.c (.int .i64 0)))])
    (.cond (.t 40) (.seq (.line [o 4 (.move (.c (.slice none 0 0))), o 5 (.move (.c (.int .i64 2)))])
     .ret) .skip))
    (.seq (.seq (.line [m 41 9, f 42 4 2, l 43 42, o 44 (.bin .gtr none (.t 41) (.t 43))])
    (.cond (.t 44) (.seq (.line [o 4 (.move (.c (.slice none 0 0))), o 5 (.move (.c (.int .i64 11)))])
     .ret) .skip))
    (.seq (.line [m 45 6, m 46 8, o 47 (.bin .add none (.t 45) (.t 46)), f 48 3 2, l 49 48, m 50 9, o 51 (.build [(.int .i64 0), (.int .i64 0), (.int .i64 0)] [(0, 1, (.t 47)), (1, 1, (.t 49)), (2, 1, (.t 50))]), o 10 (.alloc 0 [(.int .i64 0), (.int .i64 0), (.int .i64 0)]), e (.store (some 3) (.t 10) (.t 51))])
    (.seq (.seq (.line [f 52 5 2, l 53 52])
    (.block 3 (.seq (.line [o 55 (.bin .eql (some .int) (.t 53) (.c (.int .u8 3))), m 54 55])
     (.cond (.t 54) (.line [f 56 1 10, l 57 56, f 58 4 2, l 59 58, m 60 9, o 61 (.bin .sub none (.t 59) (.t 60)), o 62 (.bin .add none (.t 57) (.t 61)), f 63 1 10, e (.store none (.t 63) (.t 62))]) (.seq (.line [o 65 (.bin .eql (some .int) (.t 53) (.c (.int .u8 2))), m 64 65])
      (.cond (.t 64) (.line [f 66 1 10, l 67 66, f 68 4 2, l 69 68, m 70 9, o 71 (.bin .sub none (.t 69) (.t 70)), o 72 (.bin .quo none (.t 71) (.c (.int .i64 2))), o 73 (.bin .add none (.t 67) (.t 72)), f 74 1 10, e (.store none (.t 74) (.t 73))]) .skip))))))
    (.line [m 75 7, o 76 (.load (some 3) (.t 10)), o 77 (.buildSl 3 1 [(.int .i64 0), (.int .i64 0), (.int .i64 0)] [(0, 3, (.t 76))]), o 78 (.app 3 24 3 (.t 75) (.t 77)), m 7 78])))))))
   (.line [o 79 (.bin .add none (.t 34) (.c (.int .i64 1))), m 34 79])))))))
 (.seq (.line [m 80 7, m 4 80, o 5 (.move (.c (.int .i64 0)))])
 .ret)))))))⟩
/-- captioner/event.lens -/
def g35 : GFun := ⟨20, [.tmp 2],
 (.seq (.line [o 1 (.box (.t 0)), o 2 (.move (.c (.slice none 0 0)))])
 (.seq (.line [o 3 (.move (.c (.slice none 0 0)))])
 (.seq (.seq (.line [f 6 6 1, l 7 6, o 8 (.len false (.t 7)), o 9 (.move (.c (.int .i64 0)))])
 (.block 0 (.loop (.seq (.line [o 10 (.bin .lss none (.t 9) (.t 8))])
   (.seq (.cond (.t 10) .skip (.exit 0))
   (.seq (.block 1 (.seq (.line [o 11 (.ia none 1 (.t 7) (.t 9)), o 12 (.load (some 1) (.t 11)), o 5 (.alloc 0 [(.slice none 0 0)]), e (.store (some 1) (.t 5) (.t 12))])
    (.line [m 13 3, o 14 (.load (some 1) (.t 5)), o 15 (.call (.c (.func (.func 49) #[] #[])) [(.t 14)]), o 16 (.buildSl 1 1 [(.int .i64 0)] [(0, 1, (.t 15))]), o 17 (.app 1 8 1 (.t 13) (.t 16)), m 3 17])))
   (.line [o 18 (.bin .add none (.t 9) (.c (.int .i64 1))), m 9 18])))))))
 (.seq (.line [m 19 3, m 2 19])
 .ret))))⟩
/-- cmp.Or[int] -/
def g36 : GFun := ⟨18, [.tmp 2],
 (.seq (.line [o 2 (.move (.c (.int .i64 0)))])
 (.seq (.line [o 3 (.move (.c (.int .i64 0)))])
 (.seq (.seq (.line [m 6 0, o 7 (.len false (.t 6)), o 8 (.move (.c (.int .i64 0)))])
 (.block 0 (.loop (.seq (.line [o 9 (.bin .lss none (.t 8) (.t 7))])
   (.seq (.cond (.t 9) .skip (.exit 0))
   (.seq (.block 1 (.seq (.line [o 10 (.ia none 1 (.t 6) (.t 8)), l 11 10, m 5 11])
    (.seq (.line [m 12 5, m 13 3, o 14 (.bin .neq (some .int) (.t 12) (.t 13))])
    (.cond (.t 14) (.seq (.line [m 15 5, m 2 15])
     .ret) .skip))))
   (.line [o 16 (.bin .add none (.t 8) (.c (.int .i64 1))), m 8 16])))))))
 (.seq (.line [m 17 3, m 2 17])
 .ret))))⟩
/-- cmp.Compare[int64] -/
def g37 : GFun := ⟨20, [.tmp 4],
 (.seq (.line [o 4 (.move (.c (.int .i64 0)))])
 (.seq (.line [m 7 0, o 8 (.call (.c (.func (.func 51) #[] #[])) [(.t 7)]), m 5 8])
 (.seq (.line [m 9 1, o 10 (.call (.c (.func (.func 51) #[] #[])) [(.t 9)]), m 6 10])
 (.seq (.seq (.line [m 11 5])
 (.cond (.t 11) (.seq (.seq (.line [m 12 6])
  (.cond (.t 12) (.seq (.line [o 4 (.move (.c (.int .i64 0)))])
   .ret) .skip))
  (.seq (.line [o 4 (.move (.c (.int .i64 (-1))))])
  .ret)) .skip))
 (.seq (.seq (.line [m 13 6])
 (.cond (.t 13) (.seq (.line [o 4 (.move (.c (.int .i64 1)))])
  .ret) .skip))
 (.seq (.seq (.line [m 14 0, m 15 1, o 16 (.bin .lss none (.t 14) (.t 15))])
 (.cond (.t 16) (.seq (.line [o 4 (.move (.c (.int .i64 (-1))))])
  .ret) .skip))
 (.seq (.seq (.line [m 17 0, m 18 1, o 19 (.bin .gtr none (.t 17) (.t 18))])
 (.cond (.t 19) (.seq (.line [o 4 (.move (.c (.int .i64 1)))])
  .ret) .skip))
 (.seq (.line [o 4 (.move (.c (.int .i64 0)))])
 .ret))))))))⟩
/-- captioner/document.anchored -/
def g38 : GFun := ⟨59, [.tmp 6],
 (.seq (.line [o 3 (.box (.t 0)), o 4 (.box (.t 1)), o 6 (.move (.c (.int .i64 0)))])
 (.seq (.seq (.line [f 9 1 4, l 10 9, o 11 (.bin .lss none (.t 10) (.c (.int .i64 1))), m 12 11, w 13 12 (.fa 1 (.t 4)), w 14 12 (.load none (.t 13)), w 15 12 (.fa 4 (.t 3)), w 16 12 (.load none (.t 15)), w 17 12 (.bin .gtr none (.t 14) (.t 16)), o 18 (.pick (.t 12) (.c (.bool true)) (.t 17))])
 (.cond (.t 18) (.seq (.line [o 6 (.move (.c (.int .i64 2)))])
  .ret) .skip))
 (.seq (.seq (.line [f 19 7 4, l 20 19])
 (.cond (.t 20) (.seq (.seq (.line [f 21 2 4, l 22 21, o 23 (.bin .neq (some .int) (.t 22) (.c (.int .i64 0))), m 24 23, w 25 24 (.fa 3 (.t 4)), w 26 24 (.load none (.t 25)), w 27 24 (.bin .neq (some .int) (.t 26) (.c (.int .i64 0))), o 28 (.pick (.t 24) (.c (.bool true)) (.t 27))])
  (.cond (.t 28) (.seq (.line [o 6 (.move (.c (.int .i64 2)))])
   .ret) .skip))
  (.seq (.line [o 6 (.move (.c (.int .i64 0)))])
  .ret)) .skip))
 (.seq (.line [m 30 2, f 31 1 4, l 32 31, o 33 (.look (.int .i64 0) true (.t 30) (.t 32)), m 29 33, o 34 (.ext (.t 29) 0), o 35 (.ext (.t 29) 1), m 7 34, m 8 35])
 (.seq (.seq (.line [m 36 8, o 37 (.un .not (.t 36))])
 (.cond (.t 37) (.seq (.line [o 6 (.move (.c (.int .i64 6)))])
  .ret) .skip))
 (.seq (.seq (.any [] [f 38 2 4, l 39 38, o 40 (.bin .lss none (.t 39) (.c (.int .i64 0))), m 41 40, w 42 41 (.fa 2 (.t 4)), w 43 41 (.load none (.t 42)), w 44 41 (.fa 3 (.t 4)), w 45 41 (.load none (.t 44)), w 46 41 (.bin .geq none (.t 43) (.t 45)), o 47 (.pick (.t 41) (.c (.bool true)) (.t 46)), m 48 47, w 49 48 (.fa 3 (.t 4)), w 50 48 (.load none (.t 49)), w 51 48 (.fa 6 (.t 3)), w 52 48 (.load none (.t 51)), w 53 48 (.move (.t 7)), w 54 48 (.ia none 7 (.t 52) (.t 53)), w 55 48 (.load (some 7) (.t 54)), w 56 48 (.call (.c (.func (.func 52) #[] #[])) [(.t 55)]), w 57 48 (.bin .gtr none (.t 50) (.t 56)), o 58 (.pick (.t 48) (.c (.bool true)) (.t 57))] [])
 (.cond (.t 58) (.seq (.line [o 6 (.move (.c (.int .i64 2)))])
  .ret) .skip))
 (.seq (.line [o 6 (.move (.c (.int .i64 0)))])
 .ret)))))))⟩
/-- captioner/ratio.Quotient -/
def g39 : GFun := ⟨51, [.tmp 6, .tmp 7],
 (.seq (.line [o 6 (.move (.c (.int .i64 0))), o 7 (.move (.c (.int .i64 0)))])
 (.seq (.block 0 (.seq (.line [m 12 1, o 13 (.bin .eql (some .int) (.t 12) (.c (.int .i64 0))), m 11 13])
  (.cond (.t 11) (.seq (.line [o 6 (.move (.c (.int .i64 0))), o 7 (.move (.c (.int .i64 1)))])
   .ret) (.seq (.line [m 15 2, o 16 (.call (.c (.func (.func 53) #[] #[])) [(.t 15)]), o 17 (.un .not (.t 16)), m 14 17])
   (.cond (.t 14) (.seq (.line [o 6 (.move (.c (.int .i64 0))), o 7 (.move (.c (.int .i64 3)))])
    .ret) .skip)))))
 (.seq (.line [m 18 0, o 19 (.bin .lss none (.t 18) (.c (.int .i64 0))), m 20 1, o 21 (.bin .lss none (.t 20) (.c (.int .i64 0))), o 22 (.bin .neq (some .bool) (.t 19) (.t 21)), m 8 22])
 (.seq (.any [] [m 23 0, o 24 (.call (.c (.func (.func 54) #[] #[])) [(.t 23)]), m 25 1, o 26 (.call (.c (.func (.func 54) #[] #[])) [(.t 25)]), o 27 (.bin .quo none (.t 24) (.t 26)), m 28 0, o 29 (.call (.c (.func (.func 54) #[] #[])) [(.t 28)]), m 30 1, o 31 (.call (.c (.func (.func 54) #[] #[])) [(.t 30)]), o 32 (.bin .rem none (.t 29) (.t 31)), m 9 27, m 10 32] [])
 (.seq (.seq (.line [m 33 8, m 34 10, m 35 1, o 36 (.call (.c (.func (.func 54) #[] #[])) [(.t 35)]), m 37 2, o 38 (.call (.c (.func (.func 55) #[] #[])) [(.t 33), (.t 34), (.t 36), (.t 37)])])
 (.cond (.t 38) (.line [m 39 9, o 40 (.bin .add none (.t 39) (.c (.int .u64 1))), m 9 40]) .skip))
 (.seq (.block 1 (.seq (.line [m 42 8, m 41 42])
  (.cond (.t 41) (.seq (.line [m 43 9, o 44 (.un .neg (.t 43)), o 45 (.conv (.int .i64) (.t 44)), m 6 45, o 7 (.move (.c (.int .i64 0)))])
   .ret) (.seq (.line [m 47 9, o 48 (.bin .gtr none (.t 47) (.c (.int .u64 9223372036854775807))), m 46 48])
   (.cond (.t 46) (.seq (.line [o 6 (.move (.c (.int .i64 0))), o 7 (.move (.c (.int .i64 2)))])
    .ret) .skip)))))
 (.seq (.line [m 49 9, o 50 (.conv (.int .i64) (.t 49)), m 6 50, o 7 (.move (.c (.int .i64 0)))])
 .ret)))))))⟩
/-- captioner/style.Clone -/
def g40 : GFun := ⟨24, [.tmp 2],
 (.seq (.line [o 2 (.move (.c (.slice none 0 0)))])
 (.seq (.line [m 5 0, o 6 (.call (.c (.func (.func 56) #[] #[])) [(.t 5)]), m 3 6])
 (.seq (.seq (.line [m 7 3, o 8 (.len false (.t 7)), o 9 (.move (.c (.int .i64 0)))])
 (.block 0 (.loop (.seq (.line [o 10 (.bin .lss none (.t 9) (.t 8))])
   (.seq (.cond (.t 10) .skip (.exit 0))
   (.seq (.block 1 (.seq (.line [m 11 9, m 4 11])
    (.line [m 12 3, m 13 4, m 14 3, m 15 4, o 16 (.ia none 1 (.t 14) (.t 15)), f 17 0 16, l 18 17, o 19 (.call (.c (.func (.func 57) #[] #[])) [(.t 18)]), o 20 (.ia none 1 (.t 12) (.t 13)), f 21 0 20, e (.store none (.t 21) (.t 19))])))
   (.line [o 22 (.bin .add none (.t 9) (.c (.int .i64 1))), m 9 22])))))))
 (.seq (.line [m 23 3, m 2 23])
 .ret))))⟩

/-- captioner/charset.Index -/
def g42 : GFun := ⟨14, [.tmp 2],
 (.seq (.line [o 2 (.move (.c (.int .i64 0)))])
 (.seq (.seq (.line [m 3 0, o 4 (.bin .geq none (.t 3) (.c (.int .i32 32))), m 5 4, u 6 5 (.move (.t 0)), u 7 5 (.bin .leq none (.t 6) (.c (.int .i32 126))), o 8 (.pick (.t 5) (.t 7) (.c (.bool false)))])
 (.cond (.t 8) (.seq (.line [m 9 0, o 10 (.bin .sub none (.t 9) (.c (.int .i32 32))), o 11 (.conv (.int .i64) (.t 10)), m 2 11])
  .ret) .skip))
 (.seq (.line [m 12 0, o 13 (.call (.c (.func (.func 59) #[] #[])) [(.c (.string ⟨#[32, 33, 34, 35, 36, 37, 38, 39, 40, 41, 42, 43, 44, 45, 46, 47, 48, 49, 50, 51, 52, 53, 54, 55, 56, 57, 58, 59, 60, 61, 62, 63, 64, 65, 66, 67, 68, 69, 70, 71, 72, 73, 74, 75, 76, 77, 78, 79, 80, 81, 82, 83, 84, 85, 86, 87, 88, 89, 90, 91, 92, 93, 94, 95, 96, 97, 98, 99, 100, 101, 102, 103, 104, 105, 106, 107, 108, 109, 110, 111, 112, 113, 114, 115, 116, 117, 118, 119, 120, 121, 122, 123, 124, 125, 126, 194, 161, 194, 162, 194, 163, 194, 164, 194, 165, 194, 166, 194, 167, 194, 169, 194, 171, 194, 174, 194, 176, 194, 183, 194, 187, 194, 189, 194, 191, 195, 128, 195, 129, 195, 130, 195, 131, 195, 132, 195, 133, 195, 134, 195, 135, 195, 136, 195, 137, 195, 138, 195, 139, 195, 140, 195, 141, 195, 142, 195, 143, 195, 145, 195, 146, 195, 147, 195, 148, 195, 149, 195, 150, 195, 152, 195, 153, 195, 154, 195, 155, 195, 156, 195, 159, 195, 160, 195, 161, 195, 162, 195, 163, 195, 164, 195, 165, 195, 166, 195, 167, 195, 168, 195, 169, 195, 170, 195, 171, 195, 172, 195, 173, 195, 174, 195, 175, 195, 177, 195, 178, 195, 179, 195, 180, 195, 181, 195, 182, 195, 184, 195, 185, 195, 186, 195, 187, 195, 188, 197, 146, 197, 147, 226, 128, 148, 226, 128, 152, 226, 128, 153, 226, 128, 156, 226, 128, 157, 226, 128, 162, 226, 128, 166, 226, 132, 162, 226, 153, 170]⟩)), (.t 12)]), m 2 13])
 .ret)))⟩
/-- captioner/region.from -/
def g43 : GFun := ⟨15, [.tmp 6],
 (.seq (.line [o 6 (.move (.c (.bool false)))])
 (.seq (.line [m 7 0, m 8 1, o 9 (.bin .geq none (.t 7) (.t 8)), m 10 9, u 11 10 (.move (.t 0)), u 12 10 (.move (.t 2)), u 13 10 (.bin .leq none (.t 11) (.t 12)), o 14 (.pick (.t 10) (.t 13) (.c (.bool false))), m 6 14])
 .ret))⟩
/-- captioner/region.Default -/
def g44 : GFun := ⟨2, [.cell 0 (some 7)],
 (.seq (.line [o 0 (.alloc 0 [(.string ⟨#[]⟩), (.int .i64 0), (.int .i64 0), (.int .i64 0), (.int .i64 0), (.int .u8 0), (.bool false)])])
 (.seq (.line [o 1 (.build [(.string ⟨#[]⟩), (.int .i64 0), (.int .i64 0), (.int .i64 0), (.int .i64 0), (.int .u8 0), (.bool false)] [(1, 1, (.c (.int .i64 11))), (2, 1, (.c (.int .i64 4))), (4, 1, (.c (.int .i64 32))), (5, 1, (.c (.int .u8 2))), (6, 1, (.c (.bool true)))]), e (.store (some 7) (.t 0) (.t 1))])
 .ret))⟩
/-- captioner/event.kinds -/
def g45 : GFun := ⟨2, [.tmp 0],
 (.seq (.line [o 0 (.move (.c (.slice none 0 0)))])
 (.seq (.line [o 1 (.buildSl 1 4 [(.string ⟨#[]⟩)] [(0, 1, (.c (.string ⟨#[68, 73, 65, 76, 79, 71, 85, 69]⟩))), (1, 1, (.c (.string ⟨#[83, 79, 85, 78, 68]⟩))), (2, 1, (.c (.string ⟨#[84, 73, 84, 76, 69]⟩))), (3, 1, (.c (.string ⟨#[77, 85, 83, 73, 67]⟩)))]), m 0 1])
 .ret))⟩
/-- captioner/style.Check -/
def g46 : GFun := ⟨50, [.tmp 2],
 (.seq (.line [o 1 (.box (.t 0)), o 2 (.move (.c (.int .i64 0)))])
 (.seq (.seq (.line [f 5 0 1, l 6 5, o 7 (.len false (.t 6)), o 8 (.bin .gtr none (.t 7) (.c (.int .i64 16)))])
 (.cond (.t 8) (.seq (.line [o 2 (.move (.c (.int .i64 9)))])
  .ret) .skip))
 (.seq (.seq (.line [f 9 0 1, l 10 9, o 11 (.len false (.t 10)), o 12 (.move (.c (.int .i64 0)))])
 (.block 0 (.loop (.seq (.line [o 13 (.bin .lss none (.t 12) (.t 11))])
   (.seq (.cond (.t 13) .skip (.exit 0))
   (.seq (.block 1 (.seq (.line [m 14 12, o 15 (.ia none 5 (.t 10) (.t 12)), o 16 (.load (some 5) (.t 15)), o 4 (.alloc 0 [(.string ⟨#[]⟩), (.int .u8 0), (.bool false), (.bool false), (.string ⟨#[]⟩)]), m 3 14, e (.store (some 5) (.t 4) (.t 16))])
    (.block 2 (.seq (.line [f 18 0 4, l 19 18, o 20 (.call (.c (.func (.func 26) #[] #[])) [(.t 19)]), o 21 (.un .not (.t 20)), m 17 21])
     (.cond (.t 17) (.seq (.line [o 2 (.move (.c (.int .i64 10)))])
      .ret) (.seq (.line [f 23 0 4, l 24 23, o 25 (.bin .eql (some .str) (.t 24) (.c (.string ⟨#[]⟩))), m 22 25])
      (.cond (.t 22) (.seq (.line [o 2 (.move (.c (.int .i64 4)))])
       .ret) (.seq (.line [f 27 1 4, o 28 (.load (some 3) (.t 27)), o 29 (.call (.c (.func (.func 60) #[] #[])) [(.t 28)]), o 30 (.un .not (.t 29)), m 26 30])
       (.cond (.t 26) (.seq (.line [o 2 (.move (.c (.int .i64 12)))])
        .ret) (.seq (.line [f 32 4 4, l 33 32, o 34 (.call (.c (.func (.func 26) #[] #[])) [(.t 33)]), o 35 (.un .not (.t 34)), m 31 35])
        (.cond (.t 31) (.seq (.line [o 2 (.move (.c (.int .i64 10)))])
         .ret) (.seq (.any [] [m 37 3, o 38 (.bin .gtr none (.t 37) (.c (.int .i64 0))), m 39 38, u 40 39 (.fa 0 (.t 1)), u 41 39 (.load none (.t 40)), u 42 39 (.move (.t 3)), u 43 39 (.bin .sub none (.t 42) (.c (.int .i64 1))), u 44 39 (.ia none 5 (.t 41) (.t 43)), u 45 39 (.load (some 5) (.t 44)), u 46 39 (.load (some 5) (.t 4))] [(false, u 47 39 (.call (.c (.func (.func 61) #[] #[])) [(.t 45), (.t 46)])), (false, o 48 (.pick (.t 39) (.t 47) (.c (.bool false)))), (false, m 36 48)])
         (.cond (.t 36) (.seq (.line [o 2 (.move (.c (.int .i64 8)))])
          .ret) .skip)))))))))))))
   (.line [o 49 (.bin .add none (.t 12) (.c (.int .i64 1))), m 12 49])))))))
 (.seq (.line [o 2 (.move (.c (.int .i64 0)))])
 .ret))))⟩
/-- captioner/style.Plain -/
def g47 : GFun := ⟨18, [.tmp 2],
 (.seq (.line [o 1 (.box (.t 0)), o 2 (.move (.c (.string ⟨#[]⟩)))])
 (.seq (.line [o 3 (.alloc 258 [(.pointer none), (.slice none 0 0)])])
 (.seq (.seq (.line [f 6 0 1, l 7 6, o 8 (.len false (.t 7)), o 9 (.move (.c (.int .i64 0)))])
 (.block 0 (.loop (.seq (.line [o 10 (.bin .lss none (.t 9) (.t 8))])
   (.seq (.cond (.t 10) .skip (.exit 0))
   (.seq (.block 1 (.seq (.line [o 11 (.ia none 5 (.t 7) (.t 9)), o 12 (.load (some 5) (.t 11)), o 5 (.alloc 0 [(.string ⟨#[]⟩), (.int .u8 0), (.bool false), (.bool false), (.string ⟨#[]⟩)]), e (.store (some 5) (.t 5) (.t 12))])
    (.line [f 13 0 5, l 14 13, o 15 (.call (.c (.func (.func 62) #[] #[])) [(.t 3), (.t 14)])])))
   (.line [o 16 (.bin .add none (.t 9) (.c (.int .i64 1))), m 9 16])))))))
 (.seq (.line [o 17 (.call (.c (.func (.func 63) #[] #[])) [(.t 3)]), m 2 17])
 .ret))))⟩

/-- captioner/style.Len -/
def g49 : GFun := ⟨24, [.tmp 2],
 (.seq (.line [o 1 (.box (.t 0)), o 2 (.move (.c (.int .i64 0)))])
 (.seq (.line [o 3 (.move (.c (.int .i64 0)))])
 (.seq (.seq (.line [f 7 0 1, l 8 7, o 9 (.len false (.t 8)), o 10 (.move (.c (.int .i64 0)))])
 (.block 0 (.loop (.seq (.line [o 11 (.bin .lss none (.t 10) (.t 9))])
   (.seq (.cond (.t 11) .skip (.exit 0))
   (.seq (.block 1 (.seq (.line [o 12 (.ia none 5 (.t 8) (.t 10)), o 13 (.load (some 5) (.t 12)), o 5 (.alloc 0 [(.string ⟨#[]⟩), (.int .u8 0), (.bool false), (.bool false), (.string ⟨#[]⟩)]), e (.store (some 5) (.t 5) (.t 13))])
    (.seq (.line [f 14 0 5, l 15 14, o 16 (.call (.c (.func (.func 65) #[] #[])) [(.t 15)]), m 6 16])
    (.seq (.seq (.line [m 17 6, o 18 (.bin .lss none (.t 17) (.c (.int .i64 0)))])
    (.cond (.t 18) (.seq (.line [o 2 (.move (.c (.int .i64 (-1))))])
     .ret) .skip))
    (.line [m 19 3, m 20 6, o 21 (.bin .add none (.t 19) (.t 20)), m 3 21])))))
   (.line [o 22 (.bin .add none (.t 10) (.c (.int .i64 1))), m 10 22])))))))
 (.seq (.line [m 23 3, m 2 23])
 .ret))))⟩
/-- captioner/region.usable -/
def g50 : GFun := ⟨11, [.tmp 2],
 (.seq (.line [o 1 (.box (.t 0)), o 2 (.move (.c (.bool false)))])
 (.seq (.any [] [o 3 (.load (some 7) (.t 1)), o 4 (.call (.c (.func (.func 44) #[] #[])) []), o 5 (.bin .eql (some (.parts [(0, none, .str), (1, none, .int), (2, none, .int), (3, none, .int), (4, none, .int), (5, none, .int), (6, none, .bool)])) (.t 3) (.t 4)), m 6 5, w 7 6 (.load (some 7) (.t 1)), w 8 6 (.call (.c (.func (.func 29) #[] #[])) [(.t 7)]), w 9 6 (.bin .eql (some .int) (.t 8) (.c (.int .i64 0))), o 10 (.pick (.t 6) (.c (.bool true)) (.t 9)), m 2 10] [])
 .ret))⟩
/-- cmp.isNaN[int64] -/
def g51 : GFun := ⟨6, [.tmp 2],
 (.seq (.line [o 2 (.move (.c (.bool false)))])
 (.seq (.line [m 3 0, m 4 0, o 5 (.bin .neq (some .int) (.t 3) (.t 4)), m 2 5])
 .ret))⟩
/-- captioner/event.Len -/
def g52 : GFun := ⟨25, [.tmp 2],
 (.seq (.line [o 1 (.box (.t 0)), o 2 (.move (.c (.int .i64 0)))])
 (.seq (.line [f 6 6 1, l 7 6, o 8 (.len false (.t 7)), o 9 (.bin .sub none (.t 8) (.c (.int .i64 1))), o 10 (.max (.t 9) [(.c (.int .i64 0))]), m 3 10])
 (.seq (.seq (.line [o 11 (.load (some 7) (.t 1)), o 12 (.call (.c (.func (.func 35) #[] #[])) [(.t 11)]), o 13 (.len false (.t 12)), o 14 (.move (.c (.int .i64 0)))])
 (.block 0 (.loop (.seq (.line [o 15 (.bin .lss none (.t 14) (.t 13))])
   (.seq (.cond (.t 15) .skip (.exit 0))
   (.seq (.block 1 (.seq (.line [o 16 (.ia none 1 (.t 12) (.t 14)), l 17 16, m 5 17])
    (.seq (.seq (.line [m 18 5, o 19 (.bin .lss none (.t 18) (.c (.int .i64 0)))])
    (.cond (.t 19) (.seq (.line [o 2 (.move (.c (.int .i64 (-1))))])
     .ret) .skip))
    (.line [m 20 3, m 21 5, o 22 (.bin .add none (.t 20) (.t 21)), m 3 22]))))
   (.line [o 23 (.bin .add none (.t 14) (.c (.int .i64 1))), m 14 23])))))))
 (.seq (.line [m 24 3, m 2 24])
 .ret))))⟩
/-- captioner/ratio.known -/
def g53 : GFun := ⟨9, [.tmp 2],
 (.seq (.line [o 2 (.move (.c (.bool false)))])
 (.seq (.line [m 3 0, o 4 (.bin .geq none (.t 3) (.c (.int .u8 1))), m 5 4, u 6 5 (.move (.t 0)), u 7 5 (.bin .leq none (.t 6) (.c (.int .u8 3))), o 8 (.pick (.t 5) (.t 7) (.c (.bool false))), m 2 8])
 .ret))⟩
/-- captioner/ratio.size -/
def g54 : GFun := ⟨10, [.tmp 2],
 (.seq (.line [o 2 (.move (.c (.int .u64 0)))])
 (.seq (.seq (.line [m 3 0, o 4 (.bin .lss none (.t 3) (.c (.int .i64 0)))])
 (.cond (.t 4) (.seq (.line [m 5 0, o 6 (.conv (.int .u64) (.t 5)), o 7 (.un .neg (.t 6)), m 2 7])
  .ret) .skip))
 (.seq (.line [m 8 0, o 9 (.conv (.int .u64) (.t 8)), m 2 9])
 .ret)))⟩
/-- captioner/ratio.away -/
def g55 : GFun := ⟨37, [.tmp 8],
 (.seq (.line [o 8 (.move (.c (.bool false)))])
 (.seq (.block 0 (.seq (.line [m 10 1, o 11 (.bin .eql (some .int) (.t 10) (.c (.int .u64 0))), m 9 11])
  (.cond (.t 9) (.seq (.line [o 8 (.move (.c (.bool false)))])
   .ret) (.seq (.line [m 13 3, o 14 (.bin .eql (some .int) (.t 13) (.c (.int .u8 1))), m 12 14])
   (.cond (.t 12) (.seq (.line [m 15 0, m 8 15])
    .ret) (.seq (.line [m 17 3, o 18 (.bin .eql (some .int) (.t 17) (.c (.int .u8 3))), m 16 18])
    (.cond (.t 16) (.seq (.line [m 19 0, o 20 (.un .not (.t 19)), m 8 20])
     .ret) .skip)))))))
 (.seq (.line [m 21 1, m 22 2, m 23 1, o 24 (.bin .sub none (.t 22) (.t 23)), o 25 (.bin .gtr none (.t 21) (.t 24)), m 26 25, w 27 26 (.move (.t 1)), w 28 26 (.move (.t 2)), w 29 26 (.move (.t 1)), w 30 26 (.bin .sub none (.t 28) (.t 29)), w 31 26 (.bin .eql (some .int) (.t 27) (.t 30)), w 32 26 (.move (.t 31)), u 33 32 (.move (.t 0)), u 34 32 (.un .not (.t 33)), w 35 26 (.pick (.t 32) (.t 34) (.c (.bool false))), o 36 (.pick (.t 26) (.c (.bool true)) (.t 35)), m 8 36])
 .ret)))⟩
/-- slices.Clone[[]captioner/api.Row,captioner/api.Row] -/
def g56 : GFun := ⟨8, [.tmp 2],
 (.seq (.line [o 2 (.move (.c (.slice none 0 0)))])
 (.seq (.seq (.line [m 3 0, o 4 (.bin .eql (some .sl) (.t 3) (.c (.slice none 0 0)))])
 (.cond (.t 4) (.seq (.line [o 2 (.move (.c (.slice none 0 0)))])
  .ret) .skip))
 (.seq (.line [o 5 (.buildSl 1 0 [(.slice none 0 0)] []), m 6 0, o 7 (.app 1 24 1 (.t 5) (.t 6)), m 2 7])
 .ret)))⟩
/-- slices.Clone[[]captioner/api.Run,captioner/api.Run] -/
def g57 : GFun := ⟨8, [.tmp 2],
 (.seq (.line [o 2 (.move (.c (.slice none 0 0)))])
 (.seq (.seq (.line [m 3 0, o 4 (.bin .eql (some .sl) (.t 3) (.c (.slice none 0 0)))])
 (.cond (.t 4) (.seq (.line [o 2 (.move (.c (.slice none 0 0)))])
  .ret) .skip))
 (.seq (.line [o 5 (.buildSl 5 0 [(.string ⟨#[]⟩), (.int .u8 0), (.bool false), (.bool false), (.string ⟨#[]⟩)] []), m 6 0, o 7 (.app 5 40 5 (.t 5) (.t 6)), m 2 7])
 .ret)))⟩

/-- captioner/charset.place -/
def g59 : GFun := ⟨19, [.tmp 4],
 (.seq (.line [o 4 (.move (.c (.int .i64 0)))])
 (.seq (.line [o 5 (.move (.c (.int .i64 0)))])
 (.seq (.seq (.line [m 8 0, o 9 (.rng (.t 8))])
 (.block 0 (.loop (.seq (.line [o 10 (.next (.t 9)), o 11 (.ext (.t 10) 0)])
   (.seq (.cond (.t 11) .skip (.exit 0))
   (.block 1 (.seq (.line [o 12 (.ext (.t 10) 2), m 7 12])
    (.seq (.seq (.line [m 13 7, m 14 1, o 15 (.bin .eql (some .int) (.t 13) (.t 14))])
    (.cond (.t 15) (.seq (.line [m 16 5, m 4 16])
     .ret) .skip))
    (.line [m 17 5, o 18 (.bin .add none (.t 17) (.c (.int .i64 1))), m 5 18])))))))))
 (.seq (.line [o 4 (.move (.c (.int .i64 (-1))))])
 .ret))))⟩
/-- captioner/style.Valid -/
def g60 : GFun := ⟨6, [.tmp 2],
 (.seq (.line [o 1 (.box (.t 0)), o 2 (.move (.c (.bool false)))])
 (.seq (.line [f 3 0 1, l 4 3, o 5 (.bin .leq none (.t 4) (.c (.int .u8 6))), m 2 5])
 .ret))⟩
/-- captioner/style.alike -/
def g61 : GFun := ⟨20, [.tmp 4],
 (.seq (.line [o 2 (.box (.t 0)), o 3 (.box (.t 1)), o 4 (.move (.c (.bool false)))])
 (.seq (.line [f 5 1 2, o 6 (.load (some 3) (.t 5)), f 7 1 3, o 8 (.load (some 3) (.t 7)), o 9 (.bin .eql (some (.parts [(0, none, .int), (1, none, .bool), (2, none, .bool)])) (.t 6) (.t 8)), m 10 9, u 11 10 (.fa 4 (.t 2)), u 12 10 (.load none (.t 11)), u 13 10 (.bin .eql (some .str) (.t 12) (.c (.string ⟨#[]⟩))), o 14 (.pick (.t 10) (.t 13) (.c (.bool false))), m 15 14, u 16 15 (.fa 4 (.t 3)), u 17 15 (.load none (.t 16)), u 18 15 (.bin .eql (some .str) (.t 17) (.c (.string ⟨#[]⟩))), o 19 (.pick (.t 15) (.t 18) (.c (.bool false))), m 4 19])
 .ret))⟩
/-- (*strings.Builder).WriteString -/
def g62 : GFun := ⟨19, [.tmp 4, .tmp 5],
 (.seq (.line [o 4 (.move (.c (.int .i64 0))), o 5 (.move (.c .nilIface))])
 (.seq (.line [m 6 0, o 7 (.call (.c (.func (.func 66) #[] #[])) [(.t 6)])])
 (.seq (.line [m 8 0, m 9 0, o 10 (.nilc (.t 9)), f 11 1 10, l 12 11, m 13 1, o 14 (.app 1 1 257 (.t 12) (.t 13)), o 15 (.nilc (.t 8)), f 16 1 15, e (.store none (.t 16) (.t 14))])
 (.seq (.line [m 17 1, o 18 (.len true (.t 17)), m 4 18, o 5 (.move (.c .nilIface))])
 .ret))))⟩

/-- captioner/charset.Len -/
def g65 : GFun := ⟨8, [.tmp 2],
 (.seq (.line [o 2 (.move (.c (.int .i64 0)))])
 (.seq (.seq (.line [m 3 0, o 4 (.call (.c (.func (.func 26) #[] #[])) [(.t 3)]), o 5 (.un .not (.t 4))])
 (.cond (.t 5) (.seq (.line [o 2 (.move (.c (.int .i64 (-1))))])
  .ret) .skip))
 (.seq (.line [m 6 0, o 7 (.call (.c (.func (.func 68) #[] #[])) [(.t 6)]), m 2 7])
 .ret)))⟩


/-- unicode/utf8.RuneCountInString -/
def g68 : GFun := ⟨10, [.tmp 2],
 (.seq (.line [o 2 (.move (.c (.int .i64 0)))])
 (.seq (.seq (.line [m 3 0, o 4 (.rng (.t 3))])
 (.block 0 (.loop (.seq (.line [o 5 (.next (.t 4)), o 6 (.ext (.t 5) 0)])
   (.seq (.cond (.t 6) .skip (.exit 0))
   (.block 1 (.line [m 7 2, o 8 (.bin .add none (.t 7) (.c (.int .i64 1))), m 2 8])))))))
 (.seq (.line [m 9 2, m 2 9])
 .ret)))⟩





def G : FuncId → Option GEnt
  | 3 => some (.fn g3)
  | 4 => some (.pure g4)
  | 5 => some (.fn g5)
  | 6 => some (.fn g6)
  | 7 => some (.fn g7)
  | 8 => some (.pure g8)
  | 9 => some (.pure g9)
  | 10 => some (.pure g10)
  | 11 => some (.pure g11)
  | 12 => some (.pure g12)
  | 13 => some (.pure g13)
  | 14 => some (.fn g14)
  | 15 => some (.fn g15)
  | 16 => some (.fn g16)
  | 17 => some (.fn g17)
  | 18 => some (.fn g18)
  | 19 => some (.fn g19)
  | 20 => some (.pure g20)
  | 21 => some (.pure g21)
  | 22 => some (.fn g22)
  | 23 => some (.fn g23)
  | 24 => some (.fn g24)
  | 25 => some (.fn g25)
  | 26 => some (.pure g26)
  | 27 => some (.pure g27)
  | 28 => some (.pure g28)
  | 29 => some (.pure g29)
  | 30 => some (.fn g30)
  | 31 => some (.pure g31)
  | 32 => some (.pure g32)
  | 33 => some (.fn g33)
  | 34 => some (.fn g34)
  | 35 => some (.fn g35)
  | 36 => some (.fn g36)
  | 37 => some (.pure g37)
  | 38 => some (.fn g38)
  | 39 => some (.pure g39)
  | 40 => some (.fn g40)
  | 42 => some (.pure g42)
  | 43 => some (.pure g43)
  | 44 => some (.pure g44)
  | 45 => some (.fn g45)
  | 46 => some (.fn g46)
  | 47 => some (.fn g47)
  | 49 => some (.fn g49)
  | 50 => some (.pure g50)
  | 51 => some (.pure g51)
  | 52 => some (.fn g52)
  | 53 => some (.pure g53)
  | 54 => some (.pure g54)
  | 55 => some (.pure g55)
  | 56 => some (.fn g56)
  | 57 => some (.fn g57)
  | 59 => some (.pure g59)
  | 60 => some (.pure g60)
  | 61 => some (.pure g61)
  | 62 => some (.fn g62)
  | 65 => some (.pure g65)
  | 68 => some (.pure g68)
  | 66 => some (.ext runCC)
  | 63 => some (.ext runStr)
  | 41 => some (.lib runValid)
  | 48 => some (.lib runContains)
  | _ => none
end Go.Gh
