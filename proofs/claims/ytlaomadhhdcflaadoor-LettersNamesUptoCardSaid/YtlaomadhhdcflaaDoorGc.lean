import Derived.Test.YtlaomadhhdcflaaDoorGa
set_option linter.unusedVariables false
set_option linter.unusedSimpArgs false
/- Printed by symgen.py: typed functions of this seat, and why they tell what the program does. -/
set_option linter.unusedVariables false
set_option linter.unusedSimpArgs false
open Go Go.Ev Go.Ev.PV
namespace Go.Proofs.YtlaomadhhdcflaaDoor
def seinelaw1_LettersNames_T1 (O : Orc) (LP : LBody → LBody) (s : Str) (t : Str) (c : Int) : Option (PV × UP) :=
  cnd (decide ((List.length s : Int) > 3000))
   (callp O 5 [] fun x1 => cnd (chk .bool x1)
   (some ((.bool (boolV x1)), [])) none)
   (cnd (decide ((List.length t : Int) > 3000))
    (callp O 5 [] fun x3 => cnd (chk .bool x3)
    (some ((.bool (boolV x3)), [])) none)
    (callp O 10 [(.str s)] fun x5 => cnd (chk .bool x5)
    (callp O 10 [(.str t)] fun x7 => cnd (chk .bool x7)
    (cnd (boolV x5)
     (cnd (boolV x7)
      (bnd (bin .add (.str s) (.str t)) fun x9 => cnd (chk .str x9)
      (callp O 10 [(.str (strV x9))] fun x11 => cnd (chk .bool x11)
      (cnd (!(boolV x11))
       (some ((.bool false), []))
       (cnd (boolV x5)
        (bnd (bin .add (.str s) (.str [48, 57])) fun x13 => cnd (chk .str x13)
        (callp O 10 [(.str (strV x13))] fun x15 => cnd (chk .bool x15)
        (cnd (!(boolV x15))
         (some ((.bool false), []))
         (bnd (bin .add (.str [55]) (.str s)) fun x17 => cnd (chk .str x17)
         (callp O 10 [(.str (strV x17))] fun x19 => cnd (chk .bool x19)
         (cnd (boolV x19)
          (some ((.bool false), []))
          (cnd (decide (c ≥ 48))
           (cnd (decide (c ≤ 57))
            (cnd (!(boolV x5))
             (callp O 5 [] fun x21 => cnd (chk .bool x21)
             (some ((.bool (boolV x21)), [])) none)
             (bnd (toStr (.slice [(.int .u8 c)] [] true)) fun x23 => cnd (chk .str x23)
             (bnd (bin .add (.str s) (.str (strV x23))) fun x25 => cnd (chk .str x25)
             (callp O 10 [(.str (strV x25))] fun x27 => cnd (chk .bool x27)
             (cnd ((boolV x27) == true)
              (callp O 5 [] fun x29 => cnd (chk .bool x29)
              (some ((.bool (boolV x29)), [])) none)
              (some ((.bool false), []))) none) none) none))
            (cnd (decide (c ≥ 97))
             (cnd (decide (c ≤ 122))
              (cnd (!(boolV x5))
               (callp O 5 [] fun x31 => cnd (chk .bool x31)
               (some ((.bool (boolV x31)), [])) none)
               (bnd (toStr (.slice [(.int .u8 c)] [] true)) fun x33 => cnd (chk .str x33)
               (bnd (bin .add (.str s) (.str (strV x33))) fun x35 => cnd (chk .str x35)
               (callp O 10 [(.str (strV x35))] fun x37 => cnd (chk .bool x37)
               (cnd ((boolV x37) == true)
                (callp O 5 [] fun x39 => cnd (chk .bool x39)
                (some ((.bool (boolV x39)), [])) none)
                (some ((.bool false), []))) none) none) none))
              (cnd (decide (c ≥ 65))
               (cnd (decide (c ≤ 90))
                (cnd (!(boolV x5))
                 (callp O 5 [] fun x41 => cnd (chk .bool x41)
                 (some ((.bool (boolV x41)), [])) none)
                 (bnd (toStr (.slice [(.int .u8 c)] [] true)) fun x43 => cnd (chk .str x43)
                 (bnd (bin .add (.str s) (.str (strV x43))) fun x45 => cnd (chk .str x45)
                 (callp O 10 [(.str (strV x45))] fun x47 => cnd (chk .bool x47)
                 (cnd ((boolV x47) == true)
                  (callp O 5 [] fun x49 => cnd (chk .bool x49)
                  (some ((.bool (boolV x49)), [])) none)
                  (some ((.bool false), []))) none) none) none))
                (cnd (!(boolV x5))
                 (callp O 5 [] fun x51 => cnd (chk .bool x51)
                 (some ((.bool (boolV x51)), [])) none)
                 (bnd (toStr (.slice [(.int .u8 c)] [] true)) fun x53 => cnd (chk .str x53)
                 (bnd (bin .add (.str s) (.str (strV x53))) fun x55 => cnd (chk .str x55)
                 (callp O 10 [(.str (strV x55))] fun x57 => cnd (chk .bool x57)
                 (cnd ((boolV x57) == (c == 95))
                  (callp O 5 [] fun x59 => cnd (chk .bool x59)
                  (some ((.bool (boolV x59)), [])) none)
                  (some ((.bool false), []))) none) none) none)))
               (cnd (!(boolV x5))
                (callp O 5 [] fun x61 => cnd (chk .bool x61)
                (some ((.bool (boolV x61)), [])) none)
                (bnd (toStr (.slice [(.int .u8 c)] [] true)) fun x63 => cnd (chk .str x63)
                (bnd (bin .add (.str s) (.str (strV x63))) fun x65 => cnd (chk .str x65)
                (callp O 10 [(.str (strV x65))] fun x67 => cnd (chk .bool x67)
                (cnd ((boolV x67) == (c == 95))
                 (callp O 5 [] fun x69 => cnd (chk .bool x69)
                 (some ((.bool (boolV x69)), [])) none)
                 (some ((.bool false), []))) none) none) none))))
             (cnd (decide (c ≥ 65))
              (cnd (decide (c ≤ 90))
               (cnd (!(boolV x5))
                (callp O 5 [] fun x71 => cnd (chk .bool x71)
                (some ((.bool (boolV x71)), [])) none)
                (bnd (toStr (.slice [(.int .u8 c)] [] true)) fun x73 => cnd (chk .str x73)
                (bnd (bin .add (.str s) (.str (strV x73))) fun x75 => cnd (chk .str x75)
                (callp O 10 [(.str (strV x75))] fun x77 => cnd (chk .bool x77)
                (cnd ((boolV x77) == true)
                 (callp O 5 [] fun x79 => cnd (chk .bool x79)
                 (some ((.bool (boolV x79)), [])) none)
                 (some ((.bool false), []))) none) none) none))
               (cnd (!(boolV x5))
                (callp O 5 [] fun x81 => cnd (chk .bool x81)
                (some ((.bool (boolV x81)), [])) none)
                (bnd (toStr (.slice [(.int .u8 c)] [] true)) fun x83 => cnd (chk .str x83)
                (bnd (bin .add (.str s) (.str (strV x83))) fun x85 => cnd (chk .str x85)
                (callp O 10 [(.str (strV x85))] fun x87 => cnd (chk .bool x87)
                (cnd ((boolV x87) == (c == 95))
                 (callp O 5 [] fun x89 => cnd (chk .bool x89)
                 (some ((.bool (boolV x89)), [])) none)
                 (some ((.bool false), []))) none) none) none)))
              (cnd (!(boolV x5))
               (callp O 5 [] fun x91 => cnd (chk .bool x91)
               (some ((.bool (boolV x91)), [])) none)
               (bnd (toStr (.slice [(.int .u8 c)] [] true)) fun x93 => cnd (chk .str x93)
               (bnd (bin .add (.str s) (.str (strV x93))) fun x95 => cnd (chk .str x95)
               (callp O 10 [(.str (strV x95))] fun x97 => cnd (chk .bool x97)
               (cnd ((boolV x97) == (c == 95))
                (callp O 5 [] fun x99 => cnd (chk .bool x99)
                (some ((.bool (boolV x99)), [])) none)
                (some ((.bool false), []))) none) none) none)))))
           (cnd (decide (c ≥ 97))
            (cnd (decide (c ≤ 122))
             (cnd (!(boolV x5))
              (callp O 5 [] fun x101 => cnd (chk .bool x101)
              (some ((.bool (boolV x101)), [])) none)
              (bnd (toStr (.slice [(.int .u8 c)] [] true)) fun x103 => cnd (chk .str x103)
              (bnd (bin .add (.str s) (.str (strV x103))) fun x105 => cnd (chk .str x105)
              (callp O 10 [(.str (strV x105))] fun x107 => cnd (chk .bool x107)
              (cnd ((boolV x107) == true)
               (callp O 5 [] fun x109 => cnd (chk .bool x109)
               (some ((.bool (boolV x109)), [])) none)
               (some ((.bool false), []))) none) none) none))
             (cnd (decide (c ≥ 65))
              (cnd (decide (c ≤ 90))
               (cnd (!(boolV x5))
                (callp O 5 [] fun x111 => cnd (chk .bool x111)
                (some ((.bool (boolV x111)), [])) none)
                (bnd (toStr (.slice [(.int .u8 c)] [] true)) fun x113 => cnd (chk .str x113)
                (bnd (bin .add (.str s) (.str (strV x113))) fun x115 => cnd (chk .str x115)
                (callp O 10 [(.str (strV x115))] fun x117 => cnd (chk .bool x117)
                (cnd ((boolV x117) == true)
                 (callp O 5 [] fun x119 => cnd (chk .bool x119)
                 (some ((.bool (boolV x119)), [])) none)
                 (some ((.bool false), []))) none) none) none))
               (cnd (!(boolV x5))
                (callp O 5 [] fun x121 => cnd (chk .bool x121)
                (some ((.bool (boolV x121)), [])) none)
                (bnd (toStr (.slice [(.int .u8 c)] [] true)) fun x123 => cnd (chk .str x123)
                (bnd (bin .add (.str s) (.str (strV x123))) fun x125 => cnd (chk .str x125)
                (callp O 10 [(.str (strV x125))] fun x127 => cnd (chk .bool x127)
                (cnd ((boolV x127) == (c == 95))
                 (callp O 5 [] fun x129 => cnd (chk .bool x129)
                 (some ((.bool (boolV x129)), [])) none)
                 (some ((.bool false), []))) none) none) none)))
              (cnd (!(boolV x5))
               (callp O 5 [] fun x131 => cnd (chk .bool x131)
               (some ((.bool (boolV x131)), [])) none)
               (bnd (toStr (.slice [(.int .u8 c)] [] true)) fun x133 => cnd (chk .str x133)
               (bnd (bin .add (.str s) (.str (strV x133))) fun x135 => cnd (chk .str x135)
               (callp O 10 [(.str (strV x135))] fun x137 => cnd (chk .bool x137)
               (cnd ((boolV x137) == (c == 95))
                (callp O 5 [] fun x139 => cnd (chk .bool x139)
                (some ((.bool (boolV x139)), [])) none)
                (some ((.bool false), []))) none) none) none))))
            (cnd (decide (c ≥ 65))
             (cnd (decide (c ≤ 90))
              (cnd (!(boolV x5))
               (callp O 5 [] fun x141 => cnd (chk .bool x141)
               (some ((.bool (boolV x141)), [])) none)
               (bnd (toStr (.slice [(.int .u8 c)] [] true)) fun x143 => cnd (chk .str x143)
               (bnd (bin .add (.str s) (.str (strV x143))) fun x145 => cnd (chk .str x145)
               (callp O 10 [(.str (strV x145))] fun x147 => cnd (chk .bool x147)
               (cnd ((boolV x147) == true)
                (callp O 5 [] fun x149 => cnd (chk .bool x149)
                (some ((.bool (boolV x149)), [])) none)
                (some ((.bool false), []))) none) none) none))
              (cnd (!(boolV x5))
               (callp O 5 [] fun x151 => cnd (chk .bool x151)
               (some ((.bool (boolV x151)), [])) none)
               (bnd (toStr (.slice [(.int .u8 c)] [] true)) fun x153 => cnd (chk .str x153)
               (bnd (bin .add (.str s) (.str (strV x153))) fun x155 => cnd (chk .str x155)
               (callp O 10 [(.str (strV x155))] fun x157 => cnd (chk .bool x157)
               (cnd ((boolV x157) == (c == 95))
                (callp O 5 [] fun x159 => cnd (chk .bool x159)
                (some ((.bool (boolV x159)), [])) none)
                (some ((.bool false), []))) none) none) none)))
             (cnd (!(boolV x5))
              (callp O 5 [] fun x161 => cnd (chk .bool x161)
              (some ((.bool (boolV x161)), [])) none)
              (bnd (toStr (.slice [(.int .u8 c)] [] true)) fun x163 => cnd (chk .str x163)
              (bnd (bin .add (.str s) (.str (strV x163))) fun x165 => cnd (chk .str x165)
              (callp O 10 [(.str (strV x165))] fun x167 => cnd (chk .bool x167)
              (cnd ((boolV x167) == (c == 95))
               (callp O 5 [] fun x169 => cnd (chk .bool x169)
               (some ((.bool (boolV x169)), [])) none)
               (some ((.bool false), []))) none) none) none)))))) none) none)) none) none)
        (bnd (bin .add (.str [55]) (.str s)) fun x171 => cnd (chk .str x171)
        (callp O 10 [(.str (strV x171))] fun x173 => cnd (chk .bool x173)
        (cnd (boolV x173)
         (some ((.bool false), []))
         (cnd (decide (c ≥ 48))
          (cnd (decide (c ≤ 57))
           (cnd (!(boolV x5))
            (callp O 5 [] fun x175 => cnd (chk .bool x175)
            (some ((.bool (boolV x175)), [])) none)
            (bnd (toStr (.slice [(.int .u8 c)] [] true)) fun x177 => cnd (chk .str x177)
            (bnd (bin .add (.str s) (.str (strV x177))) fun x179 => cnd (chk .str x179)
            (callp O 10 [(.str (strV x179))] fun x181 => cnd (chk .bool x181)
            (cnd ((boolV x181) == true)
             (callp O 5 [] fun x183 => cnd (chk .bool x183)
             (some ((.bool (boolV x183)), [])) none)
             (some ((.bool false), []))) none) none) none))
           (cnd (decide (c ≥ 97))
            (cnd (decide (c ≤ 122))
             (cnd (!(boolV x5))
              (callp O 5 [] fun x185 => cnd (chk .bool x185)
              (some ((.bool (boolV x185)), [])) none)
              (bnd (toStr (.slice [(.int .u8 c)] [] true)) fun x187 => cnd (chk .str x187)
              (bnd (bin .add (.str s) (.str (strV x187))) fun x189 => cnd (chk .str x189)
              (callp O 10 [(.str (strV x189))] fun x191 => cnd (chk .bool x191)
              (cnd ((boolV x191) == true)
               (callp O 5 [] fun x193 => cnd (chk .bool x193)
               (some ((.bool (boolV x193)), [])) none)
               (some ((.bool false), []))) none) none) none))
             (cnd (decide (c ≥ 65))
              (cnd (decide (c ≤ 90))
               (cnd (!(boolV x5))
                (callp O 5 [] fun x195 => cnd (chk .bool x195)
                (some ((.bool (boolV x195)), [])) none)
                (bnd (toStr (.slice [(.int .u8 c)] [] true)) fun x197 => cnd (chk .str x197)
                (bnd (bin .add (.str s) (.str (strV x197))) fun x199 => cnd (chk .str x199)
                (callp O 10 [(.str (strV x199))] fun x201 => cnd (chk .bool x201)
                (cnd ((boolV x201) == true)
                 (callp O 5 [] fun x203 => cnd (chk .bool x203)
                 (some ((.bool (boolV x203)), [])) none)
                 (some ((.bool false), []))) none) none) none))
               (cnd (!(boolV x5))
                (callp O 5 [] fun x205 => cnd (chk .bool x205)
                (some ((.bool (boolV x205)), [])) none)
                (bnd (toStr (.slice [(.int .u8 c)] [] true)) fun x207 => cnd (chk .str x207)
                (bnd (bin .add (.str s) (.str (strV x207))) fun x209 => cnd (chk .str x209)
                (callp O 10 [(.str (strV x209))] fun x211 => cnd (chk .bool x211)
                (cnd ((boolV x211) == (c == 95))
                 (callp O 5 [] fun x213 => cnd (chk .bool x213)
                 (some ((.bool (boolV x213)), [])) none)
                 (some ((.bool false), []))) none) none) none)))
              (cnd (!(boolV x5))
               (callp O 5 [] fun x215 => cnd (chk .bool x215)
               (some ((.bool (boolV x215)), [])) none)
               (bnd (toStr (.slice [(.int .u8 c)] [] true)) fun x217 => cnd (chk .str x217)
               (bnd (bin .add (.str s) (.str (strV x217))) fun x219 => cnd (chk .str x219)
               (callp O 10 [(.str (strV x219))] fun x221 => cnd (chk .bool x221)
               (cnd ((boolV x221) == (c == 95))
                (callp O 5 [] fun x223 => cnd (chk .bool x223)
                (some ((.bool (boolV x223)), [])) none)
                (some ((.bool false), []))) none) none) none))))
            (cnd (decide (c ≥ 65))
             (cnd (decide (c ≤ 90))
              (cnd (!(boolV x5))
               (callp O 5 [] fun x225 => cnd (chk .bool x225)
               (some ((.bool (boolV x225)), [])) none)
               (bnd (toStr (.slice [(.int .u8 c)] [] true)) fun x227 => cnd (chk .str x227)
               (bnd (bin .add (.str s) (.str (strV x227))) fun x229 => cnd (chk .str x229)
               (callp O 10 [(.str (strV x229))] fun x231 => cnd (chk .bool x231)
               (cnd ((boolV x231) == true)
                (callp O 5 [] fun x233 => cnd (chk .bool x233)
                (some ((.bool (boolV x233)), [])) none)
                (some ((.bool false), []))) none) none) none))
              (cnd (!(boolV x5))
               (callp O 5 [] fun x235 => cnd (chk .bool x235)
               (some ((.bool (boolV x235)), [])) none)
               (bnd (toStr (.slice [(.int .u8 c)] [] true)) fun x237 => cnd (chk .str x237)
               (bnd (bin .add (.str s) (.str (strV x237))) fun x239 => cnd (chk .str x239)
               (callp O 10 [(.str (strV x239))] fun x241 => cnd (chk .bool x241)
               (cnd ((boolV x241) == (c == 95))
                (callp O 5 [] fun x243 => cnd (chk .bool x243)
                (some ((.bool (boolV x243)), [])) none)
                (some ((.bool false), []))) none) none) none)))
             (cnd (!(boolV x5))
              (callp O 5 [] fun x245 => cnd (chk .bool x245)
              (some ((.bool (boolV x245)), [])) none)
              (bnd (toStr (.slice [(.int .u8 c)] [] true)) fun x247 => cnd (chk .str x247)
              (bnd (bin .add (.str s) (.str (strV x247))) fun x249 => cnd (chk .str x249)
              (callp O 10 [(.str (strV x249))] fun x251 => cnd (chk .bool x251)
              (cnd ((boolV x251) == (c == 95))
               (callp O 5 [] fun x253 => cnd (chk .bool x253)
               (some ((.bool (boolV x253)), [])) none)
               (some ((.bool false), []))) none) none) none)))))
          (cnd (decide (c ≥ 97))
           (cnd (decide (c ≤ 122))
            (cnd (!(boolV x5))
             (callp O 5 [] fun x255 => cnd (chk .bool x255)
             (some ((.bool (boolV x255)), [])) none)
             (bnd (toStr (.slice [(.int .u8 c)] [] true)) fun x257 => cnd (chk .str x257)
             (bnd (bin .add (.str s) (.str (strV x257))) fun x259 => cnd (chk .str x259)
             (callp O 10 [(.str (strV x259))] fun x261 => cnd (chk .bool x261)
             (cnd ((boolV x261) == true)
              (callp O 5 [] fun x263 => cnd (chk .bool x263)
              (some ((.bool (boolV x263)), [])) none)
              (some ((.bool false), []))) none) none) none))
            (cnd (decide (c ≥ 65))
             (cnd (decide (c ≤ 90))
              (cnd (!(boolV x5))
               (callp O 5 [] fun x265 => cnd (chk .bool x265)
               (some ((.bool (boolV x265)), [])) none)
               (bnd (toStr (.slice [(.int .u8 c)] [] true)) fun x267 => cnd (chk .str x267)
               (bnd (bin .add (.str s) (.str (strV x267))) fun x269 => cnd (chk .str x269)
               (callp O 10 [(.str (strV x269))] fun x271 => cnd (chk .bool x271)
               (cnd ((boolV x271) == true)
                (callp O 5 [] fun x273 => cnd (chk .bool x273)
                (some ((.bool (boolV x273)), [])) none)
                (some ((.bool false), []))) none) none) none))
              (cnd (!(boolV x5))
               (callp O 5 [] fun x275 => cnd (chk .bool x275)
               (some ((.bool (boolV x275)), [])) none)
               (bnd (toStr (.slice [(.int .u8 c)] [] true)) fun x277 => cnd (chk .str x277)
               (bnd (bin .add (.str s) (.str (strV x277))) fun x279 => cnd (chk .str x279)
               (callp O 10 [(.str (strV x279))] fun x281 => cnd (chk .bool x281)
               (cnd ((boolV x281) == (c == 95))
                (callp O 5 [] fun x283 => cnd (chk .bool x283)
                (some ((.bool (boolV x283)), [])) none)
                (some ((.bool false), []))) none) none) none)))
             (cnd (!(boolV x5))
              (callp O 5 [] fun x285 => cnd (chk .bool x285)
              (some ((.bool (boolV x285)), [])) none)
              (bnd (toStr (.slice [(.int .u8 c)] [] true)) fun x287 => cnd (chk .str x287)
              (bnd (bin .add (.str s) (.str (strV x287))) fun x289 => cnd (chk .str x289)
              (callp O 10 [(.str (strV x289))] fun x291 => cnd (chk .bool x291)
              (cnd ((boolV x291) == (c == 95))
               (callp O 5 [] fun x293 => cnd (chk .bool x293)
               (some ((.bool (boolV x293)), [])) none)
               (some ((.bool false), []))) none) none) none))))
           (cnd (decide (c ≥ 65))
            (cnd (decide (c ≤ 90))
             (cnd (!(boolV x5))
              (callp O 5 [] fun x295 => cnd (chk .bool x295)
              (some ((.bool (boolV x295)), [])) none)
              (bnd (toStr (.slice [(.int .u8 c)] [] true)) fun x297 => cnd (chk .str x297)
              (bnd (bin .add (.str s) (.str (strV x297))) fun x299 => cnd (chk .str x299)
              (callp O 10 [(.str (strV x299))] fun x301 => cnd (chk .bool x301)
              (cnd ((boolV x301) == true)
               (callp O 5 [] fun x303 => cnd (chk .bool x303)
               (some ((.bool (boolV x303)), [])) none)
               (some ((.bool false), []))) none) none) none))
             (cnd (!(boolV x5))
              (callp O 5 [] fun x305 => cnd (chk .bool x305)
              (some ((.bool (boolV x305)), [])) none)
              (bnd (toStr (.slice [(.int .u8 c)] [] true)) fun x307 => cnd (chk .str x307)
              (bnd (bin .add (.str s) (.str (strV x307))) fun x309 => cnd (chk .str x309)
              (callp O 10 [(.str (strV x309))] fun x311 => cnd (chk .bool x311)
              (cnd ((boolV x311) == (c == 95))
               (callp O 5 [] fun x313 => cnd (chk .bool x313)
               (some ((.bool (boolV x313)), [])) none)
               (some ((.bool false), []))) none) none) none)))
            (cnd (!(boolV x5))
             (callp O 5 [] fun x315 => cnd (chk .bool x315)
             (some ((.bool (boolV x315)), [])) none)
             (bnd (toStr (.slice [(.int .u8 c)] [] true)) fun x317 => cnd (chk .str x317)
             (bnd (bin .add (.str s) (.str (strV x317))) fun x319 => cnd (chk .str x319)
             (callp O 10 [(.str (strV x319))] fun x321 => cnd (chk .bool x321)
             (cnd ((boolV x321) == (c == 95))
              (callp O 5 [] fun x323 => cnd (chk .bool x323)
              (some ((.bool (boolV x323)), [])) none)
              (some ((.bool false), []))) none) none) none)))))) none) none))) none) none)
      (cnd (boolV x5)
       (bnd (bin .add (.str s) (.str [48, 57])) fun x325 => cnd (chk .str x325)
       (callp O 10 [(.str (strV x325))] fun x327 => cnd (chk .bool x327)
       (cnd (!(boolV x327))
        (some ((.bool false), []))
        (bnd (bin .add (.str [55]) (.str s)) fun x329 => cnd (chk .str x329)
        (callp O 10 [(.str (strV x329))] fun x331 => cnd (chk .bool x331)
        (cnd (boolV x331)
         (some ((.bool false), []))
         (cnd (decide (c ≥ 48))
          (cnd (decide (c ≤ 57))
           (cnd (!(boolV x5))
            (callp O 5 [] fun x333 => cnd (chk .bool x333)
            (some ((.bool (boolV x333)), [])) none)
            (bnd (toStr (.slice [(.int .u8 c)] [] true)) fun x335 => cnd (chk .str x335)
            (bnd (bin .add (.str s) (.str (strV x335))) fun x337 => cnd (chk .str x337)
            (callp O 10 [(.str (strV x337))] fun x339 => cnd (chk .bool x339)
            (cnd ((boolV x339) == true)
             (callp O 5 [] fun x341 => cnd (chk .bool x341)
             (some ((.bool (boolV x341)), [])) none)
             (some ((.bool false), []))) none) none) none))
           (cnd (decide (c ≥ 97))
            (cnd (decide (c ≤ 122))
             (cnd (!(boolV x5))
              (callp O 5 [] fun x343 => cnd (chk .bool x343)
              (some ((.bool (boolV x343)), [])) none)
              (bnd (toStr (.slice [(.int .u8 c)] [] true)) fun x345 => cnd (chk .str x345)
              (bnd (bin .add (.str s) (.str (strV x345))) fun x347 => cnd (chk .str x347)
              (callp O 10 [(.str (strV x347))] fun x349 => cnd (chk .bool x349)
              (cnd ((boolV x349) == true)
               (callp O 5 [] fun x351 => cnd (chk .bool x351)
               (some ((.bool (boolV x351)), [])) none)
               (some ((.bool false), []))) none) none) none))
             (cnd (decide (c ≥ 65))
              (cnd (decide (c ≤ 90))
               (cnd (!(boolV x5))
                (callp O 5 [] fun x353 => cnd (chk .bool x353)
                (some ((.bool (boolV x353)), [])) none)
                (bnd (toStr (.slice [(.int .u8 c)] [] true)) fun x355 => cnd (chk .str x355)
                (bnd (bin .add (.str s) (.str (strV x355))) fun x357 => cnd (chk .str x357)
                (callp O 10 [(.str (strV x357))] fun x359 => cnd (chk .bool x359)
                (cnd ((boolV x359) == true)
                 (callp O 5 [] fun x361 => cnd (chk .bool x361)
                 (some ((.bool (boolV x361)), [])) none)
                 (some ((.bool false), []))) none) none) none))
               (cnd (!(boolV x5))
                (callp O 5 [] fun x363 => cnd (chk .bool x363)
                (some ((.bool (boolV x363)), [])) none)
                (bnd (toStr (.slice [(.int .u8 c)] [] true)) fun x365 => cnd (chk .str x365)
                (bnd (bin .add (.str s) (.str (strV x365))) fun x367 => cnd (chk .str x367)
                (callp O 10 [(.str (strV x367))] fun x369 => cnd (chk .bool x369)
                (cnd ((boolV x369) == (c == 95))
                 (callp O 5 [] fun x371 => cnd (chk .bool x371)
                 (some ((.bool (boolV x371)), [])) none)
                 (some ((.bool false), []))) none) none) none)))
              (cnd (!(boolV x5))
               (callp O 5 [] fun x373 => cnd (chk .bool x373)
               (some ((.bool (boolV x373)), [])) none)
               (bnd (toStr (.slice [(.int .u8 c)] [] true)) fun x375 => cnd (chk .str x375)
               (bnd (bin .add (.str s) (.str (strV x375))) fun x377 => cnd (chk .str x377)
               (callp O 10 [(.str (strV x377))] fun x379 => cnd (chk .bool x379)
               (cnd ((boolV x379) == (c == 95))
                (callp O 5 [] fun x381 => cnd (chk .bool x381)
                (some ((.bool (boolV x381)), [])) none)
                (some ((.bool false), []))) none) none) none))))
            (cnd (decide (c ≥ 65))
             (cnd (decide (c ≤ 90))
              (cnd (!(boolV x5))
               (callp O 5 [] fun x383 => cnd (chk .bool x383)
               (some ((.bool (boolV x383)), [])) none)
               (bnd (toStr (.slice [(.int .u8 c)] [] true)) fun x385 => cnd (chk .str x385)
               (bnd (bin .add (.str s) (.str (strV x385))) fun x387 => cnd (chk .str x387)
               (callp O 10 [(.str (strV x387))] fun x389 => cnd (chk .bool x389)
               (cnd ((boolV x389) == true)
                (callp O 5 [] fun x391 => cnd (chk .bool x391)
                (some ((.bool (boolV x391)), [])) none)
                (some ((.bool false), []))) none) none) none))
              (cnd (!(boolV x5))
               (callp O 5 [] fun x393 => cnd (chk .bool x393)
               (some ((.bool (boolV x393)), [])) none)
               (bnd (toStr (.slice [(.int .u8 c)] [] true)) fun x395 => cnd (chk .str x395)
               (bnd (bin .add (.str s) (.str (strV x395))) fun x397 => cnd (chk .str x397)
               (callp O 10 [(.str (strV x397))] fun x399 => cnd (chk .bool x399)
               (cnd ((boolV x399) == (c == 95))
                (callp O 5 [] fun x401 => cnd (chk .bool x401)
                (some ((.bool (boolV x401)), [])) none)
                (some ((.bool false), []))) none) none) none)))
             (cnd (!(boolV x5))
              (callp O 5 [] fun x403 => cnd (chk .bool x403)
              (some ((.bool (boolV x403)), [])) none)
              (bnd (toStr (.slice [(.int .u8 c)] [] true)) fun x405 => cnd (chk .str x405)
              (bnd (bin .add (.str s) (.str (strV x405))) fun x407 => cnd (chk .str x407)
              (callp O 10 [(.str (strV x407))] fun x409 => cnd (chk .bool x409)
              (cnd ((boolV x409) == (c == 95))
               (callp O 5 [] fun x411 => cnd (chk .bool x411)
               (some ((.bool (boolV x411)), [])) none)
               (some ((.bool false), []))) none) none) none)))))
          (cnd (decide (c ≥ 97))
           (cnd (decide (c ≤ 122))
            (cnd (!(boolV x5))
             (callp O 5 [] fun x413 => cnd (chk .bool x413)
             (some ((.bool (boolV x413)), [])) none)
             (bnd (toStr (.slice [(.int .u8 c)] [] true)) fun x415 => cnd (chk .str x415)
             (bnd (bin .add (.str s) (.str (strV x415))) fun x417 => cnd (chk .str x417)
             (callp O 10 [(.str (strV x417))] fun x419 => cnd (chk .bool x419)
             (cnd ((boolV x419) == true)
              (callp O 5 [] fun x421 => cnd (chk .bool x421)
              (some ((.bool (boolV x421)), [])) none)
              (some ((.bool false), []))) none) none) none))
            (cnd (decide (c ≥ 65))
             (cnd (decide (c ≤ 90))
              (cnd (!(boolV x5))
               (callp O 5 [] fun x423 => cnd (chk .bool x423)
               (some ((.bool (boolV x423)), [])) none)
               (bnd (toStr (.slice [(.int .u8 c)] [] true)) fun x425 => cnd (chk .str x425)
               (bnd (bin .add (.str s) (.str (strV x425))) fun x427 => cnd (chk .str x427)
               (callp O 10 [(.str (strV x427))] fun x429 => cnd (chk .bool x429)
               (cnd ((boolV x429) == true)
                (callp O 5 [] fun x431 => cnd (chk .bool x431)
                (some ((.bool (boolV x431)), [])) none)
                (some ((.bool false), []))) none) none) none))
              (cnd (!(boolV x5))
               (callp O 5 [] fun x433 => cnd (chk .bool x433)
               (some ((.bool (boolV x433)), [])) none)
               (bnd (toStr (.slice [(.int .u8 c)] [] true)) fun x435 => cnd (chk .str x435)
               (bnd (bin .add (.str s) (.str (strV x435))) fun x437 => cnd (chk .str x437)
               (callp O 10 [(.str (strV x437))] fun x439 => cnd (chk .bool x439)
               (cnd ((boolV x439) == (c == 95))
                (callp O 5 [] fun x441 => cnd (chk .bool x441)
                (some ((.bool (boolV x441)), [])) none)
                (some ((.bool false), []))) none) none) none)))
             (cnd (!(boolV x5))
              (callp O 5 [] fun x443 => cnd (chk .bool x443)
              (some ((.bool (boolV x443)), [])) none)
              (bnd (toStr (.slice [(.int .u8 c)] [] true)) fun x445 => cnd (chk .str x445)
              (bnd (bin .add (.str s) (.str (strV x445))) fun x447 => cnd (chk .str x447)
              (callp O 10 [(.str (strV x447))] fun x449 => cnd (chk .bool x449)
              (cnd ((boolV x449) == (c == 95))
               (callp O 5 [] fun x451 => cnd (chk .bool x451)
               (some ((.bool (boolV x451)), [])) none)
               (some ((.bool false), []))) none) none) none))))
           (cnd (decide (c ≥ 65))
            (cnd (decide (c ≤ 90))
             (cnd (!(boolV x5))
              (callp O 5 [] fun x453 => cnd (chk .bool x453)
              (some ((.bool (boolV x453)), [])) none)
              (bnd (toStr (.slice [(.int .u8 c)] [] true)) fun x455 => cnd (chk .str x455)
              (bnd (bin .add (.str s) (.str (strV x455))) fun x457 => cnd (chk .str x457)
              (callp O 10 [(.str (strV x457))] fun x459 => cnd (chk .bool x459)
              (cnd ((boolV x459) == true)
               (callp O 5 [] fun x461 => cnd (chk .bool x461)
               (some ((.bool (boolV x461)), [])) none)
               (some ((.bool false), []))) none) none) none))
             (cnd (!(boolV x5))
              (callp O 5 [] fun x463 => cnd (chk .bool x463)
              (some ((.bool (boolV x463)), [])) none)
              (bnd (toStr (.slice [(.int .u8 c)] [] true)) fun x465 => cnd (chk .str x465)
              (bnd (bin .add (.str s) (.str (strV x465))) fun x467 => cnd (chk .str x467)
              (callp O 10 [(.str (strV x467))] fun x469 => cnd (chk .bool x469)
              (cnd ((boolV x469) == (c == 95))
               (callp O 5 [] fun x471 => cnd (chk .bool x471)
               (some ((.bool (boolV x471)), [])) none)
               (some ((.bool false), []))) none) none) none)))
            (cnd (!(boolV x5))
             (callp O 5 [] fun x473 => cnd (chk .bool x473)
             (some ((.bool (boolV x473)), [])) none)
             (bnd (toStr (.slice [(.int .u8 c)] [] true)) fun x475 => cnd (chk .str x475)
             (bnd (bin .add (.str s) (.str (strV x475))) fun x477 => cnd (chk .str x477)
             (callp O 10 [(.str (strV x477))] fun x479 => cnd (chk .bool x479)
             (cnd ((boolV x479) == (c == 95))
              (callp O 5 [] fun x481 => cnd (chk .bool x481)
              (some ((.bool (boolV x481)), [])) none)
              (some ((.bool false), []))) none) none) none)))))) none) none)) none) none)
       (bnd (bin .add (.str [55]) (.str s)) fun x483 => cnd (chk .str x483)
       (callp O 10 [(.str (strV x483))] fun x485 => cnd (chk .bool x485)
       (cnd (boolV x485)
        (some ((.bool false), []))
        (cnd (decide (c ≥ 48))
         (cnd (decide (c ≤ 57))
          (cnd (!(boolV x5))
           (callp O 5 [] fun x487 => cnd (chk .bool x487)
           (some ((.bool (boolV x487)), [])) none)
           (bnd (toStr (.slice [(.int .u8 c)] [] true)) fun x489 => cnd (chk .str x489)
           (bnd (bin .add (.str s) (.str (strV x489))) fun x491 => cnd (chk .str x491)
           (callp O 10 [(.str (strV x491))] fun x493 => cnd (chk .bool x493)
           (cnd ((boolV x493) == true)
            (callp O 5 [] fun x495 => cnd (chk .bool x495)
            (some ((.bool (boolV x495)), [])) none)
            (some ((.bool false), []))) none) none) none))
          (cnd (decide (c ≥ 97))
           (cnd (decide (c ≤ 122))
            (cnd (!(boolV x5))
             (callp O 5 [] fun x497 => cnd (chk .bool x497)
             (some ((.bool (boolV x497)), [])) none)
             (bnd (toStr (.slice [(.int .u8 c)] [] true)) fun x499 => cnd (chk .str x499)
             (bnd (bin .add (.str s) (.str (strV x499))) fun x501 => cnd (chk .str x501)
             (callp O 10 [(.str (strV x501))] fun x503 => cnd (chk .bool x503)
             (cnd ((boolV x503) == true)
              (callp O 5 [] fun x505 => cnd (chk .bool x505)
              (some ((.bool (boolV x505)), [])) none)
              (some ((.bool false), []))) none) none) none))
            (cnd (decide (c ≥ 65))
             (cnd (decide (c ≤ 90))
              (cnd (!(boolV x5))
               (callp O 5 [] fun x507 => cnd (chk .bool x507)
               (some ((.bool (boolV x507)), [])) none)
               (bnd (toStr (.slice [(.int .u8 c)] [] true)) fun x509 => cnd (chk .str x509)
               (bnd (bin .add (.str s) (.str (strV x509))) fun x511 => cnd (chk .str x511)
               (callp O 10 [(.str (strV x511))] fun x513 => cnd (chk .bool x513)
               (cnd ((boolV x513) == true)
                (callp O 5 [] fun x515 => cnd (chk .bool x515)
                (some ((.bool (boolV x515)), [])) none)
                (some ((.bool false), []))) none) none) none))
              (cnd (!(boolV x5))
               (callp O 5 [] fun x517 => cnd (chk .bool x517)
               (some ((.bool (boolV x517)), [])) none)
               (bnd (toStr (.slice [(.int .u8 c)] [] true)) fun x519 => cnd (chk .str x519)
               (bnd (bin .add (.str s) (.str (strV x519))) fun x521 => cnd (chk .str x521)
               (callp O 10 [(.str (strV x521))] fun x523 => cnd (chk .bool x523)
               (cnd ((boolV x523) == (c == 95))
                (callp O 5 [] fun x525 => cnd (chk .bool x525)
                (some ((.bool (boolV x525)), [])) none)
                (some ((.bool false), []))) none) none) none)))
             (cnd (!(boolV x5))
              (callp O 5 [] fun x527 => cnd (chk .bool x527)
              (some ((.bool (boolV x527)), [])) none)
              (bnd (toStr (.slice [(.int .u8 c)] [] true)) fun x529 => cnd (chk .str x529)
              (bnd (bin .add (.str s) (.str (strV x529))) fun x531 => cnd (chk .str x531)
              (callp O 10 [(.str (strV x531))] fun x533 => cnd (chk .bool x533)
              (cnd ((boolV x533) == (c == 95))
               (callp O 5 [] fun x535 => cnd (chk .bool x535)
               (some ((.bool (boolV x535)), [])) none)
               (some ((.bool false), []))) none) none) none))))
           (cnd (decide (c ≥ 65))
            (cnd (decide (c ≤ 90))
             (cnd (!(boolV x5))
              (callp O 5 [] fun x537 => cnd (chk .bool x537)
              (some ((.bool (boolV x537)), [])) none)
              (bnd (toStr (.slice [(.int .u8 c)] [] true)) fun x539 => cnd (chk .str x539)
              (bnd (bin .add (.str s) (.str (strV x539))) fun x541 => cnd (chk .str x541)
              (callp O 10 [(.str (strV x541))] fun x543 => cnd (chk .bool x543)
              (cnd ((boolV x543) == true)
               (callp O 5 [] fun x545 => cnd (chk .bool x545)
               (some ((.bool (boolV x545)), [])) none)
               (some ((.bool false), []))) none) none) none))
             (cnd (!(boolV x5))
              (callp O 5 [] fun x547 => cnd (chk .bool x547)
              (some ((.bool (boolV x547)), [])) none)
              (bnd (toStr (.slice [(.int .u8 c)] [] true)) fun x549 => cnd (chk .str x549)
              (bnd (bin .add (.str s) (.str (strV x549))) fun x551 => cnd (chk .str x551)
              (callp O 10 [(.str (strV x551))] fun x553 => cnd (chk .bool x553)
              (cnd ((boolV x553) == (c == 95))
               (callp O 5 [] fun x555 => cnd (chk .bool x555)
               (some ((.bool (boolV x555)), [])) none)
               (some ((.bool false), []))) none) none) none)))
            (cnd (!(boolV x5))
             (callp O 5 [] fun x557 => cnd (chk .bool x557)
             (some ((.bool (boolV x557)), [])) none)
             (bnd (toStr (.slice [(.int .u8 c)] [] true)) fun x559 => cnd (chk .str x559)
             (bnd (bin .add (.str s) (.str (strV x559))) fun x561 => cnd (chk .str x561)
             (callp O 10 [(.str (strV x561))] fun x563 => cnd (chk .bool x563)
             (cnd ((boolV x563) == (c == 95))
              (callp O 5 [] fun x565 => cnd (chk .bool x565)
              (some ((.bool (boolV x565)), [])) none)
              (some ((.bool false), []))) none) none) none)))))
         (cnd (decide (c ≥ 97))
          (cnd (decide (c ≤ 122))
           (cnd (!(boolV x5))
            (callp O 5 [] fun x567 => cnd (chk .bool x567)
            (some ((.bool (boolV x567)), [])) none)
            (bnd (toStr (.slice [(.int .u8 c)] [] true)) fun x569 => cnd (chk .str x569)
            (bnd (bin .add (.str s) (.str (strV x569))) fun x571 => cnd (chk .str x571)
            (callp O 10 [(.str (strV x571))] fun x573 => cnd (chk .bool x573)
            (cnd ((boolV x573) == true)
             (callp O 5 [] fun x575 => cnd (chk .bool x575)
             (some ((.bool (boolV x575)), [])) none)
             (some ((.bool false), []))) none) none) none))
           (cnd (decide (c ≥ 65))
            (cnd (decide (c ≤ 90))
             (cnd (!(boolV x5))
              (callp O 5 [] fun x577 => cnd (chk .bool x577)
              (some ((.bool (boolV x577)), [])) none)
              (bnd (toStr (.slice [(.int .u8 c)] [] true)) fun x579 => cnd (chk .str x579)
              (bnd (bin .add (.str s) (.str (strV x579))) fun x581 => cnd (chk .str x581)
              (callp O 10 [(.str (strV x581))] fun x583 => cnd (chk .bool x583)
              (cnd ((boolV x583) == true)
               (callp O 5 [] fun x585 => cnd (chk .bool x585)
               (some ((.bool (boolV x585)), [])) none)
               (some ((.bool false), []))) none) none) none))
             (cnd (!(boolV x5))
              (callp O 5 [] fun x587 => cnd (chk .bool x587)
              (some ((.bool (boolV x587)), [])) none)
              (bnd (toStr (.slice [(.int .u8 c)] [] true)) fun x589 => cnd (chk .str x589)
              (bnd (bin .add (.str s) (.str (strV x589))) fun x591 => cnd (chk .str x591)
              (callp O 10 [(.str (strV x591))] fun x593 => cnd (chk .bool x593)
              (cnd ((boolV x593) == (c == 95))
               (callp O 5 [] fun x595 => cnd (chk .bool x595)
               (some ((.bool (boolV x595)), [])) none)
               (some ((.bool false), []))) none) none) none)))
            (cnd (!(boolV x5))
             (callp O 5 [] fun x597 => cnd (chk .bool x597)
             (some ((.bool (boolV x597)), [])) none)
             (bnd (toStr (.slice [(.int .u8 c)] [] true)) fun x599 => cnd (chk .str x599)
             (bnd (bin .add (.str s) (.str (strV x599))) fun x601 => cnd (chk .str x601)
             (callp O 10 [(.str (strV x601))] fun x603 => cnd (chk .bool x603)
             (cnd ((boolV x603) == (c == 95))
              (callp O 5 [] fun x605 => cnd (chk .bool x605)
              (some ((.bool (boolV x605)), [])) none)
              (some ((.bool false), []))) none) none) none))))
          (cnd (decide (c ≥ 65))
           (cnd (decide (c ≤ 90))
            (cnd (!(boolV x5))
             (callp O 5 [] fun x607 => cnd (chk .bool x607)
             (some ((.bool (boolV x607)), [])) none)
             (bnd (toStr (.slice [(.int .u8 c)] [] true)) fun x609 => cnd (chk .str x609)
             (bnd (bin .add (.str s) (.str (strV x609))) fun x611 => cnd (chk .str x611)
             (callp O 10 [(.str (strV x611))] fun x613 => cnd (chk .bool x613)
             (cnd ((boolV x613) == true)
              (callp O 5 [] fun x615 => cnd (chk .bool x615)
              (some ((.bool (boolV x615)), [])) none)
              (some ((.bool false), []))) none) none) none))
            (cnd (!(boolV x5))
             (callp O 5 [] fun x617 => cnd (chk .bool x617)
             (some ((.bool (boolV x617)), [])) none)
             (bnd (toStr (.slice [(.int .u8 c)] [] true)) fun x619 => cnd (chk .str x619)
             (bnd (bin .add (.str s) (.str (strV x619))) fun x621 => cnd (chk .str x621)
             (callp O 10 [(.str (strV x621))] fun x623 => cnd (chk .bool x623)
             (cnd ((boolV x623) == (c == 95))
              (callp O 5 [] fun x625 => cnd (chk .bool x625)
              (some ((.bool (boolV x625)), [])) none)
              (some ((.bool false), []))) none) none) none)))
           (cnd (!(boolV x5))
            (callp O 5 [] fun x627 => cnd (chk .bool x627)
            (some ((.bool (boolV x627)), [])) none)
            (bnd (toStr (.slice [(.int .u8 c)] [] true)) fun x629 => cnd (chk .str x629)
            (bnd (bin .add (.str s) (.str (strV x629))) fun x631 => cnd (chk .str x631)
            (callp O 10 [(.str (strV x631))] fun x633 => cnd (chk .bool x633)
            (cnd ((boolV x633) == (c == 95))
             (callp O 5 [] fun x635 => cnd (chk .bool x635)
             (some ((.bool (boolV x635)), [])) none)
             (some ((.bool false), []))) none) none) none)))))) none) none)))
     (cnd (boolV x5)
      (bnd (bin .add (.str s) (.str [48, 57])) fun x637 => cnd (chk .str x637)
      (callp O 10 [(.str (strV x637))] fun x639 => cnd (chk .bool x639)
      (cnd (!(boolV x639))
       (some ((.bool false), []))
       (bnd (bin .add (.str [55]) (.str s)) fun x641 => cnd (chk .str x641)
       (callp O 10 [(.str (strV x641))] fun x643 => cnd (chk .bool x643)
       (cnd (boolV x643)
        (some ((.bool false), []))
        (cnd (decide (c ≥ 48))
         (cnd (decide (c ≤ 57))
          (cnd (!(boolV x5))
           (callp O 5 [] fun x645 => cnd (chk .bool x645)
           (some ((.bool (boolV x645)), [])) none)
           (bnd (toStr (.slice [(.int .u8 c)] [] true)) fun x647 => cnd (chk .str x647)
           (bnd (bin .add (.str s) (.str (strV x647))) fun x649 => cnd (chk .str x649)
           (callp O 10 [(.str (strV x649))] fun x651 => cnd (chk .bool x651)
           (cnd ((boolV x651) == true)
            (callp O 5 [] fun x653 => cnd (chk .bool x653)
            (some ((.bool (boolV x653)), [])) none)
            (some ((.bool false), []))) none) none) none))
          (cnd (decide (c ≥ 97))
           (cnd (decide (c ≤ 122))
            (cnd (!(boolV x5))
             (callp O 5 [] fun x655 => cnd (chk .bool x655)
             (some ((.bool (boolV x655)), [])) none)
             (bnd (toStr (.slice [(.int .u8 c)] [] true)) fun x657 => cnd (chk .str x657)
             (bnd (bin .add (.str s) (.str (strV x657))) fun x659 => cnd (chk .str x659)
             (callp O 10 [(.str (strV x659))] fun x661 => cnd (chk .bool x661)
             (cnd ((boolV x661) == true)
              (callp O 5 [] fun x663 => cnd (chk .bool x663)
              (some ((.bool (boolV x663)), [])) none)
              (some ((.bool false), []))) none) none) none))
            (cnd (decide (c ≥ 65))
             (cnd (decide (c ≤ 90))
              (cnd (!(boolV x5))
               (callp O 5 [] fun x665 => cnd (chk .bool x665)
               (some ((.bool (boolV x665)), [])) none)
               (bnd (toStr (.slice [(.int .u8 c)] [] true)) fun x667 => cnd (chk .str x667)
               (bnd (bin .add (.str s) (.str (strV x667))) fun x669 => cnd (chk .str x669)
               (callp O 10 [(.str (strV x669))] fun x671 => cnd (chk .bool x671)
               (cnd ((boolV x671) == true)
                (callp O 5 [] fun x673 => cnd (chk .bool x673)
                (some ((.bool (boolV x673)), [])) none)
                (some ((.bool false), []))) none) none) none))
              (cnd (!(boolV x5))
               (callp O 5 [] fun x675 => cnd (chk .bool x675)
               (some ((.bool (boolV x675)), [])) none)
               (bnd (toStr (.slice [(.int .u8 c)] [] true)) fun x677 => cnd (chk .str x677)
               (bnd (bin .add (.str s) (.str (strV x677))) fun x679 => cnd (chk .str x679)
               (callp O 10 [(.str (strV x679))] fun x681 => cnd (chk .bool x681)
               (cnd ((boolV x681) == (c == 95))
                (callp O 5 [] fun x683 => cnd (chk .bool x683)
                (some ((.bool (boolV x683)), [])) none)
                (some ((.bool false), []))) none) none) none)))
             (cnd (!(boolV x5))
              (callp O 5 [] fun x685 => cnd (chk .bool x685)
              (some ((.bool (boolV x685)), [])) none)
              (bnd (toStr (.slice [(.int .u8 c)] [] true)) fun x687 => cnd (chk .str x687)
              (bnd (bin .add (.str s) (.str (strV x687))) fun x689 => cnd (chk .str x689)
              (callp O 10 [(.str (strV x689))] fun x691 => cnd (chk .bool x691)
              (cnd ((boolV x691) == (c == 95))
               (callp O 5 [] fun x693 => cnd (chk .bool x693)
               (some ((.bool (boolV x693)), [])) none)
               (some ((.bool false), []))) none) none) none))))
           (cnd (decide (c ≥ 65))
            (cnd (decide (c ≤ 90))
             (cnd (!(boolV x5))
              (callp O 5 [] fun x695 => cnd (chk .bool x695)
              (some ((.bool (boolV x695)), [])) none)
              (bnd (toStr (.slice [(.int .u8 c)] [] true)) fun x697 => cnd (chk .str x697)
              (bnd (bin .add (.str s) (.str (strV x697))) fun x699 => cnd (chk .str x699)
              (callp O 10 [(.str (strV x699))] fun x701 => cnd (chk .bool x701)
              (cnd ((boolV x701) == true)
               (callp O 5 [] fun x703 => cnd (chk .bool x703)
               (some ((.bool (boolV x703)), [])) none)
               (some ((.bool false), []))) none) none) none))
             (cnd (!(boolV x5))
              (callp O 5 [] fun x705 => cnd (chk .bool x705)
              (some ((.bool (boolV x705)), [])) none)
              (bnd (toStr (.slice [(.int .u8 c)] [] true)) fun x707 => cnd (chk .str x707)
              (bnd (bin .add (.str s) (.str (strV x707))) fun x709 => cnd (chk .str x709)
              (callp O 10 [(.str (strV x709))] fun x711 => cnd (chk .bool x711)
              (cnd ((boolV x711) == (c == 95))
               (callp O 5 [] fun x713 => cnd (chk .bool x713)
               (some ((.bool (boolV x713)), [])) none)
               (some ((.bool false), []))) none) none) none)))
            (cnd (!(boolV x5))
             (callp O 5 [] fun x715 => cnd (chk .bool x715)
             (some ((.bool (boolV x715)), [])) none)
             (bnd (toStr (.slice [(.int .u8 c)] [] true)) fun x717 => cnd (chk .str x717)
             (bnd (bin .add (.str s) (.str (strV x717))) fun x719 => cnd (chk .str x719)
             (callp O 10 [(.str (strV x719))] fun x721 => cnd (chk .bool x721)
             (cnd ((boolV x721) == (c == 95))
              (callp O 5 [] fun x723 => cnd (chk .bool x723)
              (some ((.bool (boolV x723)), [])) none)
              (some ((.bool false), []))) none) none) none)))))
         (cnd (decide (c ≥ 97))
          (cnd (decide (c ≤ 122))
           (cnd (!(boolV x5))
            (callp O 5 [] fun x725 => cnd (chk .bool x725)
            (some ((.bool (boolV x725)), [])) none)
            (bnd (toStr (.slice [(.int .u8 c)] [] true)) fun x727 => cnd (chk .str x727)
            (bnd (bin .add (.str s) (.str (strV x727))) fun x729 => cnd (chk .str x729)
            (callp O 10 [(.str (strV x729))] fun x731 => cnd (chk .bool x731)
            (cnd ((boolV x731) == true)
             (callp O 5 [] fun x733 => cnd (chk .bool x733)
             (some ((.bool (boolV x733)), [])) none)
             (some ((.bool false), []))) none) none) none))
           (cnd (decide (c ≥ 65))
            (cnd (decide (c ≤ 90))
             (cnd (!(boolV x5))
              (callp O 5 [] fun x735 => cnd (chk .bool x735)
              (some ((.bool (boolV x735)), [])) none)
              (bnd (toStr (.slice [(.int .u8 c)] [] true)) fun x737 => cnd (chk .str x737)
              (bnd (bin .add (.str s) (.str (strV x737))) fun x739 => cnd (chk .str x739)
              (callp O 10 [(.str (strV x739))] fun x741 => cnd (chk .bool x741)
              (cnd ((boolV x741) == true)
               (callp O 5 [] fun x743 => cnd (chk .bool x743)
               (some ((.bool (boolV x743)), [])) none)
               (some ((.bool false), []))) none) none) none))
             (cnd (!(boolV x5))
              (callp O 5 [] fun x745 => cnd (chk .bool x745)
              (some ((.bool (boolV x745)), [])) none)
              (bnd (toStr (.slice [(.int .u8 c)] [] true)) fun x747 => cnd (chk .str x747)
              (bnd (bin .add (.str s) (.str (strV x747))) fun x749 => cnd (chk .str x749)
              (callp O 10 [(.str (strV x749))] fun x751 => cnd (chk .bool x751)
              (cnd ((boolV x751) == (c == 95))
               (callp O 5 [] fun x753 => cnd (chk .bool x753)
               (some ((.bool (boolV x753)), [])) none)
               (some ((.bool false), []))) none) none) none)))
            (cnd (!(boolV x5))
             (callp O 5 [] fun x755 => cnd (chk .bool x755)
             (some ((.bool (boolV x755)), [])) none)
             (bnd (toStr (.slice [(.int .u8 c)] [] true)) fun x757 => cnd (chk .str x757)
             (bnd (bin .add (.str s) (.str (strV x757))) fun x759 => cnd (chk .str x759)
             (callp O 10 [(.str (strV x759))] fun x761 => cnd (chk .bool x761)
             (cnd ((boolV x761) == (c == 95))
              (callp O 5 [] fun x763 => cnd (chk .bool x763)
              (some ((.bool (boolV x763)), [])) none)
              (some ((.bool false), []))) none) none) none))))
          (cnd (decide (c ≥ 65))
           (cnd (decide (c ≤ 90))
            (cnd (!(boolV x5))
             (callp O 5 [] fun x765 => cnd (chk .bool x765)
             (some ((.bool (boolV x765)), [])) none)
             (bnd (toStr (.slice [(.int .u8 c)] [] true)) fun x767 => cnd (chk .str x767)
             (bnd (bin .add (.str s) (.str (strV x767))) fun x769 => cnd (chk .str x769)
             (callp O 10 [(.str (strV x769))] fun x771 => cnd (chk .bool x771)
             (cnd ((boolV x771) == true)
              (callp O 5 [] fun x773 => cnd (chk .bool x773)
              (some ((.bool (boolV x773)), [])) none)
              (some ((.bool false), []))) none) none) none))
            (cnd (!(boolV x5))
             (callp O 5 [] fun x775 => cnd (chk .bool x775)
             (some ((.bool (boolV x775)), [])) none)
             (bnd (toStr (.slice [(.int .u8 c)] [] true)) fun x777 => cnd (chk .str x777)
             (bnd (bin .add (.str s) (.str (strV x777))) fun x779 => cnd (chk .str x779)
             (callp O 10 [(.str (strV x779))] fun x781 => cnd (chk .bool x781)
             (cnd ((boolV x781) == (c == 95))
              (callp O 5 [] fun x783 => cnd (chk .bool x783)
              (some ((.bool (boolV x783)), [])) none)
              (some ((.bool false), []))) none) none) none)))
           (cnd (!(boolV x5))
            (callp O 5 [] fun x785 => cnd (chk .bool x785)
            (some ((.bool (boolV x785)), [])) none)
            (bnd (toStr (.slice [(.int .u8 c)] [] true)) fun x787 => cnd (chk .str x787)
            (bnd (bin .add (.str s) (.str (strV x787))) fun x789 => cnd (chk .str x789)
            (callp O 10 [(.str (strV x789))] fun x791 => cnd (chk .bool x791)
            (cnd ((boolV x791) == (c == 95))
             (callp O 5 [] fun x793 => cnd (chk .bool x793)
             (some ((.bool (boolV x793)), [])) none)
             (some ((.bool false), []))) none) none) none)))))) none) none)) none) none)
      (bnd (bin .add (.str [55]) (.str s)) fun x795 => cnd (chk .str x795)
      (callp O 10 [(.str (strV x795))] fun x797 => cnd (chk .bool x797)
      (cnd (boolV x797)
       (some ((.bool false), []))
       (cnd (decide (c ≥ 48))
        (cnd (decide (c ≤ 57))
         (cnd (!(boolV x5))
          (callp O 5 [] fun x799 => cnd (chk .bool x799)
          (some ((.bool (boolV x799)), [])) none)
          (bnd (toStr (.slice [(.int .u8 c)] [] true)) fun x801 => cnd (chk .str x801)
          (bnd (bin .add (.str s) (.str (strV x801))) fun x803 => cnd (chk .str x803)
          (callp O 10 [(.str (strV x803))] fun x805 => cnd (chk .bool x805)
          (cnd ((boolV x805) == true)
           (callp O 5 [] fun x807 => cnd (chk .bool x807)
           (some ((.bool (boolV x807)), [])) none)
           (some ((.bool false), []))) none) none) none))
         (cnd (decide (c ≥ 97))
          (cnd (decide (c ≤ 122))
           (cnd (!(boolV x5))
            (callp O 5 [] fun x809 => cnd (chk .bool x809)
            (some ((.bool (boolV x809)), [])) none)
            (bnd (toStr (.slice [(.int .u8 c)] [] true)) fun x811 => cnd (chk .str x811)
            (bnd (bin .add (.str s) (.str (strV x811))) fun x813 => cnd (chk .str x813)
            (callp O 10 [(.str (strV x813))] fun x815 => cnd (chk .bool x815)
            (cnd ((boolV x815) == true)
             (callp O 5 [] fun x817 => cnd (chk .bool x817)
             (some ((.bool (boolV x817)), [])) none)
             (some ((.bool false), []))) none) none) none))
           (cnd (decide (c ≥ 65))
            (cnd (decide (c ≤ 90))
             (cnd (!(boolV x5))
              (callp O 5 [] fun x819 => cnd (chk .bool x819)
              (some ((.bool (boolV x819)), [])) none)
              (bnd (toStr (.slice [(.int .u8 c)] [] true)) fun x821 => cnd (chk .str x821)
              (bnd (bin .add (.str s) (.str (strV x821))) fun x823 => cnd (chk .str x823)
              (callp O 10 [(.str (strV x823))] fun x825 => cnd (chk .bool x825)
              (cnd ((boolV x825) == true)
               (callp O 5 [] fun x827 => cnd (chk .bool x827)
               (some ((.bool (boolV x827)), [])) none)
               (some ((.bool false), []))) none) none) none))
             (cnd (!(boolV x5))
              (callp O 5 [] fun x829 => cnd (chk .bool x829)
              (some ((.bool (boolV x829)), [])) none)
              (bnd (toStr (.slice [(.int .u8 c)] [] true)) fun x831 => cnd (chk .str x831)
              (bnd (bin .add (.str s) (.str (strV x831))) fun x833 => cnd (chk .str x833)
              (callp O 10 [(.str (strV x833))] fun x835 => cnd (chk .bool x835)
              (cnd ((boolV x835) == (c == 95))
               (callp O 5 [] fun x837 => cnd (chk .bool x837)
               (some ((.bool (boolV x837)), [])) none)
               (some ((.bool false), []))) none) none) none)))
            (cnd (!(boolV x5))
             (callp O 5 [] fun x839 => cnd (chk .bool x839)
             (some ((.bool (boolV x839)), [])) none)
             (bnd (toStr (.slice [(.int .u8 c)] [] true)) fun x841 => cnd (chk .str x841)
             (bnd (bin .add (.str s) (.str (strV x841))) fun x843 => cnd (chk .str x843)
             (callp O 10 [(.str (strV x843))] fun x845 => cnd (chk .bool x845)
             (cnd ((boolV x845) == (c == 95))
              (callp O 5 [] fun x847 => cnd (chk .bool x847)
              (some ((.bool (boolV x847)), [])) none)
              (some ((.bool false), []))) none) none) none))))
          (cnd (decide (c ≥ 65))
           (cnd (decide (c ≤ 90))
            (cnd (!(boolV x5))
             (callp O 5 [] fun x849 => cnd (chk .bool x849)
             (some ((.bool (boolV x849)), [])) none)
             (bnd (toStr (.slice [(.int .u8 c)] [] true)) fun x851 => cnd (chk .str x851)
             (bnd (bin .add (.str s) (.str (strV x851))) fun x853 => cnd (chk .str x853)
             (callp O 10 [(.str (strV x853))] fun x855 => cnd (chk .bool x855)
             (cnd ((boolV x855) == true)
              (callp O 5 [] fun x857 => cnd (chk .bool x857)
              (some ((.bool (boolV x857)), [])) none)
              (some ((.bool false), []))) none) none) none))
            (cnd (!(boolV x5))
             (callp O 5 [] fun x859 => cnd (chk .bool x859)
             (some ((.bool (boolV x859)), [])) none)
             (bnd (toStr (.slice [(.int .u8 c)] [] true)) fun x861 => cnd (chk .str x861)
             (bnd (bin .add (.str s) (.str (strV x861))) fun x863 => cnd (chk .str x863)
             (callp O 10 [(.str (strV x863))] fun x865 => cnd (chk .bool x865)
             (cnd ((boolV x865) == (c == 95))
              (callp O 5 [] fun x867 => cnd (chk .bool x867)
              (some ((.bool (boolV x867)), [])) none)
              (some ((.bool false), []))) none) none) none)))
           (cnd (!(boolV x5))
            (callp O 5 [] fun x869 => cnd (chk .bool x869)
            (some ((.bool (boolV x869)), [])) none)
            (bnd (toStr (.slice [(.int .u8 c)] [] true)) fun x871 => cnd (chk .str x871)
            (bnd (bin .add (.str s) (.str (strV x871))) fun x873 => cnd (chk .str x873)
            (callp O 10 [(.str (strV x873))] fun x875 => cnd (chk .bool x875)
            (cnd ((boolV x875) == (c == 95))
             (callp O 5 [] fun x877 => cnd (chk .bool x877)
             (some ((.bool (boolV x877)), [])) none)
             (some ((.bool false), []))) none) none) none)))))
        (cnd (decide (c ≥ 97))
         (cnd (decide (c ≤ 122))
          (cnd (!(boolV x5))
           (callp O 5 [] fun x879 => cnd (chk .bool x879)
           (some ((.bool (boolV x879)), [])) none)
           (bnd (toStr (.slice [(.int .u8 c)] [] true)) fun x881 => cnd (chk .str x881)
           (bnd (bin .add (.str s) (.str (strV x881))) fun x883 => cnd (chk .str x883)
           (callp O 10 [(.str (strV x883))] fun x885 => cnd (chk .bool x885)
           (cnd ((boolV x885) == true)
            (callp O 5 [] fun x887 => cnd (chk .bool x887)
            (some ((.bool (boolV x887)), [])) none)
            (some ((.bool false), []))) none) none) none))
          (cnd (decide (c ≥ 65))
           (cnd (decide (c ≤ 90))
            (cnd (!(boolV x5))
             (callp O 5 [] fun x889 => cnd (chk .bool x889)
             (some ((.bool (boolV x889)), [])) none)
             (bnd (toStr (.slice [(.int .u8 c)] [] true)) fun x891 => cnd (chk .str x891)
             (bnd (bin .add (.str s) (.str (strV x891))) fun x893 => cnd (chk .str x893)
             (callp O 10 [(.str (strV x893))] fun x895 => cnd (chk .bool x895)
             (cnd ((boolV x895) == true)
              (callp O 5 [] fun x897 => cnd (chk .bool x897)
              (some ((.bool (boolV x897)), [])) none)
              (some ((.bool false), []))) none) none) none))
            (cnd (!(boolV x5))
             (callp O 5 [] fun x899 => cnd (chk .bool x899)
             (some ((.bool (boolV x899)), [])) none)
             (bnd (toStr (.slice [(.int .u8 c)] [] true)) fun x901 => cnd (chk .str x901)
             (bnd (bin .add (.str s) (.str (strV x901))) fun x903 => cnd (chk .str x903)
             (callp O 10 [(.str (strV x903))] fun x905 => cnd (chk .bool x905)
             (cnd ((boolV x905) == (c == 95))
              (callp O 5 [] fun x907 => cnd (chk .bool x907)
              (some ((.bool (boolV x907)), [])) none)
              (some ((.bool false), []))) none) none) none)))
           (cnd (!(boolV x5))
            (callp O 5 [] fun x909 => cnd (chk .bool x909)
            (some ((.bool (boolV x909)), [])) none)
            (bnd (toStr (.slice [(.int .u8 c)] [] true)) fun x911 => cnd (chk .str x911)
            (bnd (bin .add (.str s) (.str (strV x911))) fun x913 => cnd (chk .str x913)
            (callp O 10 [(.str (strV x913))] fun x915 => cnd (chk .bool x915)
            (cnd ((boolV x915) == (c == 95))
             (callp O 5 [] fun x917 => cnd (chk .bool x917)
             (some ((.bool (boolV x917)), [])) none)
             (some ((.bool false), []))) none) none) none))))
         (cnd (decide (c ≥ 65))
          (cnd (decide (c ≤ 90))
           (cnd (!(boolV x5))
            (callp O 5 [] fun x919 => cnd (chk .bool x919)
            (some ((.bool (boolV x919)), [])) none)
            (bnd (toStr (.slice [(.int .u8 c)] [] true)) fun x921 => cnd (chk .str x921)
            (bnd (bin .add (.str s) (.str (strV x921))) fun x923 => cnd (chk .str x923)
            (callp O 10 [(.str (strV x923))] fun x925 => cnd (chk .bool x925)
            (cnd ((boolV x925) == true)
             (callp O 5 [] fun x927 => cnd (chk .bool x927)
             (some ((.bool (boolV x927)), [])) none)
             (some ((.bool false), []))) none) none) none))
           (cnd (!(boolV x5))
            (callp O 5 [] fun x929 => cnd (chk .bool x929)
            (some ((.bool (boolV x929)), [])) none)
            (bnd (toStr (.slice [(.int .u8 c)] [] true)) fun x931 => cnd (chk .str x931)
            (bnd (bin .add (.str s) (.str (strV x931))) fun x933 => cnd (chk .str x933)
            (callp O 10 [(.str (strV x933))] fun x935 => cnd (chk .bool x935)
            (cnd ((boolV x935) == (c == 95))
             (callp O 5 [] fun x937 => cnd (chk .bool x937)
             (some ((.bool (boolV x937)), [])) none)
             (some ((.bool false), []))) none) none) none)))
          (cnd (!(boolV x5))
           (callp O 5 [] fun x939 => cnd (chk .bool x939)
           (some ((.bool (boolV x939)), [])) none)
           (bnd (toStr (.slice [(.int .u8 c)] [] true)) fun x941 => cnd (chk .str x941)
           (bnd (bin .add (.str s) (.str (strV x941))) fun x943 => cnd (chk .str x943)
           (callp O 10 [(.str (strV x943))] fun x945 => cnd (chk .bool x945)
           (cnd ((boolV x945) == (c == 95))
            (callp O 5 [] fun x947 => cnd (chk .bool x947)
            (some ((.bool (boolV x947)), [])) none)
            (some ((.bool false), []))) none) none) none)))))) none) none))) none) none))
noncomputable def seinelaw1_LettersNames_B (s : Str) (t : Str) (c : Int) : Option Bool :=
  cnd (decide ((List.length s : Int) > 3000))
   (bnd (seinelaw1_awake) fun y2 =>
   some y2)
   (cnd (decide ((List.length t : Int) > 3000))
    (bnd (seinelaw1_awake) fun y4 =>
    some y4)
    (bnd (letters_Name s) fun y6 =>
    bnd (letters_Name t) fun y8 =>
    cnd y6
     (cnd y8
      (bnd (tapp s t) fun y10 =>
      bnd (letters_Name y10) fun y12 =>
      cnd (!y12)
       (some false)
       (cnd y6
        (bnd (tapp s ([48, 57] : Str)) fun y14 =>
        bnd (letters_Name y14) fun y16 =>
        cnd (!y16)
         (some false)
         (bnd (tapp ([55] : Str) s) fun y18 =>
         bnd (letters_Name y18) fun y20 =>
         cnd y20
          (some false)
          (cnd (decide (c ≥ 48))
           (cnd (decide (c ≤ 57))
            (cnd (!y6)
             (bnd (seinelaw1_awake) fun y22 =>
             some y22)
             (bnd (some (bytesT [c])) fun y24 =>
             bnd (tapp s y24) fun y26 =>
             bnd (letters_Name y26) fun y28 =>
             cnd (y28 == true)
              (bnd (seinelaw1_awake) fun y30 =>
              some y30)
              (some false)))
            (cnd (decide (c ≥ 97))
             (cnd (decide (c ≤ 122))
              (cnd (!y6)
               (bnd (seinelaw1_awake) fun y32 =>
               some y32)
               (bnd (some (bytesT [c])) fun y34 =>
               bnd (tapp s y34) fun y36 =>
               bnd (letters_Name y36) fun y38 =>
               cnd (y38 == true)
                (bnd (seinelaw1_awake) fun y40 =>
                some y40)
                (some false)))
              (cnd (decide (c ≥ 65))
               (cnd (decide (c ≤ 90))
                (cnd (!y6)
                 (bnd (seinelaw1_awake) fun y42 =>
                 some y42)
                 (bnd (some (bytesT [c])) fun y44 =>
                 bnd (tapp s y44) fun y46 =>
                 bnd (letters_Name y46) fun y48 =>
                 cnd (y48 == true)
                  (bnd (seinelaw1_awake) fun y50 =>
                  some y50)
                  (some false)))
                (cnd (!y6)
                 (bnd (seinelaw1_awake) fun y52 =>
                 some y52)
                 (bnd (some (bytesT [c])) fun y54 =>
                 bnd (tapp s y54) fun y56 =>
                 bnd (letters_Name y56) fun y58 =>
                 cnd (y58 == (c == 95))
                  (bnd (seinelaw1_awake) fun y60 =>
                  some y60)
                  (some false))))
               (cnd (!y6)
                (bnd (seinelaw1_awake) fun y62 =>
                some y62)
                (bnd (some (bytesT [c])) fun y64 =>
                bnd (tapp s y64) fun y66 =>
                bnd (letters_Name y66) fun y68 =>
                cnd (y68 == (c == 95))
                 (bnd (seinelaw1_awake) fun y70 =>
                 some y70)
                 (some false)))))
             (cnd (decide (c ≥ 65))
              (cnd (decide (c ≤ 90))
               (cnd (!y6)
                (bnd (seinelaw1_awake) fun y72 =>
                some y72)
                (bnd (some (bytesT [c])) fun y74 =>
                bnd (tapp s y74) fun y76 =>
                bnd (letters_Name y76) fun y78 =>
                cnd (y78 == true)
                 (bnd (seinelaw1_awake) fun y80 =>
                 some y80)
                 (some false)))
               (cnd (!y6)
                (bnd (seinelaw1_awake) fun y82 =>
                some y82)
                (bnd (some (bytesT [c])) fun y84 =>
                bnd (tapp s y84) fun y86 =>
                bnd (letters_Name y86) fun y88 =>
                cnd (y88 == (c == 95))
                 (bnd (seinelaw1_awake) fun y90 =>
                 some y90)
                 (some false))))
              (cnd (!y6)
               (bnd (seinelaw1_awake) fun y92 =>
               some y92)
               (bnd (some (bytesT [c])) fun y94 =>
               bnd (tapp s y94) fun y96 =>
               bnd (letters_Name y96) fun y98 =>
               cnd (y98 == (c == 95))
                (bnd (seinelaw1_awake) fun y100 =>
                some y100)
                (some false))))))
           (cnd (decide (c ≥ 97))
            (cnd (decide (c ≤ 122))
             (cnd (!y6)
              (bnd (seinelaw1_awake) fun y102 =>
              some y102)
              (bnd (some (bytesT [c])) fun y104 =>
              bnd (tapp s y104) fun y106 =>
              bnd (letters_Name y106) fun y108 =>
              cnd (y108 == true)
               (bnd (seinelaw1_awake) fun y110 =>
               some y110)
               (some false)))
             (cnd (decide (c ≥ 65))
              (cnd (decide (c ≤ 90))
               (cnd (!y6)
                (bnd (seinelaw1_awake) fun y112 =>
                some y112)
                (bnd (some (bytesT [c])) fun y114 =>
                bnd (tapp s y114) fun y116 =>
                bnd (letters_Name y116) fun y118 =>
                cnd (y118 == true)
                 (bnd (seinelaw1_awake) fun y120 =>
                 some y120)
                 (some false)))
               (cnd (!y6)
                (bnd (seinelaw1_awake) fun y122 =>
                some y122)
                (bnd (some (bytesT [c])) fun y124 =>
                bnd (tapp s y124) fun y126 =>
                bnd (letters_Name y126) fun y128 =>
                cnd (y128 == (c == 95))
                 (bnd (seinelaw1_awake) fun y130 =>
                 some y130)
                 (some false))))
              (cnd (!y6)
               (bnd (seinelaw1_awake) fun y132 =>
               some y132)
               (bnd (some (bytesT [c])) fun y134 =>
               bnd (tapp s y134) fun y136 =>
               bnd (letters_Name y136) fun y138 =>
               cnd (y138 == (c == 95))
                (bnd (seinelaw1_awake) fun y140 =>
                some y140)
                (some false)))))
            (cnd (decide (c ≥ 65))
             (cnd (decide (c ≤ 90))
              (cnd (!y6)
               (bnd (seinelaw1_awake) fun y142 =>
               some y142)
               (bnd (some (bytesT [c])) fun y144 =>
               bnd (tapp s y144) fun y146 =>
               bnd (letters_Name y146) fun y148 =>
               cnd (y148 == true)
                (bnd (seinelaw1_awake) fun y150 =>
                some y150)
                (some false)))
              (cnd (!y6)
               (bnd (seinelaw1_awake) fun y152 =>
               some y152)
               (bnd (some (bytesT [c])) fun y154 =>
               bnd (tapp s y154) fun y156 =>
               bnd (letters_Name y156) fun y158 =>
               cnd (y158 == (c == 95))
                (bnd (seinelaw1_awake) fun y160 =>
                some y160)
                (some false))))
             (cnd (!y6)
              (bnd (seinelaw1_awake) fun y162 =>
              some y162)
              (bnd (some (bytesT [c])) fun y164 =>
              bnd (tapp s y164) fun y166 =>
              bnd (letters_Name y166) fun y168 =>
              cnd (y168 == (c == 95))
               (bnd (seinelaw1_awake) fun y170 =>
               some y170)
               (some false))))))))
        (bnd (tapp ([55] : Str) s) fun y172 =>
        bnd (letters_Name y172) fun y174 =>
        cnd y174
         (some false)
         (cnd (decide (c ≥ 48))
          (cnd (decide (c ≤ 57))
           (cnd (!y6)
            (bnd (seinelaw1_awake) fun y176 =>
            some y176)
            (bnd (some (bytesT [c])) fun y178 =>
            bnd (tapp s y178) fun y180 =>
            bnd (letters_Name y180) fun y182 =>
            cnd (y182 == true)
             (bnd (seinelaw1_awake) fun y184 =>
             some y184)
             (some false)))
           (cnd (decide (c ≥ 97))
            (cnd (decide (c ≤ 122))
             (cnd (!y6)
              (bnd (seinelaw1_awake) fun y186 =>
              some y186)
              (bnd (some (bytesT [c])) fun y188 =>
              bnd (tapp s y188) fun y190 =>
              bnd (letters_Name y190) fun y192 =>
              cnd (y192 == true)
               (bnd (seinelaw1_awake) fun y194 =>
               some y194)
               (some false)))
             (cnd (decide (c ≥ 65))
              (cnd (decide (c ≤ 90))
               (cnd (!y6)
                (bnd (seinelaw1_awake) fun y196 =>
                some y196)
                (bnd (some (bytesT [c])) fun y198 =>
                bnd (tapp s y198) fun y200 =>
                bnd (letters_Name y200) fun y202 =>
                cnd (y202 == true)
                 (bnd (seinelaw1_awake) fun y204 =>
                 some y204)
                 (some false)))
               (cnd (!y6)
                (bnd (seinelaw1_awake) fun y206 =>
                some y206)
                (bnd (some (bytesT [c])) fun y208 =>
                bnd (tapp s y208) fun y210 =>
                bnd (letters_Name y210) fun y212 =>
                cnd (y212 == (c == 95))
                 (bnd (seinelaw1_awake) fun y214 =>
                 some y214)
                 (some false))))
              (cnd (!y6)
               (bnd (seinelaw1_awake) fun y216 =>
               some y216)
               (bnd (some (bytesT [c])) fun y218 =>
               bnd (tapp s y218) fun y220 =>
               bnd (letters_Name y220) fun y222 =>
               cnd (y222 == (c == 95))
                (bnd (seinelaw1_awake) fun y224 =>
                some y224)
                (some false)))))
            (cnd (decide (c ≥ 65))
             (cnd (decide (c ≤ 90))
              (cnd (!y6)
               (bnd (seinelaw1_awake) fun y226 =>
               some y226)
               (bnd (some (bytesT [c])) fun y228 =>
               bnd (tapp s y228) fun y230 =>
               bnd (letters_Name y230) fun y232 =>
               cnd (y232 == true)
                (bnd (seinelaw1_awake) fun y234 =>
                some y234)
                (some false)))
              (cnd (!y6)
               (bnd (seinelaw1_awake) fun y236 =>
               some y236)
               (bnd (some (bytesT [c])) fun y238 =>
               bnd (tapp s y238) fun y240 =>
               bnd (letters_Name y240) fun y242 =>
               cnd (y242 == (c == 95))
                (bnd (seinelaw1_awake) fun y244 =>
                some y244)
                (some false))))
             (cnd (!y6)
              (bnd (seinelaw1_awake) fun y246 =>
              some y246)
              (bnd (some (bytesT [c])) fun y248 =>
              bnd (tapp s y248) fun y250 =>
              bnd (letters_Name y250) fun y252 =>
              cnd (y252 == (c == 95))
               (bnd (seinelaw1_awake) fun y254 =>
               some y254)
               (some false))))))
          (cnd (decide (c ≥ 97))
           (cnd (decide (c ≤ 122))
            (cnd (!y6)
             (bnd (seinelaw1_awake) fun y256 =>
             some y256)
             (bnd (some (bytesT [c])) fun y258 =>
             bnd (tapp s y258) fun y260 =>
             bnd (letters_Name y260) fun y262 =>
             cnd (y262 == true)
              (bnd (seinelaw1_awake) fun y264 =>
              some y264)
              (some false)))
            (cnd (decide (c ≥ 65))
             (cnd (decide (c ≤ 90))
              (cnd (!y6)
               (bnd (seinelaw1_awake) fun y266 =>
               some y266)
               (bnd (some (bytesT [c])) fun y268 =>
               bnd (tapp s y268) fun y270 =>
               bnd (letters_Name y270) fun y272 =>
               cnd (y272 == true)
                (bnd (seinelaw1_awake) fun y274 =>
                some y274)
                (some false)))
              (cnd (!y6)
               (bnd (seinelaw1_awake) fun y276 =>
               some y276)
               (bnd (some (bytesT [c])) fun y278 =>
               bnd (tapp s y278) fun y280 =>
               bnd (letters_Name y280) fun y282 =>
               cnd (y282 == (c == 95))
                (bnd (seinelaw1_awake) fun y284 =>
                some y284)
                (some false))))
             (cnd (!y6)
              (bnd (seinelaw1_awake) fun y286 =>
              some y286)
              (bnd (some (bytesT [c])) fun y288 =>
              bnd (tapp s y288) fun y290 =>
              bnd (letters_Name y290) fun y292 =>
              cnd (y292 == (c == 95))
               (bnd (seinelaw1_awake) fun y294 =>
               some y294)
               (some false)))))
           (cnd (decide (c ≥ 65))
            (cnd (decide (c ≤ 90))
             (cnd (!y6)
              (bnd (seinelaw1_awake) fun y296 =>
              some y296)
              (bnd (some (bytesT [c])) fun y298 =>
              bnd (tapp s y298) fun y300 =>
              bnd (letters_Name y300) fun y302 =>
              cnd (y302 == true)
               (bnd (seinelaw1_awake) fun y304 =>
               some y304)
               (some false)))
             (cnd (!y6)
              (bnd (seinelaw1_awake) fun y306 =>
              some y306)
              (bnd (some (bytesT [c])) fun y308 =>
              bnd (tapp s y308) fun y310 =>
              bnd (letters_Name y310) fun y312 =>
              cnd (y312 == (c == 95))
               (bnd (seinelaw1_awake) fun y314 =>
               some y314)
               (some false))))
            (cnd (!y6)
             (bnd (seinelaw1_awake) fun y316 =>
             some y316)
             (bnd (some (bytesT [c])) fun y318 =>
             bnd (tapp s y318) fun y320 =>
             bnd (letters_Name y320) fun y322 =>
             cnd (y322 == (c == 95))
              (bnd (seinelaw1_awake) fun y324 =>
              some y324)
              (some false)))))))))
      (cnd y6
       (bnd (tapp s ([48, 57] : Str)) fun y326 =>
       bnd (letters_Name y326) fun y328 =>
       cnd (!y328)
        (some false)
        (bnd (tapp ([55] : Str) s) fun y330 =>
        bnd (letters_Name y330) fun y332 =>
        cnd y332
         (some false)
         (cnd (decide (c ≥ 48))
          (cnd (decide (c ≤ 57))
           (cnd (!y6)
            (bnd (seinelaw1_awake) fun y334 =>
            some y334)
            (bnd (some (bytesT [c])) fun y336 =>
            bnd (tapp s y336) fun y338 =>
            bnd (letters_Name y338) fun y340 =>
            cnd (y340 == true)
             (bnd (seinelaw1_awake) fun y342 =>
             some y342)
             (some false)))
           (cnd (decide (c ≥ 97))
            (cnd (decide (c ≤ 122))
             (cnd (!y6)
              (bnd (seinelaw1_awake) fun y344 =>
              some y344)
              (bnd (some (bytesT [c])) fun y346 =>
              bnd (tapp s y346) fun y348 =>
              bnd (letters_Name y348) fun y350 =>
              cnd (y350 == true)
               (bnd (seinelaw1_awake) fun y352 =>
               some y352)
               (some false)))
             (cnd (decide (c ≥ 65))
              (cnd (decide (c ≤ 90))
               (cnd (!y6)
                (bnd (seinelaw1_awake) fun y354 =>
                some y354)
                (bnd (some (bytesT [c])) fun y356 =>
                bnd (tapp s y356) fun y358 =>
                bnd (letters_Name y358) fun y360 =>
                cnd (y360 == true)
                 (bnd (seinelaw1_awake) fun y362 =>
                 some y362)
                 (some false)))
               (cnd (!y6)
                (bnd (seinelaw1_awake) fun y364 =>
                some y364)
                (bnd (some (bytesT [c])) fun y366 =>
                bnd (tapp s y366) fun y368 =>
                bnd (letters_Name y368) fun y370 =>
                cnd (y370 == (c == 95))
                 (bnd (seinelaw1_awake) fun y372 =>
                 some y372)
                 (some false))))
              (cnd (!y6)
               (bnd (seinelaw1_awake) fun y374 =>
               some y374)
               (bnd (some (bytesT [c])) fun y376 =>
               bnd (tapp s y376) fun y378 =>
               bnd (letters_Name y378) fun y380 =>
               cnd (y380 == (c == 95))
                (bnd (seinelaw1_awake) fun y382 =>
                some y382)
                (some false)))))
            (cnd (decide (c ≥ 65))
             (cnd (decide (c ≤ 90))
              (cnd (!y6)
               (bnd (seinelaw1_awake) fun y384 =>
               some y384)
               (bnd (some (bytesT [c])) fun y386 =>
               bnd (tapp s y386) fun y388 =>
               bnd (letters_Name y388) fun y390 =>
               cnd (y390 == true)
                (bnd (seinelaw1_awake) fun y392 =>
                some y392)
                (some false)))
              (cnd (!y6)
               (bnd (seinelaw1_awake) fun y394 =>
               some y394)
               (bnd (some (bytesT [c])) fun y396 =>
               bnd (tapp s y396) fun y398 =>
               bnd (letters_Name y398) fun y400 =>
               cnd (y400 == (c == 95))
                (bnd (seinelaw1_awake) fun y402 =>
                some y402)
                (some false))))
             (cnd (!y6)
              (bnd (seinelaw1_awake) fun y404 =>
              some y404)
              (bnd (some (bytesT [c])) fun y406 =>
              bnd (tapp s y406) fun y408 =>
              bnd (letters_Name y408) fun y410 =>
              cnd (y410 == (c == 95))
               (bnd (seinelaw1_awake) fun y412 =>
               some y412)
               (some false))))))
          (cnd (decide (c ≥ 97))
           (cnd (decide (c ≤ 122))
            (cnd (!y6)
             (bnd (seinelaw1_awake) fun y414 =>
             some y414)
             (bnd (some (bytesT [c])) fun y416 =>
             bnd (tapp s y416) fun y418 =>
             bnd (letters_Name y418) fun y420 =>
             cnd (y420 == true)
              (bnd (seinelaw1_awake) fun y422 =>
              some y422)
              (some false)))
            (cnd (decide (c ≥ 65))
             (cnd (decide (c ≤ 90))
              (cnd (!y6)
               (bnd (seinelaw1_awake) fun y424 =>
               some y424)
               (bnd (some (bytesT [c])) fun y426 =>
               bnd (tapp s y426) fun y428 =>
               bnd (letters_Name y428) fun y430 =>
               cnd (y430 == true)
                (bnd (seinelaw1_awake) fun y432 =>
                some y432)
                (some false)))
              (cnd (!y6)
               (bnd (seinelaw1_awake) fun y434 =>
               some y434)
               (bnd (some (bytesT [c])) fun y436 =>
               bnd (tapp s y436) fun y438 =>
               bnd (letters_Name y438) fun y440 =>
               cnd (y440 == (c == 95))
                (bnd (seinelaw1_awake) fun y442 =>
                some y442)
                (some false))))
             (cnd (!y6)
              (bnd (seinelaw1_awake) fun y444 =>
              some y444)
              (bnd (some (bytesT [c])) fun y446 =>
              bnd (tapp s y446) fun y448 =>
              bnd (letters_Name y448) fun y450 =>
              cnd (y450 == (c == 95))
               (bnd (seinelaw1_awake) fun y452 =>
               some y452)
               (some false)))))
           (cnd (decide (c ≥ 65))
            (cnd (decide (c ≤ 90))
             (cnd (!y6)
              (bnd (seinelaw1_awake) fun y454 =>
              some y454)
              (bnd (some (bytesT [c])) fun y456 =>
              bnd (tapp s y456) fun y458 =>
              bnd (letters_Name y458) fun y460 =>
              cnd (y460 == true)
               (bnd (seinelaw1_awake) fun y462 =>
               some y462)
               (some false)))
             (cnd (!y6)
              (bnd (seinelaw1_awake) fun y464 =>
              some y464)
              (bnd (some (bytesT [c])) fun y466 =>
              bnd (tapp s y466) fun y468 =>
              bnd (letters_Name y468) fun y470 =>
              cnd (y470 == (c == 95))
               (bnd (seinelaw1_awake) fun y472 =>
               some y472)
               (some false))))
            (cnd (!y6)
             (bnd (seinelaw1_awake) fun y474 =>
             some y474)
             (bnd (some (bytesT [c])) fun y476 =>
             bnd (tapp s y476) fun y478 =>
             bnd (letters_Name y478) fun y480 =>
             cnd (y480 == (c == 95))
              (bnd (seinelaw1_awake) fun y482 =>
              some y482)
              (some false))))))))
       (bnd (tapp ([55] : Str) s) fun y484 =>
       bnd (letters_Name y484) fun y486 =>
       cnd y486
        (some false)
        (cnd (decide (c ≥ 48))
         (cnd (decide (c ≤ 57))
          (cnd (!y6)
           (bnd (seinelaw1_awake) fun y488 =>
           some y488)
           (bnd (some (bytesT [c])) fun y490 =>
           bnd (tapp s y490) fun y492 =>
           bnd (letters_Name y492) fun y494 =>
           cnd (y494 == true)
            (bnd (seinelaw1_awake) fun y496 =>
            some y496)
            (some false)))
          (cnd (decide (c ≥ 97))
           (cnd (decide (c ≤ 122))
            (cnd (!y6)
             (bnd (seinelaw1_awake) fun y498 =>
             some y498)
             (bnd (some (bytesT [c])) fun y500 =>
             bnd (tapp s y500) fun y502 =>
             bnd (letters_Name y502) fun y504 =>
             cnd (y504 == true)
              (bnd (seinelaw1_awake) fun y506 =>
              some y506)
              (some false)))
            (cnd (decide (c ≥ 65))
             (cnd (decide (c ≤ 90))
              (cnd (!y6)
               (bnd (seinelaw1_awake) fun y508 =>
               some y508)
               (bnd (some (bytesT [c])) fun y510 =>
               bnd (tapp s y510) fun y512 =>
               bnd (letters_Name y512) fun y514 =>
               cnd (y514 == true)
                (bnd (seinelaw1_awake) fun y516 =>
                some y516)
                (some false)))
              (cnd (!y6)
               (bnd (seinelaw1_awake) fun y518 =>
               some y518)
               (bnd (some (bytesT [c])) fun y520 =>
               bnd (tapp s y520) fun y522 =>
               bnd (letters_Name y522) fun y524 =>
               cnd (y524 == (c == 95))
                (bnd (seinelaw1_awake) fun y526 =>
                some y526)
                (some false))))
             (cnd (!y6)
              (bnd (seinelaw1_awake) fun y528 =>
              some y528)
              (bnd (some (bytesT [c])) fun y530 =>
              bnd (tapp s y530) fun y532 =>
              bnd (letters_Name y532) fun y534 =>
              cnd (y534 == (c == 95))
               (bnd (seinelaw1_awake) fun y536 =>
               some y536)
               (some false)))))
           (cnd (decide (c ≥ 65))
            (cnd (decide (c ≤ 90))
             (cnd (!y6)
              (bnd (seinelaw1_awake) fun y538 =>
              some y538)
              (bnd (some (bytesT [c])) fun y540 =>
              bnd (tapp s y540) fun y542 =>
              bnd (letters_Name y542) fun y544 =>
              cnd (y544 == true)
               (bnd (seinelaw1_awake) fun y546 =>
               some y546)
               (some false)))
             (cnd (!y6)
              (bnd (seinelaw1_awake) fun y548 =>
              some y548)
              (bnd (some (bytesT [c])) fun y550 =>
              bnd (tapp s y550) fun y552 =>
              bnd (letters_Name y552) fun y554 =>
              cnd (y554 == (c == 95))
               (bnd (seinelaw1_awake) fun y556 =>
               some y556)
               (some false))))
            (cnd (!y6)
             (bnd (seinelaw1_awake) fun y558 =>
             some y558)
             (bnd (some (bytesT [c])) fun y560 =>
             bnd (tapp s y560) fun y562 =>
             bnd (letters_Name y562) fun y564 =>
             cnd (y564 == (c == 95))
              (bnd (seinelaw1_awake) fun y566 =>
              some y566)
              (some false))))))
         (cnd (decide (c ≥ 97))
          (cnd (decide (c ≤ 122))
           (cnd (!y6)
            (bnd (seinelaw1_awake) fun y568 =>
            some y568)
            (bnd (some (bytesT [c])) fun y570 =>
            bnd (tapp s y570) fun y572 =>
            bnd (letters_Name y572) fun y574 =>
            cnd (y574 == true)
             (bnd (seinelaw1_awake) fun y576 =>
             some y576)
             (some false)))
           (cnd (decide (c ≥ 65))
            (cnd (decide (c ≤ 90))
             (cnd (!y6)
              (bnd (seinelaw1_awake) fun y578 =>
              some y578)
              (bnd (some (bytesT [c])) fun y580 =>
              bnd (tapp s y580) fun y582 =>
              bnd (letters_Name y582) fun y584 =>
              cnd (y584 == true)
               (bnd (seinelaw1_awake) fun y586 =>
               some y586)
               (some false)))
             (cnd (!y6)
              (bnd (seinelaw1_awake) fun y588 =>
              some y588)
              (bnd (some (bytesT [c])) fun y590 =>
              bnd (tapp s y590) fun y592 =>
              bnd (letters_Name y592) fun y594 =>
              cnd (y594 == (c == 95))
               (bnd (seinelaw1_awake) fun y596 =>
               some y596)
               (some false))))
            (cnd (!y6)
             (bnd (seinelaw1_awake) fun y598 =>
             some y598)
             (bnd (some (bytesT [c])) fun y600 =>
             bnd (tapp s y600) fun y602 =>
             bnd (letters_Name y602) fun y604 =>
             cnd (y604 == (c == 95))
              (bnd (seinelaw1_awake) fun y606 =>
              some y606)
              (some false)))))
          (cnd (decide (c ≥ 65))
           (cnd (decide (c ≤ 90))
            (cnd (!y6)
             (bnd (seinelaw1_awake) fun y608 =>
             some y608)
             (bnd (some (bytesT [c])) fun y610 =>
             bnd (tapp s y610) fun y612 =>
             bnd (letters_Name y612) fun y614 =>
             cnd (y614 == true)
              (bnd (seinelaw1_awake) fun y616 =>
              some y616)
              (some false)))
            (cnd (!y6)
             (bnd (seinelaw1_awake) fun y618 =>
             some y618)
             (bnd (some (bytesT [c])) fun y620 =>
             bnd (tapp s y620) fun y622 =>
             bnd (letters_Name y622) fun y624 =>
             cnd (y624 == (c == 95))
              (bnd (seinelaw1_awake) fun y626 =>
              some y626)
              (some false))))
           (cnd (!y6)
            (bnd (seinelaw1_awake) fun y628 =>
            some y628)
            (bnd (some (bytesT [c])) fun y630 =>
            bnd (tapp s y630) fun y632 =>
            bnd (letters_Name y632) fun y634 =>
            cnd (y634 == (c == 95))
             (bnd (seinelaw1_awake) fun y636 =>
             some y636)
             (some false)))))))))
     (cnd y6
      (bnd (tapp s ([48, 57] : Str)) fun y638 =>
      bnd (letters_Name y638) fun y640 =>
      cnd (!y640)
       (some false)
       (bnd (tapp ([55] : Str) s) fun y642 =>
       bnd (letters_Name y642) fun y644 =>
       cnd y644
        (some false)
        (cnd (decide (c ≥ 48))
         (cnd (decide (c ≤ 57))
          (cnd (!y6)
           (bnd (seinelaw1_awake) fun y646 =>
           some y646)
           (bnd (some (bytesT [c])) fun y648 =>
           bnd (tapp s y648) fun y650 =>
           bnd (letters_Name y650) fun y652 =>
           cnd (y652 == true)
            (bnd (seinelaw1_awake) fun y654 =>
            some y654)
            (some false)))
          (cnd (decide (c ≥ 97))
           (cnd (decide (c ≤ 122))
            (cnd (!y6)
             (bnd (seinelaw1_awake) fun y656 =>
             some y656)
             (bnd (some (bytesT [c])) fun y658 =>
             bnd (tapp s y658) fun y660 =>
             bnd (letters_Name y660) fun y662 =>
             cnd (y662 == true)
              (bnd (seinelaw1_awake) fun y664 =>
              some y664)
              (some false)))
            (cnd (decide (c ≥ 65))
             (cnd (decide (c ≤ 90))
              (cnd (!y6)
               (bnd (seinelaw1_awake) fun y666 =>
               some y666)
               (bnd (some (bytesT [c])) fun y668 =>
               bnd (tapp s y668) fun y670 =>
               bnd (letters_Name y670) fun y672 =>
               cnd (y672 == true)
                (bnd (seinelaw1_awake) fun y674 =>
                some y674)
                (some false)))
              (cnd (!y6)
               (bnd (seinelaw1_awake) fun y676 =>
               some y676)
               (bnd (some (bytesT [c])) fun y678 =>
               bnd (tapp s y678) fun y680 =>
               bnd (letters_Name y680) fun y682 =>
               cnd (y682 == (c == 95))
                (bnd (seinelaw1_awake) fun y684 =>
                some y684)
                (some false))))
             (cnd (!y6)
              (bnd (seinelaw1_awake) fun y686 =>
              some y686)
              (bnd (some (bytesT [c])) fun y688 =>
              bnd (tapp s y688) fun y690 =>
              bnd (letters_Name y690) fun y692 =>
              cnd (y692 == (c == 95))
               (bnd (seinelaw1_awake) fun y694 =>
               some y694)
               (some false)))))
           (cnd (decide (c ≥ 65))
            (cnd (decide (c ≤ 90))
             (cnd (!y6)
              (bnd (seinelaw1_awake) fun y696 =>
              some y696)
              (bnd (some (bytesT [c])) fun y698 =>
              bnd (tapp s y698) fun y700 =>
              bnd (letters_Name y700) fun y702 =>
              cnd (y702 == true)
               (bnd (seinelaw1_awake) fun y704 =>
               some y704)
               (some false)))
             (cnd (!y6)
              (bnd (seinelaw1_awake) fun y706 =>
              some y706)
              (bnd (some (bytesT [c])) fun y708 =>
              bnd (tapp s y708) fun y710 =>
              bnd (letters_Name y710) fun y712 =>
              cnd (y712 == (c == 95))
               (bnd (seinelaw1_awake) fun y714 =>
               some y714)
               (some false))))
            (cnd (!y6)
             (bnd (seinelaw1_awake) fun y716 =>
             some y716)
             (bnd (some (bytesT [c])) fun y718 =>
             bnd (tapp s y718) fun y720 =>
             bnd (letters_Name y720) fun y722 =>
             cnd (y722 == (c == 95))
              (bnd (seinelaw1_awake) fun y724 =>
              some y724)
              (some false))))))
         (cnd (decide (c ≥ 97))
          (cnd (decide (c ≤ 122))
           (cnd (!y6)
            (bnd (seinelaw1_awake) fun y726 =>
            some y726)
            (bnd (some (bytesT [c])) fun y728 =>
            bnd (tapp s y728) fun y730 =>
            bnd (letters_Name y730) fun y732 =>
            cnd (y732 == true)
             (bnd (seinelaw1_awake) fun y734 =>
             some y734)
             (some false)))
           (cnd (decide (c ≥ 65))
            (cnd (decide (c ≤ 90))
             (cnd (!y6)
              (bnd (seinelaw1_awake) fun y736 =>
              some y736)
              (bnd (some (bytesT [c])) fun y738 =>
              bnd (tapp s y738) fun y740 =>
              bnd (letters_Name y740) fun y742 =>
              cnd (y742 == true)
               (bnd (seinelaw1_awake) fun y744 =>
               some y744)
               (some false)))
             (cnd (!y6)
              (bnd (seinelaw1_awake) fun y746 =>
              some y746)
              (bnd (some (bytesT [c])) fun y748 =>
              bnd (tapp s y748) fun y750 =>
              bnd (letters_Name y750) fun y752 =>
              cnd (y752 == (c == 95))
               (bnd (seinelaw1_awake) fun y754 =>
               some y754)
               (some false))))
            (cnd (!y6)
             (bnd (seinelaw1_awake) fun y756 =>
             some y756)
             (bnd (some (bytesT [c])) fun y758 =>
             bnd (tapp s y758) fun y760 =>
             bnd (letters_Name y760) fun y762 =>
             cnd (y762 == (c == 95))
              (bnd (seinelaw1_awake) fun y764 =>
              some y764)
              (some false)))))
          (cnd (decide (c ≥ 65))
           (cnd (decide (c ≤ 90))
            (cnd (!y6)
             (bnd (seinelaw1_awake) fun y766 =>
             some y766)
             (bnd (some (bytesT [c])) fun y768 =>
             bnd (tapp s y768) fun y770 =>
             bnd (letters_Name y770) fun y772 =>
             cnd (y772 == true)
              (bnd (seinelaw1_awake) fun y774 =>
              some y774)
              (some false)))
            (cnd (!y6)
             (bnd (seinelaw1_awake) fun y776 =>
             some y776)
             (bnd (some (bytesT [c])) fun y778 =>
             bnd (tapp s y778) fun y780 =>
             bnd (letters_Name y780) fun y782 =>
             cnd (y782 == (c == 95))
              (bnd (seinelaw1_awake) fun y784 =>
              some y784)
              (some false))))
           (cnd (!y6)
            (bnd (seinelaw1_awake) fun y786 =>
            some y786)
            (bnd (some (bytesT [c])) fun y788 =>
            bnd (tapp s y788) fun y790 =>
            bnd (letters_Name y790) fun y792 =>
            cnd (y792 == (c == 95))
             (bnd (seinelaw1_awake) fun y794 =>
             some y794)
             (some false))))))))
      (bnd (tapp ([55] : Str) s) fun y796 =>
      bnd (letters_Name y796) fun y798 =>
      cnd y798
       (some false)
       (cnd (decide (c ≥ 48))
        (cnd (decide (c ≤ 57))
         (cnd (!y6)
          (bnd (seinelaw1_awake) fun y800 =>
          some y800)
          (bnd (some (bytesT [c])) fun y802 =>
          bnd (tapp s y802) fun y804 =>
          bnd (letters_Name y804) fun y806 =>
          cnd (y806 == true)
           (bnd (seinelaw1_awake) fun y808 =>
           some y808)
           (some false)))
         (cnd (decide (c ≥ 97))
          (cnd (decide (c ≤ 122))
           (cnd (!y6)
            (bnd (seinelaw1_awake) fun y810 =>
            some y810)
            (bnd (some (bytesT [c])) fun y812 =>
            bnd (tapp s y812) fun y814 =>
            bnd (letters_Name y814) fun y816 =>
            cnd (y816 == true)
             (bnd (seinelaw1_awake) fun y818 =>
             some y818)
             (some false)))
           (cnd (decide (c ≥ 65))
            (cnd (decide (c ≤ 90))
             (cnd (!y6)
              (bnd (seinelaw1_awake) fun y820 =>
              some y820)
              (bnd (some (bytesT [c])) fun y822 =>
              bnd (tapp s y822) fun y824 =>
              bnd (letters_Name y824) fun y826 =>
              cnd (y826 == true)
               (bnd (seinelaw1_awake) fun y828 =>
               some y828)
               (some false)))
             (cnd (!y6)
              (bnd (seinelaw1_awake) fun y830 =>
              some y830)
              (bnd (some (bytesT [c])) fun y832 =>
              bnd (tapp s y832) fun y834 =>
              bnd (letters_Name y834) fun y836 =>
              cnd (y836 == (c == 95))
               (bnd (seinelaw1_awake) fun y838 =>
               some y838)
               (some false))))
            (cnd (!y6)
             (bnd (seinelaw1_awake) fun y840 =>
             some y840)
             (bnd (some (bytesT [c])) fun y842 =>
             bnd (tapp s y842) fun y844 =>
             bnd (letters_Name y844) fun y846 =>
             cnd (y846 == (c == 95))
              (bnd (seinelaw1_awake) fun y848 =>
              some y848)
              (some false)))))
          (cnd (decide (c ≥ 65))
           (cnd (decide (c ≤ 90))
            (cnd (!y6)
             (bnd (seinelaw1_awake) fun y850 =>
             some y850)
             (bnd (some (bytesT [c])) fun y852 =>
             bnd (tapp s y852) fun y854 =>
             bnd (letters_Name y854) fun y856 =>
             cnd (y856 == true)
              (bnd (seinelaw1_awake) fun y858 =>
              some y858)
              (some false)))
            (cnd (!y6)
             (bnd (seinelaw1_awake) fun y860 =>
             some y860)
             (bnd (some (bytesT [c])) fun y862 =>
             bnd (tapp s y862) fun y864 =>
             bnd (letters_Name y864) fun y866 =>
             cnd (y866 == (c == 95))
              (bnd (seinelaw1_awake) fun y868 =>
              some y868)
              (some false))))
           (cnd (!y6)
            (bnd (seinelaw1_awake) fun y870 =>
            some y870)
            (bnd (some (bytesT [c])) fun y872 =>
            bnd (tapp s y872) fun y874 =>
            bnd (letters_Name y874) fun y876 =>
            cnd (y876 == (c == 95))
             (bnd (seinelaw1_awake) fun y878 =>
             some y878)
             (some false))))))
        (cnd (decide (c ≥ 97))
         (cnd (decide (c ≤ 122))
          (cnd (!y6)
           (bnd (seinelaw1_awake) fun y880 =>
           some y880)
           (bnd (some (bytesT [c])) fun y882 =>
           bnd (tapp s y882) fun y884 =>
           bnd (letters_Name y884) fun y886 =>
           cnd (y886 == true)
            (bnd (seinelaw1_awake) fun y888 =>
            some y888)
            (some false)))
          (cnd (decide (c ≥ 65))
           (cnd (decide (c ≤ 90))
            (cnd (!y6)
             (bnd (seinelaw1_awake) fun y890 =>
             some y890)
             (bnd (some (bytesT [c])) fun y892 =>
             bnd (tapp s y892) fun y894 =>
             bnd (letters_Name y894) fun y896 =>
             cnd (y896 == true)
              (bnd (seinelaw1_awake) fun y898 =>
              some y898)
              (some false)))
            (cnd (!y6)
             (bnd (seinelaw1_awake) fun y900 =>
             some y900)
             (bnd (some (bytesT [c])) fun y902 =>
             bnd (tapp s y902) fun y904 =>
             bnd (letters_Name y904) fun y906 =>
             cnd (y906 == (c == 95))
              (bnd (seinelaw1_awake) fun y908 =>
              some y908)
              (some false))))
           (cnd (!y6)
            (bnd (seinelaw1_awake) fun y910 =>
            some y910)
            (bnd (some (bytesT [c])) fun y912 =>
            bnd (tapp s y912) fun y914 =>
            bnd (letters_Name y914) fun y916 =>
            cnd (y916 == (c == 95))
             (bnd (seinelaw1_awake) fun y918 =>
             some y918)
             (some false)))))
         (cnd (decide (c ≥ 65))
          (cnd (decide (c ≤ 90))
           (cnd (!y6)
            (bnd (seinelaw1_awake) fun y920 =>
            some y920)
            (bnd (some (bytesT [c])) fun y922 =>
            bnd (tapp s y922) fun y924 =>
            bnd (letters_Name y924) fun y926 =>
            cnd (y926 == true)
             (bnd (seinelaw1_awake) fun y928 =>
             some y928)
             (some false)))
           (cnd (!y6)
            (bnd (seinelaw1_awake) fun y930 =>
            some y930)
            (bnd (some (bytesT [c])) fun y932 =>
            bnd (tapp s y932) fun y934 =>
            bnd (letters_Name y934) fun y936 =>
            cnd (y936 == (c == 95))
             (bnd (seinelaw1_awake) fun y938 =>
             some y938)
             (some false))))
          (cnd (!y6)
           (bnd (seinelaw1_awake) fun y940 =>
           some y940)
           (bnd (some (bytesT [c])) fun y942 =>
           bnd (tapp s y942) fun y944 =>
           bnd (letters_Name y944) fun y946 =>
           cnd (y946 == (c == 95))
            (bnd (seinelaw1_awake) fun y948 =>
            some y948)
            (some false))))))))))
def seinelaw1_LettersNames_ds : Decs := { decs := [(18, .bool), (20, .bool), (22, .bool), (30, .str), (31, .bool), (38, .str), (39, .bool), (45, .str), (46, .bool), (80, .str), (81, .str), (82, .bool), (87, .bool)], ups := [], loops := [] }
set_option maxRecDepth 100000 in
theorem seinelaw1_LettersNames_t1 (O : Orc) (LP : LBody → LBody) (s : Str) (t : Str) (c : Int) : evalBodyD Tryd.prog (MT 4) seinelaw1_LettersNames_ds Tryd.f4.ntmps O LP Tryd.f4 [(.str s), (.str t), (.int .u8 c)] [] = seinelaw1_LettersNames_T1 O LP s t c := by kernel_rfl
theorem seinelaw1_LettersNames_imp (s : Str) (t : Str) (c : Int) : Imp (seinelaw1_LettersNames_B s t c) (seinelaw1_LettersNames_T1 O loopLim s t c) (fun r v => v = (seinelaw1_LettersNamesE r, [])) := by
  simp only [seinelaw1_LettersNames_B, seinelaw1_LettersNames_T1]
  try simp only [evs, tys]
  refine Imp.cnd ?_ ?_
  · refine Imp.call (f := seinelaw1_awakeE) rfl (fun a h => by first | exact seinelaw1_awake_spec h | simpa only [evs, tys, evl] using seinelaw1_awake_spec h) (fun a => by first | rfl | simp only [seinelaw1_awakeE, evk, chks]) fun y2 hy2 => ?_
    try simp only [seinelaw1_awakeE, evs, tys]
    exact Imp.some (by first | rfl | simp only [seinelaw1_LettersNamesE, evs, tys, evl])
  · refine Imp.cnd ?_ ?_
    · refine Imp.call (f := seinelaw1_awakeE) rfl (fun a h => by first | exact seinelaw1_awake_spec h | simpa only [evs, tys, evl] using seinelaw1_awake_spec h) (fun a => by first | rfl | simp only [seinelaw1_awakeE, evk, chks]) fun y4 hy4 => ?_
      try simp only [seinelaw1_awakeE, evs, tys]
      exact Imp.some (by first | rfl | simp only [seinelaw1_LettersNamesE, evs, tys, evl])
    · refine Imp.call (f := letters_NameE) rfl (fun a h => by first | exact letters_Name_spec h | simpa only [evs, tys, evl] using letters_Name_spec h) (fun a => by first | rfl | simp only [letters_NameE, evk, chks]) fun y6 hy6 => ?_
      try simp only [letters_NameE, evs, tys]
      refine Imp.call (f := letters_NameE) rfl (fun a h => by first | exact letters_Name_spec h | simpa only [evs, tys, evl] using letters_Name_spec h) (fun a => by first | rfl | simp only [letters_NameE, evk, chks]) fun y8 hy8 => ?_
      try simp only [letters_NameE, evs, tys]
      refine Imp.cnd ?_ ?_
      · refine Imp.cnd ?_ ?_
        · refine Imp.op (f := fun a => .str a) (fun a h => op_cat h) (fun a => rfl) fun y10 hy10 => ?_
          try simp only [evs, tys]
          refine Imp.call (f := letters_NameE) rfl (fun a h => by first | exact letters_Name_spec h | simpa only [evs, tys, evl] using letters_Name_spec h) (fun a => by first | rfl | simp only [letters_NameE, evk, chks]) fun y12 hy12 => ?_
          try simp only [letters_NameE, evs, tys]
          refine Imp.cnd ?_ ?_
          · exact Imp.some (by first | rfl | simp only [seinelaw1_LettersNamesE, evs, tys, evl])
          · refine Imp.cnd ?_ ?_
            · refine Imp.op (f := fun a => .str a) (fun a h => op_cat h) (fun a => rfl) fun y14 hy14 => ?_
              try simp only [evs, tys]
              refine Imp.call (f := letters_NameE) rfl (fun a h => by first | exact letters_Name_spec h | simpa only [evs, tys, evl] using letters_Name_spec h) (fun a => by first | rfl | simp only [letters_NameE, evk, chks]) fun y16 hy16 => ?_
              try simp only [letters_NameE, evs, tys]
              refine Imp.cnd ?_ ?_
              · exact Imp.some (by first | rfl | simp only [seinelaw1_LettersNamesE, evs, tys, evl])
              · refine Imp.op (f := fun a => .str a) (fun a h => op_cat h) (fun a => rfl) fun y18 hy18 => ?_
                try simp only [evs, tys]
                refine Imp.call (f := letters_NameE) rfl (fun a h => by first | exact letters_Name_spec h | simpa only [evs, tys, evl] using letters_Name_spec h) (fun a => by first | rfl | simp only [letters_NameE, evk, chks]) fun y20 hy20 => ?_
                try simp only [letters_NameE, evs, tys]
                refine Imp.cnd ?_ ?_
                · exact Imp.some (by first | rfl | simp only [seinelaw1_LettersNamesE, evs, tys, evl])
                · refine Imp.cnd ?_ ?_
                  · refine Imp.cnd ?_ ?_
                    · refine Imp.cnd ?_ ?_
                      · refine Imp.call (f := seinelaw1_awakeE) rfl (fun a h => by first | exact seinelaw1_awake_spec h | simpa only [evs, tys, evl] using seinelaw1_awake_spec h) (fun a => by first | rfl | simp only [seinelaw1_awakeE, evk, chks]) fun y22 hy22 => ?_
                        try simp only [seinelaw1_awakeE, evs, tys]
                        exact Imp.some (by first | rfl | simp only [seinelaw1_LettersNamesE, evs, tys, evl])
                      · refine Imp.op (f := fun a => .str a) (fun a h => op_toStr (by first | rfl | simp only [evs, tys, evl]) h) (fun a => rfl) fun y24 hy24 => ?_
                        try simp only [evs, tys]
                        refine Imp.op (f := fun a => .str a) (fun a h => op_cat h) (fun a => rfl) fun y26 hy26 => ?_
                        try simp only [evs, tys]
                        refine Imp.call (f := letters_NameE) rfl (fun a h => by first | exact letters_Name_spec h | simpa only [evs, tys, evl] using letters_Name_spec h) (fun a => by first | rfl | simp only [letters_NameE, evk, chks]) fun y28 hy28 => ?_
                        try simp only [letters_NameE, evs, tys]
                        refine Imp.cnd ?_ ?_
                        · refine Imp.call (f := seinelaw1_awakeE) rfl (fun a h => by first | exact seinelaw1_awake_spec h | simpa only [evs, tys, evl] using seinelaw1_awake_spec h) (fun a => by first | rfl | simp only [seinelaw1_awakeE, evk, chks]) fun y30 hy30 => ?_
                          try simp only [seinelaw1_awakeE, evs, tys]
                          exact Imp.some (by first | rfl | simp only [seinelaw1_LettersNamesE, evs, tys, evl])
                        · exact Imp.some (by first | rfl | simp only [seinelaw1_LettersNamesE, evs, tys, evl])
                    · refine Imp.cnd ?_ ?_
                      · refine Imp.cnd ?_ ?_
                        · refine Imp.cnd ?_ ?_
                          · refine Imp.call (f := seinelaw1_awakeE) rfl (fun a h => by first | exact seinelaw1_awake_spec h | simpa only [evs, tys, evl] using seinelaw1_awake_spec h) (fun a => by first | rfl | simp only [seinelaw1_awakeE, evk, chks]) fun y32 hy32 => ?_
                            try simp only [seinelaw1_awakeE, evs, tys]
                            exact Imp.some (by first | rfl | simp only [seinelaw1_LettersNamesE, evs, tys, evl])
                          · refine Imp.op (f := fun a => .str a) (fun a h => op_toStr (by first | rfl | simp only [evs, tys, evl]) h) (fun a => rfl) fun y34 hy34 => ?_
                            try simp only [evs, tys]
                            refine Imp.op (f := fun a => .str a) (fun a h => op_cat h) (fun a => rfl) fun y36 hy36 => ?_
                            try simp only [evs, tys]
                            refine Imp.call (f := letters_NameE) rfl (fun a h => by first | exact letters_Name_spec h | simpa only [evs, tys, evl] using letters_Name_spec h) (fun a => by first | rfl | simp only [letters_NameE, evk, chks]) fun y38 hy38 => ?_
                            try simp only [letters_NameE, evs, tys]
                            refine Imp.cnd ?_ ?_
                            · refine Imp.call (f := seinelaw1_awakeE) rfl (fun a h => by first | exact seinelaw1_awake_spec h | simpa only [evs, tys, evl] using seinelaw1_awake_spec h) (fun a => by first | rfl | simp only [seinelaw1_awakeE, evk, chks]) fun y40 hy40 => ?_
                              try simp only [seinelaw1_awakeE, evs, tys]
                              exact Imp.some (by first | rfl | simp only [seinelaw1_LettersNamesE, evs, tys, evl])
                            · exact Imp.some (by first | rfl | simp only [seinelaw1_LettersNamesE, evs, tys, evl])
                        · refine Imp.cnd ?_ ?_
                          · refine Imp.cnd ?_ ?_
                            · refine Imp.cnd ?_ ?_
                              · refine Imp.call (f := seinelaw1_awakeE) rfl (fun a h => by first | exact seinelaw1_awake_spec h | simpa only [evs, tys, evl] using seinelaw1_awake_spec h) (fun a => by first | rfl | simp only [seinelaw1_awakeE, evk, chks]) fun y42 hy42 => ?_
                                try simp only [seinelaw1_awakeE, evs, tys]
                                exact Imp.some (by first | rfl | simp only [seinelaw1_LettersNamesE, evs, tys, evl])
                              · refine Imp.op (f := fun a => .str a) (fun a h => op_toStr (by first | rfl | simp only [evs, tys, evl]) h) (fun a => rfl) fun y44 hy44 => ?_
                                try simp only [evs, tys]
                                refine Imp.op (f := fun a => .str a) (fun a h => op_cat h) (fun a => rfl) fun y46 hy46 => ?_
                                try simp only [evs, tys]
                                refine Imp.call (f := letters_NameE) rfl (fun a h => by first | exact letters_Name_spec h | simpa only [evs, tys, evl] using letters_Name_spec h) (fun a => by first | rfl | simp only [letters_NameE, evk, chks]) fun y48 hy48 => ?_
                                try simp only [letters_NameE, evs, tys]
                                refine Imp.cnd ?_ ?_
                                · refine Imp.call (f := seinelaw1_awakeE) rfl (fun a h => by first | exact seinelaw1_awake_spec h | simpa only [evs, tys, evl] using seinelaw1_awake_spec h) (fun a => by first | rfl | simp only [seinelaw1_awakeE, evk, chks]) fun y50 hy50 => ?_
                                  try simp only [seinelaw1_awakeE, evs, tys]
                                  exact Imp.some (by first | rfl | simp only [seinelaw1_LettersNamesE, evs, tys, evl])
                                · exact Imp.some (by first | rfl | simp only [seinelaw1_LettersNamesE, evs, tys, evl])
                            · refine Imp.cnd ?_ ?_
                              · refine Imp.call (f := seinelaw1_awakeE) rfl (fun a h => by first | exact seinelaw1_awake_spec h | simpa only [evs, tys, evl] using seinelaw1_awake_spec h) (fun a => by first | rfl | simp only [seinelaw1_awakeE, evk, chks]) fun y52 hy52 => ?_
                                try simp only [seinelaw1_awakeE, evs, tys]
                                exact Imp.some (by first | rfl | simp only [seinelaw1_LettersNamesE, evs, tys, evl])
                              · refine Imp.op (f := fun a => .str a) (fun a h => op_toStr (by first | rfl | simp only [evs, tys, evl]) h) (fun a => rfl) fun y54 hy54 => ?_
                                try simp only [evs, tys]
                                refine Imp.op (f := fun a => .str a) (fun a h => op_cat h) (fun a => rfl) fun y56 hy56 => ?_
                                try simp only [evs, tys]
                                refine Imp.call (f := letters_NameE) rfl (fun a h => by first | exact letters_Name_spec h | simpa only [evs, tys, evl] using letters_Name_spec h) (fun a => by first | rfl | simp only [letters_NameE, evk, chks]) fun y58 hy58 => ?_
                                try simp only [letters_NameE, evs, tys]
                                refine Imp.cnd ?_ ?_
                                · refine Imp.call (f := seinelaw1_awakeE) rfl (fun a h => by first | exact seinelaw1_awake_spec h | simpa only [evs, tys, evl] using seinelaw1_awake_spec h) (fun a => by first | rfl | simp only [seinelaw1_awakeE, evk, chks]) fun y60 hy60 => ?_
                                  try simp only [seinelaw1_awakeE, evs, tys]
                                  exact Imp.some (by first | rfl | simp only [seinelaw1_LettersNamesE, evs, tys, evl])
                                · exact Imp.some (by first | rfl | simp only [seinelaw1_LettersNamesE, evs, tys, evl])
                          · refine Imp.cnd ?_ ?_
                            · refine Imp.call (f := seinelaw1_awakeE) rfl (fun a h => by first | exact seinelaw1_awake_spec h | simpa only [evs, tys, evl] using seinelaw1_awake_spec h) (fun a => by first | rfl | simp only [seinelaw1_awakeE, evk, chks]) fun y62 hy62 => ?_
                              try simp only [seinelaw1_awakeE, evs, tys]
                              exact Imp.some (by first | rfl | simp only [seinelaw1_LettersNamesE, evs, tys, evl])
                            · refine Imp.op (f := fun a => .str a) (fun a h => op_toStr (by first | rfl | simp only [evs, tys, evl]) h) (fun a => rfl) fun y64 hy64 => ?_
                              try simp only [evs, tys]
                              refine Imp.op (f := fun a => .str a) (fun a h => op_cat h) (fun a => rfl) fun y66 hy66 => ?_
                              try simp only [evs, tys]
                              refine Imp.call (f := letters_NameE) rfl (fun a h => by first | exact letters_Name_spec h | simpa only [evs, tys, evl] using letters_Name_spec h) (fun a => by first | rfl | simp only [letters_NameE, evk, chks]) fun y68 hy68 => ?_
                              try simp only [letters_NameE, evs, tys]
                              refine Imp.cnd ?_ ?_
                              · refine Imp.call (f := seinelaw1_awakeE) rfl (fun a h => by first | exact seinelaw1_awake_spec h | simpa only [evs, tys, evl] using seinelaw1_awake_spec h) (fun a => by first | rfl | simp only [seinelaw1_awakeE, evk, chks]) fun y70 hy70 => ?_
                                try simp only [seinelaw1_awakeE, evs, tys]
                                exact Imp.some (by first | rfl | simp only [seinelaw1_LettersNamesE, evs, tys, evl])
                              · exact Imp.some (by first | rfl | simp only [seinelaw1_LettersNamesE, evs, tys, evl])
                      · refine Imp.cnd ?_ ?_
                        · refine Imp.cnd ?_ ?_
                          · refine Imp.cnd ?_ ?_
                            · refine Imp.call (f := seinelaw1_awakeE) rfl (fun a h => by first | exact seinelaw1_awake_spec h | simpa only [evs, tys, evl] using seinelaw1_awake_spec h) (fun a => by first | rfl | simp only [seinelaw1_awakeE, evk, chks]) fun y72 hy72 => ?_
                              try simp only [seinelaw1_awakeE, evs, tys]
                              exact Imp.some (by first | rfl | simp only [seinelaw1_LettersNamesE, evs, tys, evl])
                            · refine Imp.op (f := fun a => .str a) (fun a h => op_toStr (by first | rfl | simp only [evs, tys, evl]) h) (fun a => rfl) fun y74 hy74 => ?_
                              try simp only [evs, tys]
                              refine Imp.op (f := fun a => .str a) (fun a h => op_cat h) (fun a => rfl) fun y76 hy76 => ?_
                              try simp only [evs, tys]
                              refine Imp.call (f := letters_NameE) rfl (fun a h => by first | exact letters_Name_spec h | simpa only [evs, tys, evl] using letters_Name_spec h) (fun a => by first | rfl | simp only [letters_NameE, evk, chks]) fun y78 hy78 => ?_
                              try simp only [letters_NameE, evs, tys]
                              refine Imp.cnd ?_ ?_
                              · refine Imp.call (f := seinelaw1_awakeE) rfl (fun a h => by first | exact seinelaw1_awake_spec h | simpa only [evs, tys, evl] using seinelaw1_awake_spec h) (fun a => by first | rfl | simp only [seinelaw1_awakeE, evk, chks]) fun y80 hy80 => ?_
                                try simp only [seinelaw1_awakeE, evs, tys]
                                exact Imp.some (by first | rfl | simp only [seinelaw1_LettersNamesE, evs, tys, evl])
                              · exact Imp.some (by first | rfl | simp only [seinelaw1_LettersNamesE, evs, tys, evl])
                          · refine Imp.cnd ?_ ?_
                            · refine Imp.call (f := seinelaw1_awakeE) rfl (fun a h => by first | exact seinelaw1_awake_spec h | simpa only [evs, tys, evl] using seinelaw1_awake_spec h) (fun a => by first | rfl | simp only [seinelaw1_awakeE, evk, chks]) fun y82 hy82 => ?_
                              try simp only [seinelaw1_awakeE, evs, tys]
                              exact Imp.some (by first | rfl | simp only [seinelaw1_LettersNamesE, evs, tys, evl])
                            · refine Imp.op (f := fun a => .str a) (fun a h => op_toStr (by first | rfl | simp only [evs, tys, evl]) h) (fun a => rfl) fun y84 hy84 => ?_
                              try simp only [evs, tys]
                              refine Imp.op (f := fun a => .str a) (fun a h => op_cat h) (fun a => rfl) fun y86 hy86 => ?_
                              try simp only [evs, tys]
                              refine Imp.call (f := letters_NameE) rfl (fun a h => by first | exact letters_Name_spec h | simpa only [evs, tys, evl] using letters_Name_spec h) (fun a => by first | rfl | simp only [letters_NameE, evk, chks]) fun y88 hy88 => ?_
                              try simp only [letters_NameE, evs, tys]
                              refine Imp.cnd ?_ ?_
                              · refine Imp.call (f := seinelaw1_awakeE) rfl (fun a h => by first | exact seinelaw1_awake_spec h | simpa only [evs, tys, evl] using seinelaw1_awake_spec h) (fun a => by first | rfl | simp only [seinelaw1_awakeE, evk, chks]) fun y90 hy90 => ?_
                                try simp only [seinelaw1_awakeE, evs, tys]
                                exact Imp.some (by first | rfl | simp only [seinelaw1_LettersNamesE, evs, tys, evl])
                              · exact Imp.some (by first | rfl | simp only [seinelaw1_LettersNamesE, evs, tys, evl])
                        · refine Imp.cnd ?_ ?_
                          · refine Imp.call (f := seinelaw1_awakeE) rfl (fun a h => by first | exact seinelaw1_awake_spec h | simpa only [evs, tys, evl] using seinelaw1_awake_spec h) (fun a => by first | rfl | simp only [seinelaw1_awakeE, evk, chks]) fun y92 hy92 => ?_
                            try simp only [seinelaw1_awakeE, evs, tys]
                            exact Imp.some (by first | rfl | simp only [seinelaw1_LettersNamesE, evs, tys, evl])
                          · refine Imp.op (f := fun a => .str a) (fun a h => op_toStr (by first | rfl | simp only [evs, tys, evl]) h) (fun a => rfl) fun y94 hy94 => ?_
                            try simp only [evs, tys]
                            refine Imp.op (f := fun a => .str a) (fun a h => op_cat h) (fun a => rfl) fun y96 hy96 => ?_
                            try simp only [evs, tys]
                            refine Imp.call (f := letters_NameE) rfl (fun a h => by first | exact letters_Name_spec h | simpa only [evs, tys, evl] using letters_Name_spec h) (fun a => by first | rfl | simp only [letters_NameE, evk, chks]) fun y98 hy98 => ?_
                            try simp only [letters_NameE, evs, tys]
                            refine Imp.cnd ?_ ?_
                            · refine Imp.call (f := seinelaw1_awakeE) rfl (fun a h => by first | exact seinelaw1_awake_spec h | simpa only [evs, tys, evl] using seinelaw1_awake_spec h) (fun a => by first | rfl | simp only [seinelaw1_awakeE, evk, chks]) fun y100 hy100 => ?_
                              try simp only [seinelaw1_awakeE, evs, tys]
                              exact Imp.some (by first | rfl | simp only [seinelaw1_LettersNamesE, evs, tys, evl])
                            · exact Imp.some (by first | rfl | simp only [seinelaw1_LettersNamesE, evs, tys, evl])
                  · refine Imp.cnd ?_ ?_
                    · refine Imp.cnd ?_ ?_
                      · refine Imp.cnd ?_ ?_
                        · refine Imp.call (f := seinelaw1_awakeE) rfl (fun a h => by first | exact seinelaw1_awake_spec h | simpa only [evs, tys, evl] using seinelaw1_awake_spec h) (fun a => by first | rfl | simp only [seinelaw1_awakeE, evk, chks]) fun y102 hy102 => ?_
                          try simp only [seinelaw1_awakeE, evs, tys]
                          exact Imp.some (by first | rfl | simp only [seinelaw1_LettersNamesE, evs, tys, evl])
                        · refine Imp.op (f := fun a => .str a) (fun a h => op_toStr (by first | rfl | simp only [evs, tys, evl]) h) (fun a => rfl) fun y104 hy104 => ?_
                          try simp only [evs, tys]
                          refine Imp.op (f := fun a => .str a) (fun a h => op_cat h) (fun a => rfl) fun y106 hy106 => ?_
                          try simp only [evs, tys]
                          refine Imp.call (f := letters_NameE) rfl (fun a h => by first | exact letters_Name_spec h | simpa only [evs, tys, evl] using letters_Name_spec h) (fun a => by first | rfl | simp only [letters_NameE, evk, chks]) fun y108 hy108 => ?_
                          try simp only [letters_NameE, evs, tys]
                          refine Imp.cnd ?_ ?_
                          · refine Imp.call (f := seinelaw1_awakeE) rfl (fun a h => by first | exact seinelaw1_awake_spec h | simpa only [evs, tys, evl] using seinelaw1_awake_spec h) (fun a => by first | rfl | simp only [seinelaw1_awakeE, evk, chks]) fun y110 hy110 => ?_
                            try simp only [seinelaw1_awakeE, evs, tys]
                            exact Imp.some (by first | rfl | simp only [seinelaw1_LettersNamesE, evs, tys, evl])
                          · exact Imp.some (by first | rfl | simp only [seinelaw1_LettersNamesE, evs, tys, evl])
                      · refine Imp.cnd ?_ ?_
                        · refine Imp.cnd ?_ ?_
                          · refine Imp.cnd ?_ ?_
                            · refine Imp.call (f := seinelaw1_awakeE) rfl (fun a h => by first | exact seinelaw1_awake_spec h | simpa only [evs, tys, evl] using seinelaw1_awake_spec h) (fun a => by first | rfl | simp only [seinelaw1_awakeE, evk, chks]) fun y112 hy112 => ?_
                              try simp only [seinelaw1_awakeE, evs, tys]
                              exact Imp.some (by first | rfl | simp only [seinelaw1_LettersNamesE, evs, tys, evl])
                            · refine Imp.op (f := fun a => .str a) (fun a h => op_toStr (by first | rfl | simp only [evs, tys, evl]) h) (fun a => rfl) fun y114 hy114 => ?_
                              try simp only [evs, tys]
                              refine Imp.op (f := fun a => .str a) (fun a h => op_cat h) (fun a => rfl) fun y116 hy116 => ?_
                              try simp only [evs, tys]
                              refine Imp.call (f := letters_NameE) rfl (fun a h => by first | exact letters_Name_spec h | simpa only [evs, tys, evl] using letters_Name_spec h) (fun a => by first | rfl | simp only [letters_NameE, evk, chks]) fun y118 hy118 => ?_
                              try simp only [letters_NameE, evs, tys]
                              refine Imp.cnd ?_ ?_
                              · refine Imp.call (f := seinelaw1_awakeE) rfl (fun a h => by first | exact seinelaw1_awake_spec h | simpa only [evs, tys, evl] using seinelaw1_awake_spec h) (fun a => by first | rfl | simp only [seinelaw1_awakeE, evk, chks]) fun y120 hy120 => ?_
                                try simp only [seinelaw1_awakeE, evs, tys]
                                exact Imp.some (by first | rfl | simp only [seinelaw1_LettersNamesE, evs, tys, evl])
                              · exact Imp.some (by first | rfl | simp only [seinelaw1_LettersNamesE, evs, tys, evl])
                          · refine Imp.cnd ?_ ?_
                            · refine Imp.call (f := seinelaw1_awakeE) rfl (fun a h => by first | exact seinelaw1_awake_spec h | simpa only [evs, tys, evl] using seinelaw1_awake_spec h) (fun a => by first | rfl | simp only [seinelaw1_awakeE, evk, chks]) fun y122 hy122 => ?_
                              try simp only [seinelaw1_awakeE, evs, tys]
                              exact Imp.some (by first | rfl | simp only [seinelaw1_LettersNamesE, evs, tys, evl])
                            · refine Imp.op (f := fun a => .str a) (fun a h => op_toStr (by first | rfl | simp only [evs, tys, evl]) h) (fun a => rfl) fun y124 hy124 => ?_
                              try simp only [evs, tys]
                              refine Imp.op (f := fun a => .str a) (fun a h => op_cat h) (fun a => rfl) fun y126 hy126 => ?_
                              try simp only [evs, tys]
                              refine Imp.call (f := letters_NameE) rfl (fun a h => by first | exact letters_Name_spec h | simpa only [evs, tys, evl] using letters_Name_spec h) (fun a => by first | rfl | simp only [letters_NameE, evk, chks]) fun y128 hy128 => ?_
                              try simp only [letters_NameE, evs, tys]
                              refine Imp.cnd ?_ ?_
                              · refine Imp.call (f := seinelaw1_awakeE) rfl (fun a h => by first | exact seinelaw1_awake_spec h | simpa only [evs, tys, evl] using seinelaw1_awake_spec h) (fun a => by first | rfl | simp only [seinelaw1_awakeE, evk, chks]) fun y130 hy130 => ?_
                                try simp only [seinelaw1_awakeE, evs, tys]
                                exact Imp.some (by first | rfl | simp only [seinelaw1_LettersNamesE, evs, tys, evl])
                              · exact Imp.some (by first | rfl | simp only [seinelaw1_LettersNamesE, evs, tys, evl])
                        · refine Imp.cnd ?_ ?_
                          · refine Imp.call (f := seinelaw1_awakeE) rfl (fun a h => by first | exact seinelaw1_awake_spec h | simpa only [evs, tys, evl] using seinelaw1_awake_spec h) (fun a => by first | rfl | simp only [seinelaw1_awakeE, evk, chks]) fun y132 hy132 => ?_
                            try simp only [seinelaw1_awakeE, evs, tys]
                            exact Imp.some (by first | rfl | simp only [seinelaw1_LettersNamesE, evs, tys, evl])
                          · refine Imp.op (f := fun a => .str a) (fun a h => op_toStr (by first | rfl | simp only [evs, tys, evl]) h) (fun a => rfl) fun y134 hy134 => ?_
                            try simp only [evs, tys]
                            refine Imp.op (f := fun a => .str a) (fun a h => op_cat h) (fun a => rfl) fun y136 hy136 => ?_
                            try simp only [evs, tys]
                            refine Imp.call (f := letters_NameE) rfl (fun a h => by first | exact letters_Name_spec h | simpa only [evs, tys, evl] using letters_Name_spec h) (fun a => by first | rfl | simp only [letters_NameE, evk, chks]) fun y138 hy138 => ?_
                            try simp only [letters_NameE, evs, tys]
                            refine Imp.cnd ?_ ?_
                            · refine Imp.call (f := seinelaw1_awakeE) rfl (fun a h => by first | exact seinelaw1_awake_spec h | simpa only [evs, tys, evl] using seinelaw1_awake_spec h) (fun a => by first | rfl | simp only [seinelaw1_awakeE, evk, chks]) fun y140 hy140 => ?_
                              try simp only [seinelaw1_awakeE, evs, tys]
                              exact Imp.some (by first | rfl | simp only [seinelaw1_LettersNamesE, evs, tys, evl])
                            · exact Imp.some (by first | rfl | simp only [seinelaw1_LettersNamesE, evs, tys, evl])
                    · refine Imp.cnd ?_ ?_
                      · refine Imp.cnd ?_ ?_
                        · refine Imp.cnd ?_ ?_
                          · refine Imp.call (f := seinelaw1_awakeE) rfl (fun a h => by first | exact seinelaw1_awake_spec h | simpa only [evs, tys, evl] using seinelaw1_awake_spec h) (fun a => by first | rfl | simp only [seinelaw1_awakeE, evk, chks]) fun y142 hy142 => ?_
                            try simp only [seinelaw1_awakeE, evs, tys]
                            exact Imp.some (by first | rfl | simp only [seinelaw1_LettersNamesE, evs, tys, evl])
                          · refine Imp.op (f := fun a => .str a) (fun a h => op_toStr (by first | rfl | simp only [evs, tys, evl]) h) (fun a => rfl) fun y144 hy144 => ?_
                            try simp only [evs, tys]
                            refine Imp.op (f := fun a => .str a) (fun a h => op_cat h) (fun a => rfl) fun y146 hy146 => ?_
                            try simp only [evs, tys]
                            refine Imp.call (f := letters_NameE) rfl (fun a h => by first | exact letters_Name_spec h | simpa only [evs, tys, evl] using letters_Name_spec h) (fun a => by first | rfl | simp only [letters_NameE, evk, chks]) fun y148 hy148 => ?_
                            try simp only [letters_NameE, evs, tys]
                            refine Imp.cnd ?_ ?_
                            · refine Imp.call (f := seinelaw1_awakeE) rfl (fun a h => by first | exact seinelaw1_awake_spec h | simpa only [evs, tys, evl] using seinelaw1_awake_spec h) (fun a => by first | rfl | simp only [seinelaw1_awakeE, evk, chks]) fun y150 hy150 => ?_
                              try simp only [seinelaw1_awakeE, evs, tys]
                              exact Imp.some (by first | rfl | simp only [seinelaw1_LettersNamesE, evs, tys, evl])
                            · exact Imp.some (by first | rfl | simp only [seinelaw1_LettersNamesE, evs, tys, evl])
                        · refine Imp.cnd ?_ ?_
                          · refine Imp.call (f := seinelaw1_awakeE) rfl (fun a h => by first | exact seinelaw1_awake_spec h | simpa only [evs, tys, evl] using seinelaw1_awake_spec h) (fun a => by first | rfl | simp only [seinelaw1_awakeE, evk, chks]) fun y152 hy152 => ?_
                            try simp only [seinelaw1_awakeE, evs, tys]
                            exact Imp.some (by first | rfl | simp only [seinelaw1_LettersNamesE, evs, tys, evl])
                          · refine Imp.op (f := fun a => .str a) (fun a h => op_toStr (by first | rfl | simp only [evs, tys, evl]) h) (fun a => rfl) fun y154 hy154 => ?_
                            try simp only [evs, tys]
                            refine Imp.op (f := fun a => .str a) (fun a h => op_cat h) (fun a => rfl) fun y156 hy156 => ?_
                            try simp only [evs, tys]
                            refine Imp.call (f := letters_NameE) rfl (fun a h => by first | exact letters_Name_spec h | simpa only [evs, tys, evl] using letters_Name_spec h) (fun a => by first | rfl | simp only [letters_NameE, evk, chks]) fun y158 hy158 => ?_
                            try simp only [letters_NameE, evs, tys]
                            refine Imp.cnd ?_ ?_
                            · refine Imp.call (f := seinelaw1_awakeE) rfl (fun a h => by first | exact seinelaw1_awake_spec h | simpa only [evs, tys, evl] using seinelaw1_awake_spec h) (fun a => by first | rfl | simp only [seinelaw1_awakeE, evk, chks]) fun y160 hy160 => ?_
                              try simp only [seinelaw1_awakeE, evs, tys]
                              exact Imp.some (by first | rfl | simp only [seinelaw1_LettersNamesE, evs, tys, evl])
                            · exact Imp.some (by first | rfl | simp only [seinelaw1_LettersNamesE, evs, tys, evl])
                      · refine Imp.cnd ?_ ?_
                        · refine Imp.call (f := seinelaw1_awakeE) rfl (fun a h => by first | exact seinelaw1_awake_spec h | simpa only [evs, tys, evl] using seinelaw1_awake_spec h) (fun a => by first | rfl | simp only [seinelaw1_awakeE, evk, chks]) fun y162 hy162 => ?_
                          try simp only [seinelaw1_awakeE, evs, tys]
                          exact Imp.some (by first | rfl | simp only [seinelaw1_LettersNamesE, evs, tys, evl])
                        · refine Imp.op (f := fun a => .str a) (fun a h => op_toStr (by first | rfl | simp only [evs, tys, evl]) h) (fun a => rfl) fun y164 hy164 => ?_
                          try simp only [evs, tys]
                          refine Imp.op (f := fun a => .str a) (fun a h => op_cat h) (fun a => rfl) fun y166 hy166 => ?_
                          try simp only [evs, tys]
                          refine Imp.call (f := letters_NameE) rfl (fun a h => by first | exact letters_Name_spec h | simpa only [evs, tys, evl] using letters_Name_spec h) (fun a => by first | rfl | simp only [letters_NameE, evk, chks]) fun y168 hy168 => ?_
                          try simp only [letters_NameE, evs, tys]
                          refine Imp.cnd ?_ ?_
                          · refine Imp.call (f := seinelaw1_awakeE) rfl (fun a h => by first | exact seinelaw1_awake_spec h | simpa only [evs, tys, evl] using seinelaw1_awake_spec h) (fun a => by first | rfl | simp only [seinelaw1_awakeE, evk, chks]) fun y170 hy170 => ?_
                            try simp only [seinelaw1_awakeE, evs, tys]
                            exact Imp.some (by first | rfl | simp only [seinelaw1_LettersNamesE, evs, tys, evl])
                          · exact Imp.some (by first | rfl | simp only [seinelaw1_LettersNamesE, evs, tys, evl])
            · refine Imp.op (f := fun a => .str a) (fun a h => op_cat h) (fun a => rfl) fun y172 hy172 => ?_
              try simp only [evs, tys]
              refine Imp.call (f := letters_NameE) rfl (fun a h => by first | exact letters_Name_spec h | simpa only [evs, tys, evl] using letters_Name_spec h) (fun a => by first | rfl | simp only [letters_NameE, evk, chks]) fun y174 hy174 => ?_
              try simp only [letters_NameE, evs, tys]
              refine Imp.cnd ?_ ?_
              · exact Imp.some (by first | rfl | simp only [seinelaw1_LettersNamesE, evs, tys, evl])
              · refine Imp.cnd ?_ ?_
                · refine Imp.cnd ?_ ?_
                  · refine Imp.cnd ?_ ?_
                    · refine Imp.call (f := seinelaw1_awakeE) rfl (fun a h => by first | exact seinelaw1_awake_spec h | simpa only [evs, tys, evl] using seinelaw1_awake_spec h) (fun a => by first | rfl | simp only [seinelaw1_awakeE, evk, chks]) fun y176 hy176 => ?_
                      try simp only [seinelaw1_awakeE, evs, tys]
                      exact Imp.some (by first | rfl | simp only [seinelaw1_LettersNamesE, evs, tys, evl])
                    · refine Imp.op (f := fun a => .str a) (fun a h => op_toStr (by first | rfl | simp only [evs, tys, evl]) h) (fun a => rfl) fun y178 hy178 => ?_
                      try simp only [evs, tys]
                      refine Imp.op (f := fun a => .str a) (fun a h => op_cat h) (fun a => rfl) fun y180 hy180 => ?_
                      try simp only [evs, tys]
                      refine Imp.call (f := letters_NameE) rfl (fun a h => by first | exact letters_Name_spec h | simpa only [evs, tys, evl] using letters_Name_spec h) (fun a => by first | rfl | simp only [letters_NameE, evk, chks]) fun y182 hy182 => ?_
                      try simp only [letters_NameE, evs, tys]
                      refine Imp.cnd ?_ ?_
                      · refine Imp.call (f := seinelaw1_awakeE) rfl (fun a h => by first | exact seinelaw1_awake_spec h | simpa only [evs, tys, evl] using seinelaw1_awake_spec h) (fun a => by first | rfl | simp only [seinelaw1_awakeE, evk, chks]) fun y184 hy184 => ?_
                        try simp only [seinelaw1_awakeE, evs, tys]
                        exact Imp.some (by first | rfl | simp only [seinelaw1_LettersNamesE, evs, tys, evl])
                      · exact Imp.some (by first | rfl | simp only [seinelaw1_LettersNamesE, evs, tys, evl])
                  · refine Imp.cnd ?_ ?_
                    · refine Imp.cnd ?_ ?_
                      · refine Imp.cnd ?_ ?_
                        · refine Imp.call (f := seinelaw1_awakeE) rfl (fun a h => by first | exact seinelaw1_awake_spec h | simpa only [evs, tys, evl] using seinelaw1_awake_spec h) (fun a => by first | rfl | simp only [seinelaw1_awakeE, evk, chks]) fun y186 hy186 => ?_
                          try simp only [seinelaw1_awakeE, evs, tys]
                          exact Imp.some (by first | rfl | simp only [seinelaw1_LettersNamesE, evs, tys, evl])
                        · refine Imp.op (f := fun a => .str a) (fun a h => op_toStr (by first | rfl | simp only [evs, tys, evl]) h) (fun a => rfl) fun y188 hy188 => ?_
                          try simp only [evs, tys]
                          refine Imp.op (f := fun a => .str a) (fun a h => op_cat h) (fun a => rfl) fun y190 hy190 => ?_
                          try simp only [evs, tys]
                          refine Imp.call (f := letters_NameE) rfl (fun a h => by first | exact letters_Name_spec h | simpa only [evs, tys, evl] using letters_Name_spec h) (fun a => by first | rfl | simp only [letters_NameE, evk, chks]) fun y192 hy192 => ?_
                          try simp only [letters_NameE, evs, tys]
                          refine Imp.cnd ?_ ?_
                          · refine Imp.call (f := seinelaw1_awakeE) rfl (fun a h => by first | exact seinelaw1_awake_spec h | simpa only [evs, tys, evl] using seinelaw1_awake_spec h) (fun a => by first | rfl | simp only [seinelaw1_awakeE, evk, chks]) fun y194 hy194 => ?_
                            try simp only [seinelaw1_awakeE, evs, tys]
                            exact Imp.some (by first | rfl | simp only [seinelaw1_LettersNamesE, evs, tys, evl])
                          · exact Imp.some (by first | rfl | simp only [seinelaw1_LettersNamesE, evs, tys, evl])
                      · refine Imp.cnd ?_ ?_
                        · refine Imp.cnd ?_ ?_
                          · refine Imp.cnd ?_ ?_
                            · refine Imp.call (f := seinelaw1_awakeE) rfl (fun a h => by first | exact seinelaw1_awake_spec h | simpa only [evs, tys, evl] using seinelaw1_awake_spec h) (fun a => by first | rfl | simp only [seinelaw1_awakeE, evk, chks]) fun y196 hy196 => ?_
                              try simp only [seinelaw1_awakeE, evs, tys]
                              exact Imp.some (by first | rfl | simp only [seinelaw1_LettersNamesE, evs, tys, evl])
                            · refine Imp.op (f := fun a => .str a) (fun a h => op_toStr (by first | rfl | simp only [evs, tys, evl]) h) (fun a => rfl) fun y198 hy198 => ?_
                              try simp only [evs, tys]
                              refine Imp.op (f := fun a => .str a) (fun a h => op_cat h) (fun a => rfl) fun y200 hy200 => ?_
                              try simp only [evs, tys]
                              refine Imp.call (f := letters_NameE) rfl (fun a h => by first | exact letters_Name_spec h | simpa only [evs, tys, evl] using letters_Name_spec h) (fun a => by first | rfl | simp only [letters_NameE, evk, chks]) fun y202 hy202 => ?_
                              try simp only [letters_NameE, evs, tys]
                              refine Imp.cnd ?_ ?_
                              · refine Imp.call (f := seinelaw1_awakeE) rfl (fun a h => by first | exact seinelaw1_awake_spec h | simpa only [evs, tys, evl] using seinelaw1_awake_spec h) (fun a => by first | rfl | simp only [seinelaw1_awakeE, evk, chks]) fun y204 hy204 => ?_
                                try simp only [seinelaw1_awakeE, evs, tys]
                                exact Imp.some (by first | rfl | simp only [seinelaw1_LettersNamesE, evs, tys, evl])
                              · exact Imp.some (by first | rfl | simp only [seinelaw1_LettersNamesE, evs, tys, evl])
                          · refine Imp.cnd ?_ ?_
                            · refine Imp.call (f := seinelaw1_awakeE) rfl (fun a h => by first | exact seinelaw1_awake_spec h | simpa only [evs, tys, evl] using seinelaw1_awake_spec h) (fun a => by first | rfl | simp only [seinelaw1_awakeE, evk, chks]) fun y206 hy206 => ?_
                              try simp only [seinelaw1_awakeE, evs, tys]
                              exact Imp.some (by first | rfl | simp only [seinelaw1_LettersNamesE, evs, tys, evl])
                            · refine Imp.op (f := fun a => .str a) (fun a h => op_toStr (by first | rfl | simp only [evs, tys, evl]) h) (fun a => rfl) fun y208 hy208 => ?_
                              try simp only [evs, tys]
                              refine Imp.op (f := fun a => .str a) (fun a h => op_cat h) (fun a => rfl) fun y210 hy210 => ?_
                              try simp only [evs, tys]
                              refine Imp.call (f := letters_NameE) rfl (fun a h => by first | exact letters_Name_spec h | simpa only [evs, tys, evl] using letters_Name_spec h) (fun a => by first | rfl | simp only [letters_NameE, evk, chks]) fun y212 hy212 => ?_
                              try simp only [letters_NameE, evs, tys]
                              refine Imp.cnd ?_ ?_
                              · refine Imp.call (f := seinelaw1_awakeE) rfl (fun a h => by first | exact seinelaw1_awake_spec h | simpa only [evs, tys, evl] using seinelaw1_awake_spec h) (fun a => by first | rfl | simp only [seinelaw1_awakeE, evk, chks]) fun y214 hy214 => ?_
                                try simp only [seinelaw1_awakeE, evs, tys]
                                exact Imp.some (by first | rfl | simp only [seinelaw1_LettersNamesE, evs, tys, evl])
                              · exact Imp.some (by first | rfl | simp only [seinelaw1_LettersNamesE, evs, tys, evl])
                        · refine Imp.cnd ?_ ?_
                          · refine Imp.call (f := seinelaw1_awakeE) rfl (fun a h => by first | exact seinelaw1_awake_spec h | simpa only [evs, tys, evl] using seinelaw1_awake_spec h) (fun a => by first | rfl | simp only [seinelaw1_awakeE, evk, chks]) fun y216 hy216 => ?_
                            try simp only [seinelaw1_awakeE, evs, tys]
                            exact Imp.some (by first | rfl | simp only [seinelaw1_LettersNamesE, evs, tys, evl])
                          · refine Imp.op (f := fun a => .str a) (fun a h => op_toStr (by first | rfl | simp only [evs, tys, evl]) h) (fun a => rfl) fun y218 hy218 => ?_
                            try simp only [evs, tys]
                            refine Imp.op (f := fun a => .str a) (fun a h => op_cat h) (fun a => rfl) fun y220 hy220 => ?_
                            try simp only [evs, tys]
                            refine Imp.call (f := letters_NameE) rfl (fun a h => by first | exact letters_Name_spec h | simpa only [evs, tys, evl] using letters_Name_spec h) (fun a => by first | rfl | simp only [letters_NameE, evk, chks]) fun y222 hy222 => ?_
                            try simp only [letters_NameE, evs, tys]
                            refine Imp.cnd ?_ ?_
                            · refine Imp.call (f := seinelaw1_awakeE) rfl (fun a h => by first | exact seinelaw1_awake_spec h | simpa only [evs, tys, evl] using seinelaw1_awake_spec h) (fun a => by first | rfl | simp only [seinelaw1_awakeE, evk, chks]) fun y224 hy224 => ?_
                              try simp only [seinelaw1_awakeE, evs, tys]
                              exact Imp.some (by first | rfl | simp only [seinelaw1_LettersNamesE, evs, tys, evl])
                            · exact Imp.some (by first | rfl | simp only [seinelaw1_LettersNamesE, evs, tys, evl])
                    · refine Imp.cnd ?_ ?_
                      · refine Imp.cnd ?_ ?_
                        · refine Imp.cnd ?_ ?_
                          · refine Imp.call (f := seinelaw1_awakeE) rfl (fun a h => by first | exact seinelaw1_awake_spec h | simpa only [evs, tys, evl] using seinelaw1_awake_spec h) (fun a => by first | rfl | simp only [seinelaw1_awakeE, evk, chks]) fun y226 hy226 => ?_
                            try simp only [seinelaw1_awakeE, evs, tys]
                            exact Imp.some (by first | rfl | simp only [seinelaw1_LettersNamesE, evs, tys, evl])
                          · refine Imp.op (f := fun a => .str a) (fun a h => op_toStr (by first | rfl | simp only [evs, tys, evl]) h) (fun a => rfl) fun y228 hy228 => ?_
                            try simp only [evs, tys]
                            refine Imp.op (f := fun a => .str a) (fun a h => op_cat h) (fun a => rfl) fun y230 hy230 => ?_
                            try simp only [evs, tys]
                            refine Imp.call (f := letters_NameE) rfl (fun a h => by first | exact letters_Name_spec h | simpa only [evs, tys, evl] using letters_Name_spec h) (fun a => by first | rfl | simp only [letters_NameE, evk, chks]) fun y232 hy232 => ?_
                            try simp only [letters_NameE, evs, tys]
                            refine Imp.cnd ?_ ?_
                            · refine Imp.call (f := seinelaw1_awakeE) rfl (fun a h => by first | exact seinelaw1_awake_spec h | simpa only [evs, tys, evl] using seinelaw1_awake_spec h) (fun a => by first | rfl | simp only [seinelaw1_awakeE, evk, chks]) fun y234 hy234 => ?_
                              try simp only [seinelaw1_awakeE, evs, tys]
                              exact Imp.some (by first | rfl | simp only [seinelaw1_LettersNamesE, evs, tys, evl])
                            · exact Imp.some (by first | rfl | simp only [seinelaw1_LettersNamesE, evs, tys, evl])
                        · refine Imp.cnd ?_ ?_
                          · refine Imp.call (f := seinelaw1_awakeE) rfl (fun a h => by first | exact seinelaw1_awake_spec h | simpa only [evs, tys, evl] using seinelaw1_awake_spec h) (fun a => by first | rfl | simp only [seinelaw1_awakeE, evk, chks]) fun y236 hy236 => ?_
                            try simp only [seinelaw1_awakeE, evs, tys]
                            exact Imp.some (by first | rfl | simp only [seinelaw1_LettersNamesE, evs, tys, evl])
                          · refine Imp.op (f := fun a => .str a) (fun a h => op_toStr (by first | rfl | simp only [evs, tys, evl]) h) (fun a => rfl) fun y238 hy238 => ?_
                            try simp only [evs, tys]
                            refine Imp.op (f := fun a => .str a) (fun a h => op_cat h) (fun a => rfl) fun y240 hy240 => ?_
                            try simp only [evs, tys]
                            refine Imp.call (f := letters_NameE) rfl (fun a h => by first | exact letters_Name_spec h | simpa only [evs, tys, evl] using letters_Name_spec h) (fun a => by first | rfl | simp only [letters_NameE, evk, chks]) fun y242 hy242 => ?_
                            try simp only [letters_NameE, evs, tys]
                            refine Imp.cnd ?_ ?_
                            · refine Imp.call (f := seinelaw1_awakeE) rfl (fun a h => by first | exact seinelaw1_awake_spec h | simpa only [evs, tys, evl] using seinelaw1_awake_spec h) (fun a => by first | rfl | simp only [seinelaw1_awakeE, evk, chks]) fun y244 hy244 => ?_
                              try simp only [seinelaw1_awakeE, evs, tys]
                              exact Imp.some (by first | rfl | simp only [seinelaw1_LettersNamesE, evs, tys, evl])
                            · exact Imp.some (by first | rfl | simp only [seinelaw1_LettersNamesE, evs, tys, evl])
                      · refine Imp.cnd ?_ ?_
                        · refine Imp.call (f := seinelaw1_awakeE) rfl (fun a h => by first | exact seinelaw1_awake_spec h | simpa only [evs, tys, evl] using seinelaw1_awake_spec h) (fun a => by first | rfl | simp only [seinelaw1_awakeE, evk, chks]) fun y246 hy246 => ?_
                          try simp only [seinelaw1_awakeE, evs, tys]
                          exact Imp.some (by first | rfl | simp only [seinelaw1_LettersNamesE, evs, tys, evl])
                        · refine Imp.op (f := fun a => .str a) (fun a h => op_toStr (by first | rfl | simp only [evs, tys, evl]) h) (fun a => rfl) fun y248 hy248 => ?_
                          try simp only [evs, tys]
                          refine Imp.op (f := fun a => .str a) (fun a h => op_cat h) (fun a => rfl) fun y250 hy250 => ?_
                          try simp only [evs, tys]
                          refine Imp.call (f := letters_NameE) rfl (fun a h => by first | exact letters_Name_spec h | simpa only [evs, tys, evl] using letters_Name_spec h) (fun a => by first | rfl | simp only [letters_NameE, evk, chks]) fun y252 hy252 => ?_
                          try simp only [letters_NameE, evs, tys]
                          refine Imp.cnd ?_ ?_
                          · refine Imp.call (f := seinelaw1_awakeE) rfl (fun a h => by first | exact seinelaw1_awake_spec h | simpa only [evs, tys, evl] using seinelaw1_awake_spec h) (fun a => by first | rfl | simp only [seinelaw1_awakeE, evk, chks]) fun y254 hy254 => ?_
                            try simp only [seinelaw1_awakeE, evs, tys]
                            exact Imp.some (by first | rfl | simp only [seinelaw1_LettersNamesE, evs, tys, evl])
                          · exact Imp.some (by first | rfl | simp only [seinelaw1_LettersNamesE, evs, tys, evl])
                · refine Imp.cnd ?_ ?_
                  · refine Imp.cnd ?_ ?_
                    · refine Imp.cnd ?_ ?_
                      · refine Imp.call (f := seinelaw1_awakeE) rfl (fun a h => by first | exact seinelaw1_awake_spec h | simpa only [evs, tys, evl] using seinelaw1_awake_spec h) (fun a => by first | rfl | simp only [seinelaw1_awakeE, evk, chks]) fun y256 hy256 => ?_
                        try simp only [seinelaw1_awakeE, evs, tys]
                        exact Imp.some (by first | rfl | simp only [seinelaw1_LettersNamesE, evs, tys, evl])
                      · refine Imp.op (f := fun a => .str a) (fun a h => op_toStr (by first | rfl | simp only [evs, tys, evl]) h) (fun a => rfl) fun y258 hy258 => ?_
                        try simp only [evs, tys]
                        refine Imp.op (f := fun a => .str a) (fun a h => op_cat h) (fun a => rfl) fun y260 hy260 => ?_
                        try simp only [evs, tys]
                        refine Imp.call (f := letters_NameE) rfl (fun a h => by first | exact letters_Name_spec h | simpa only [evs, tys, evl] using letters_Name_spec h) (fun a => by first | rfl | simp only [letters_NameE, evk, chks]) fun y262 hy262 => ?_
                        try simp only [letters_NameE, evs, tys]
                        refine Imp.cnd ?_ ?_
                        · refine Imp.call (f := seinelaw1_awakeE) rfl (fun a h => by first | exact seinelaw1_awake_spec h | simpa only [evs, tys, evl] using seinelaw1_awake_spec h) (fun a => by first | rfl | simp only [seinelaw1_awakeE, evk, chks]) fun y264 hy264 => ?_
                          try simp only [seinelaw1_awakeE, evs, tys]
                          exact Imp.some (by first | rfl | simp only [seinelaw1_LettersNamesE, evs, tys, evl])
                        · exact Imp.some (by first | rfl | simp only [seinelaw1_LettersNamesE, evs, tys, evl])
                    · refine Imp.cnd ?_ ?_
                      · refine Imp.cnd ?_ ?_
                        · refine Imp.cnd ?_ ?_
                          · refine Imp.call (f := seinelaw1_awakeE) rfl (fun a h => by first | exact seinelaw1_awake_spec h | simpa only [evs, tys, evl] using seinelaw1_awake_spec h) (fun a => by first | rfl | simp only [seinelaw1_awakeE, evk, chks]) fun y266 hy266 => ?_
                            try simp only [seinelaw1_awakeE, evs, tys]
                            exact Imp.some (by first | rfl | simp only [seinelaw1_LettersNamesE, evs, tys, evl])
                          · refine Imp.op (f := fun a => .str a) (fun a h => op_toStr (by first | rfl | simp only [evs, tys, evl]) h) (fun a => rfl) fun y268 hy268 => ?_
                            try simp only [evs, tys]
                            refine Imp.op (f := fun a => .str a) (fun a h => op_cat h) (fun a => rfl) fun y270 hy270 => ?_
                            try simp only [evs, tys]
                            refine Imp.call (f := letters_NameE) rfl (fun a h => by first | exact letters_Name_spec h | simpa only [evs, tys, evl] using letters_Name_spec h) (fun a => by first | rfl | simp only [letters_NameE, evk, chks]) fun y272 hy272 => ?_
                            try simp only [letters_NameE, evs, tys]
                            refine Imp.cnd ?_ ?_
                            · refine Imp.call (f := seinelaw1_awakeE) rfl (fun a h => by first | exact seinelaw1_awake_spec h | simpa only [evs, tys, evl] using seinelaw1_awake_spec h) (fun a => by first | rfl | simp only [seinelaw1_awakeE, evk, chks]) fun y274 hy274 => ?_
                              try simp only [seinelaw1_awakeE, evs, tys]
                              exact Imp.some (by first | rfl | simp only [seinelaw1_LettersNamesE, evs, tys, evl])
                            · exact Imp.some (by first | rfl | simp only [seinelaw1_LettersNamesE, evs, tys, evl])
                        · refine Imp.cnd ?_ ?_
                          · refine Imp.call (f := seinelaw1_awakeE) rfl (fun a h => by first | exact seinelaw1_awake_spec h | simpa only [evs, tys, evl] using seinelaw1_awake_spec h) (fun a => by first | rfl | simp only [seinelaw1_awakeE, evk, chks]) fun y276 hy276 => ?_
                            try simp only [seinelaw1_awakeE, evs, tys]
                            exact Imp.some (by first | rfl | simp only [seinelaw1_LettersNamesE, evs, tys, evl])
                          · refine Imp.op (f := fun a => .str a) (fun a h => op_toStr (by first | rfl | simp only [evs, tys, evl]) h) (fun a => rfl) fun y278 hy278 => ?_
                            try simp only [evs, tys]
                            refine Imp.op (f := fun a => .str a) (fun a h => op_cat h) (fun a => rfl) fun y280 hy280 => ?_
                            try simp only [evs, tys]
                            refine Imp.call (f := letters_NameE) rfl (fun a h => by first | exact letters_Name_spec h | simpa only [evs, tys, evl] using letters_Name_spec h) (fun a => by first | rfl | simp only [letters_NameE, evk, chks]) fun y282 hy282 => ?_
                            try simp only [letters_NameE, evs, tys]
                            refine Imp.cnd ?_ ?_
                            · refine Imp.call (f := seinelaw1_awakeE) rfl (fun a h => by first | exact seinelaw1_awake_spec h | simpa only [evs, tys, evl] using seinelaw1_awake_spec h) (fun a => by first | rfl | simp only [seinelaw1_awakeE, evk, chks]) fun y284 hy284 => ?_
                              try simp only [seinelaw1_awakeE, evs, tys]
                              exact Imp.some (by first | rfl | simp only [seinelaw1_LettersNamesE, evs, tys, evl])
                            · exact Imp.some (by first | rfl | simp only [seinelaw1_LettersNamesE, evs, tys, evl])
                      · refine Imp.cnd ?_ ?_
                        · refine Imp.call (f := seinelaw1_awakeE) rfl (fun a h => by first | exact seinelaw1_awake_spec h | simpa only [evs, tys, evl] using seinelaw1_awake_spec h) (fun a => by first | rfl | simp only [seinelaw1_awakeE, evk, chks]) fun y286 hy286 => ?_
                          try simp only [seinelaw1_awakeE, evs, tys]
                          exact Imp.some (by first | rfl | simp only [seinelaw1_LettersNamesE, evs, tys, evl])
                        · refine Imp.op (f := fun a => .str a) (fun a h => op_toStr (by first | rfl | simp only [evs, tys, evl]) h) (fun a => rfl) fun y288 hy288 => ?_
                          try simp only [evs, tys]
                          refine Imp.op (f := fun a => .str a) (fun a h => op_cat h) (fun a => rfl) fun y290 hy290 => ?_
                          try simp only [evs, tys]
                          refine Imp.call (f := letters_NameE) rfl (fun a h => by first | exact letters_Name_spec h | simpa only [evs, tys, evl] using letters_Name_spec h) (fun a => by first | rfl | simp only [letters_NameE, evk, chks]) fun y292 hy292 => ?_
                          try simp only [letters_NameE, evs, tys]
                          refine Imp.cnd ?_ ?_
                          · refine Imp.call (f := seinelaw1_awakeE) rfl (fun a h => by first | exact seinelaw1_awake_spec h | simpa only [evs, tys, evl] using seinelaw1_awake_spec h) (fun a => by first | rfl | simp only [seinelaw1_awakeE, evk, chks]) fun y294 hy294 => ?_
                            try simp only [seinelaw1_awakeE, evs, tys]
                            exact Imp.some (by first | rfl | simp only [seinelaw1_LettersNamesE, evs, tys, evl])
                          · exact Imp.some (by first | rfl | simp only [seinelaw1_LettersNamesE, evs, tys, evl])
                  · refine Imp.cnd ?_ ?_
                    · refine Imp.cnd ?_ ?_
                      · refine Imp.cnd ?_ ?_
                        · refine Imp.call (f := seinelaw1_awakeE) rfl (fun a h => by first | exact seinelaw1_awake_spec h | simpa only [evs, tys, evl] using seinelaw1_awake_spec h) (fun a => by first | rfl | simp only [seinelaw1_awakeE, evk, chks]) fun y296 hy296 => ?_
                          try simp only [seinelaw1_awakeE, evs, tys]
                          exact Imp.some (by first | rfl | simp only [seinelaw1_LettersNamesE, evs, tys, evl])
                        · refine Imp.op (f := fun a => .str a) (fun a h => op_toStr (by first | rfl | simp only [evs, tys, evl]) h) (fun a => rfl) fun y298 hy298 => ?_
                          try simp only [evs, tys]
                          refine Imp.op (f := fun a => .str a) (fun a h => op_cat h) (fun a => rfl) fun y300 hy300 => ?_
                          try simp only [evs, tys]
                          refine Imp.call (f := letters_NameE) rfl (fun a h => by first | exact letters_Name_spec h | simpa only [evs, tys, evl] using letters_Name_spec h) (fun a => by first | rfl | simp only [letters_NameE, evk, chks]) fun y302 hy302 => ?_
                          try simp only [letters_NameE, evs, tys]
                          refine Imp.cnd ?_ ?_
                          · refine Imp.call (f := seinelaw1_awakeE) rfl (fun a h => by first | exact seinelaw1_awake_spec h | simpa only [evs, tys, evl] using seinelaw1_awake_spec h) (fun a => by first | rfl | simp only [seinelaw1_awakeE, evk, chks]) fun y304 hy304 => ?_
                            try simp only [seinelaw1_awakeE, evs, tys]
                            exact Imp.some (by first | rfl | simp only [seinelaw1_LettersNamesE, evs, tys, evl])
                          · exact Imp.some (by first | rfl | simp only [seinelaw1_LettersNamesE, evs, tys, evl])
                      · refine Imp.cnd ?_ ?_
                        · refine Imp.call (f := seinelaw1_awakeE) rfl (fun a h => by first | exact seinelaw1_awake_spec h | simpa only [evs, tys, evl] using seinelaw1_awake_spec h) (fun a => by first | rfl | simp only [seinelaw1_awakeE, evk, chks]) fun y306 hy306 => ?_
                          try simp only [seinelaw1_awakeE, evs, tys]
                          exact Imp.some (by first | rfl | simp only [seinelaw1_LettersNamesE, evs, tys, evl])
                        · refine Imp.op (f := fun a => .str a) (fun a h => op_toStr (by first | rfl | simp only [evs, tys, evl]) h) (fun a => rfl) fun y308 hy308 => ?_
                          try simp only [evs, tys]
                          refine Imp.op (f := fun a => .str a) (fun a h => op_cat h) (fun a => rfl) fun y310 hy310 => ?_
                          try simp only [evs, tys]
                          refine Imp.call (f := letters_NameE) rfl (fun a h => by first | exact letters_Name_spec h | simpa only [evs, tys, evl] using letters_Name_spec h) (fun a => by first | rfl | simp only [letters_NameE, evk, chks]) fun y312 hy312 => ?_
                          try simp only [letters_NameE, evs, tys]
                          refine Imp.cnd ?_ ?_
                          · refine Imp.call (f := seinelaw1_awakeE) rfl (fun a h => by first | exact seinelaw1_awake_spec h | simpa only [evs, tys, evl] using seinelaw1_awake_spec h) (fun a => by first | rfl | simp only [seinelaw1_awakeE, evk, chks]) fun y314 hy314 => ?_
                            try simp only [seinelaw1_awakeE, evs, tys]
                            exact Imp.some (by first | rfl | simp only [seinelaw1_LettersNamesE, evs, tys, evl])
                          · exact Imp.some (by first | rfl | simp only [seinelaw1_LettersNamesE, evs, tys, evl])
                    · refine Imp.cnd ?_ ?_
                      · refine Imp.call (f := seinelaw1_awakeE) rfl (fun a h => by first | exact seinelaw1_awake_spec h | simpa only [evs, tys, evl] using seinelaw1_awake_spec h) (fun a => by first | rfl | simp only [seinelaw1_awakeE, evk, chks]) fun y316 hy316 => ?_
                        try simp only [seinelaw1_awakeE, evs, tys]
                        exact Imp.some (by first | rfl | simp only [seinelaw1_LettersNamesE, evs, tys, evl])
                      · refine Imp.op (f := fun a => .str a) (fun a h => op_toStr (by first | rfl | simp only [evs, tys, evl]) h) (fun a => rfl) fun y318 hy318 => ?_
                        try simp only [evs, tys]
                        refine Imp.op (f := fun a => .str a) (fun a h => op_cat h) (fun a => rfl) fun y320 hy320 => ?_
                        try simp only [evs, tys]
                        refine Imp.call (f := letters_NameE) rfl (fun a h => by first | exact letters_Name_spec h | simpa only [evs, tys, evl] using letters_Name_spec h) (fun a => by first | rfl | simp only [letters_NameE, evk, chks]) fun y322 hy322 => ?_
                        try simp only [letters_NameE, evs, tys]
                        refine Imp.cnd ?_ ?_
                        · refine Imp.call (f := seinelaw1_awakeE) rfl (fun a h => by first | exact seinelaw1_awake_spec h | simpa only [evs, tys, evl] using seinelaw1_awake_spec h) (fun a => by first | rfl | simp only [seinelaw1_awakeE, evk, chks]) fun y324 hy324 => ?_
                          try simp only [seinelaw1_awakeE, evs, tys]
                          exact Imp.some (by first | rfl | simp only [seinelaw1_LettersNamesE, evs, tys, evl])
                        · exact Imp.some (by first | rfl | simp only [seinelaw1_LettersNamesE, evs, tys, evl])
        · refine Imp.cnd ?_ ?_
          · refine Imp.op (f := fun a => .str a) (fun a h => op_cat h) (fun a => rfl) fun y326 hy326 => ?_
            try simp only [evs, tys]
            refine Imp.call (f := letters_NameE) rfl (fun a h => by first | exact letters_Name_spec h | simpa only [evs, tys, evl] using letters_Name_spec h) (fun a => by first | rfl | simp only [letters_NameE, evk, chks]) fun y328 hy328 => ?_
            try simp only [letters_NameE, evs, tys]
            refine Imp.cnd ?_ ?_
            · exact Imp.some (by first | rfl | simp only [seinelaw1_LettersNamesE, evs, tys, evl])
            · refine Imp.op (f := fun a => .str a) (fun a h => op_cat h) (fun a => rfl) fun y330 hy330 => ?_
              try simp only [evs, tys]
              refine Imp.call (f := letters_NameE) rfl (fun a h => by first | exact letters_Name_spec h | simpa only [evs, tys, evl] using letters_Name_spec h) (fun a => by first | rfl | simp only [letters_NameE, evk, chks]) fun y332 hy332 => ?_
              try simp only [letters_NameE, evs, tys]
              refine Imp.cnd ?_ ?_
              · exact Imp.some (by first | rfl | simp only [seinelaw1_LettersNamesE, evs, tys, evl])
              · refine Imp.cnd ?_ ?_
                · refine Imp.cnd ?_ ?_
                  · refine Imp.cnd ?_ ?_
                    · refine Imp.call (f := seinelaw1_awakeE) rfl (fun a h => by first | exact seinelaw1_awake_spec h | simpa only [evs, tys, evl] using seinelaw1_awake_spec h) (fun a => by first | rfl | simp only [seinelaw1_awakeE, evk, chks]) fun y334 hy334 => ?_
                      try simp only [seinelaw1_awakeE, evs, tys]
                      exact Imp.some (by first | rfl | simp only [seinelaw1_LettersNamesE, evs, tys, evl])
                    · refine Imp.op (f := fun a => .str a) (fun a h => op_toStr (by first | rfl | simp only [evs, tys, evl]) h) (fun a => rfl) fun y336 hy336 => ?_
                      try simp only [evs, tys]
                      refine Imp.op (f := fun a => .str a) (fun a h => op_cat h) (fun a => rfl) fun y338 hy338 => ?_
                      try simp only [evs, tys]
                      refine Imp.call (f := letters_NameE) rfl (fun a h => by first | exact letters_Name_spec h | simpa only [evs, tys, evl] using letters_Name_spec h) (fun a => by first | rfl | simp only [letters_NameE, evk, chks]) fun y340 hy340 => ?_
                      try simp only [letters_NameE, evs, tys]
                      refine Imp.cnd ?_ ?_
                      · refine Imp.call (f := seinelaw1_awakeE) rfl (fun a h => by first | exact seinelaw1_awake_spec h | simpa only [evs, tys, evl] using seinelaw1_awake_spec h) (fun a => by first | rfl | simp only [seinelaw1_awakeE, evk, chks]) fun y342 hy342 => ?_
                        try simp only [seinelaw1_awakeE, evs, tys]
                        exact Imp.some (by first | rfl | simp only [seinelaw1_LettersNamesE, evs, tys, evl])
                      · exact Imp.some (by first | rfl | simp only [seinelaw1_LettersNamesE, evs, tys, evl])
                  · refine Imp.cnd ?_ ?_
                    · refine Imp.cnd ?_ ?_
                      · refine Imp.cnd ?_ ?_
                        · refine Imp.call (f := seinelaw1_awakeE) rfl (fun a h => by first | exact seinelaw1_awake_spec h | simpa only [evs, tys, evl] using seinelaw1_awake_spec h) (fun a => by first | rfl | simp only [seinelaw1_awakeE, evk, chks]) fun y344 hy344 => ?_
                          try simp only [seinelaw1_awakeE, evs, tys]
                          exact Imp.some (by first | rfl | simp only [seinelaw1_LettersNamesE, evs, tys, evl])
                        · refine Imp.op (f := fun a => .str a) (fun a h => op_toStr (by first | rfl | simp only [evs, tys, evl]) h) (fun a => rfl) fun y346 hy346 => ?_
                          try simp only [evs, tys]
                          refine Imp.op (f := fun a => .str a) (fun a h => op_cat h) (fun a => rfl) fun y348 hy348 => ?_
                          try simp only [evs, tys]
                          refine Imp.call (f := letters_NameE) rfl (fun a h => by first | exact letters_Name_spec h | simpa only [evs, tys, evl] using letters_Name_spec h) (fun a => by first | rfl | simp only [letters_NameE, evk, chks]) fun y350 hy350 => ?_
                          try simp only [letters_NameE, evs, tys]
                          refine Imp.cnd ?_ ?_
                          · refine Imp.call (f := seinelaw1_awakeE) rfl (fun a h => by first | exact seinelaw1_awake_spec h | simpa only [evs, tys, evl] using seinelaw1_awake_spec h) (fun a => by first | rfl | simp only [seinelaw1_awakeE, evk, chks]) fun y352 hy352 => ?_
                            try simp only [seinelaw1_awakeE, evs, tys]
                            exact Imp.some (by first | rfl | simp only [seinelaw1_LettersNamesE, evs, tys, evl])
                          · exact Imp.some (by first | rfl | simp only [seinelaw1_LettersNamesE, evs, tys, evl])
                      · refine Imp.cnd ?_ ?_
                        · refine Imp.cnd ?_ ?_
                          · refine Imp.cnd ?_ ?_
                            · refine Imp.call (f := seinelaw1_awakeE) rfl (fun a h => by first | exact seinelaw1_awake_spec h | simpa only [evs, tys, evl] using seinelaw1_awake_spec h) (fun a => by first | rfl | simp only [seinelaw1_awakeE, evk, chks]) fun y354 hy354 => ?_
                              try simp only [seinelaw1_awakeE, evs, tys]
                              exact Imp.some (by first | rfl | simp only [seinelaw1_LettersNamesE, evs, tys, evl])
                            · refine Imp.op (f := fun a => .str a) (fun a h => op_toStr (by first | rfl | simp only [evs, tys, evl]) h) (fun a => rfl) fun y356 hy356 => ?_
                              try simp only [evs, tys]
                              refine Imp.op (f := fun a => .str a) (fun a h => op_cat h) (fun a => rfl) fun y358 hy358 => ?_
                              try simp only [evs, tys]
                              refine Imp.call (f := letters_NameE) rfl (fun a h => by first | exact letters_Name_spec h | simpa only [evs, tys, evl] using letters_Name_spec h) (fun a => by first | rfl | simp only [letters_NameE, evk, chks]) fun y360 hy360 => ?_
                              try simp only [letters_NameE, evs, tys]
                              refine Imp.cnd ?_ ?_
                              · refine Imp.call (f := seinelaw1_awakeE) rfl (fun a h => by first | exact seinelaw1_awake_spec h | simpa only [evs, tys, evl] using seinelaw1_awake_spec h) (fun a => by first | rfl | simp only [seinelaw1_awakeE, evk, chks]) fun y362 hy362 => ?_
                                try simp only [seinelaw1_awakeE, evs, tys]
                                exact Imp.some (by first | rfl | simp only [seinelaw1_LettersNamesE, evs, tys, evl])
                              · exact Imp.some (by first | rfl | simp only [seinelaw1_LettersNamesE, evs, tys, evl])
                          · refine Imp.cnd ?_ ?_
                            · refine Imp.call (f := seinelaw1_awakeE) rfl (fun a h => by first | exact seinelaw1_awake_spec h | simpa only [evs, tys, evl] using seinelaw1_awake_spec h) (fun a => by first | rfl | simp only [seinelaw1_awakeE, evk, chks]) fun y364 hy364 => ?_
                              try simp only [seinelaw1_awakeE, evs, tys]
                              exact Imp.some (by first | rfl | simp only [seinelaw1_LettersNamesE, evs, tys, evl])
                            · refine Imp.op (f := fun a => .str a) (fun a h => op_toStr (by first | rfl | simp only [evs, tys, evl]) h) (fun a => rfl) fun y366 hy366 => ?_
                              try simp only [evs, tys]
                              refine Imp.op (f := fun a => .str a) (fun a h => op_cat h) (fun a => rfl) fun y368 hy368 => ?_
                              try simp only [evs, tys]
                              refine Imp.call (f := letters_NameE) rfl (fun a h => by first | exact letters_Name_spec h | simpa only [evs, tys, evl] using letters_Name_spec h) (fun a => by first | rfl | simp only [letters_NameE, evk, chks]) fun y370 hy370 => ?_
                              try simp only [letters_NameE, evs, tys]
                              refine Imp.cnd ?_ ?_
                              · refine Imp.call (f := seinelaw1_awakeE) rfl (fun a h => by first | exact seinelaw1_awake_spec h | simpa only [evs, tys, evl] using seinelaw1_awake_spec h) (fun a => by first | rfl | simp only [seinelaw1_awakeE, evk, chks]) fun y372 hy372 => ?_
                                try simp only [seinelaw1_awakeE, evs, tys]
                                exact Imp.some (by first | rfl | simp only [seinelaw1_LettersNamesE, evs, tys, evl])
                              · exact Imp.some (by first | rfl | simp only [seinelaw1_LettersNamesE, evs, tys, evl])
                        · refine Imp.cnd ?_ ?_
                          · refine Imp.call (f := seinelaw1_awakeE) rfl (fun a h => by first | exact seinelaw1_awake_spec h | simpa only [evs, tys, evl] using seinelaw1_awake_spec h) (fun a => by first | rfl | simp only [seinelaw1_awakeE, evk, chks]) fun y374 hy374 => ?_
                            try simp only [seinelaw1_awakeE, evs, tys]
                            exact Imp.some (by first | rfl | simp only [seinelaw1_LettersNamesE, evs, tys, evl])
                          · refine Imp.op (f := fun a => .str a) (fun a h => op_toStr (by first | rfl | simp only [evs, tys, evl]) h) (fun a => rfl) fun y376 hy376 => ?_
                            try simp only [evs, tys]
                            refine Imp.op (f := fun a => .str a) (fun a h => op_cat h) (fun a => rfl) fun y378 hy378 => ?_
                            try simp only [evs, tys]
                            refine Imp.call (f := letters_NameE) rfl (fun a h => by first | exact letters_Name_spec h | simpa only [evs, tys, evl] using letters_Name_spec h) (fun a => by first | rfl | simp only [letters_NameE, evk, chks]) fun y380 hy380 => ?_
                            try simp only [letters_NameE, evs, tys]
                            refine Imp.cnd ?_ ?_
                            · refine Imp.call (f := seinelaw1_awakeE) rfl (fun a h => by first | exact seinelaw1_awake_spec h | simpa only [evs, tys, evl] using seinelaw1_awake_spec h) (fun a => by first | rfl | simp only [seinelaw1_awakeE, evk, chks]) fun y382 hy382 => ?_
                              try simp only [seinelaw1_awakeE, evs, tys]
                              exact Imp.some (by first | rfl | simp only [seinelaw1_LettersNamesE, evs, tys, evl])
                            · exact Imp.some (by first | rfl | simp only [seinelaw1_LettersNamesE, evs, tys, evl])
                    · refine Imp.cnd ?_ ?_
                      · refine Imp.cnd ?_ ?_
                        · refine Imp.cnd ?_ ?_
                          · refine Imp.call (f := seinelaw1_awakeE) rfl (fun a h => by first | exact seinelaw1_awake_spec h | simpa only [evs, tys, evl] using seinelaw1_awake_spec h) (fun a => by first | rfl | simp only [seinelaw1_awakeE, evk, chks]) fun y384 hy384 => ?_
                            try simp only [seinelaw1_awakeE, evs, tys]
                            exact Imp.some (by first | rfl | simp only [seinelaw1_LettersNamesE, evs, tys, evl])
                          · refine Imp.op (f := fun a => .str a) (fun a h => op_toStr (by first | rfl | simp only [evs, tys, evl]) h) (fun a => rfl) fun y386 hy386 => ?_
                            try simp only [evs, tys]
                            refine Imp.op (f := fun a => .str a) (fun a h => op_cat h) (fun a => rfl) fun y388 hy388 => ?_
                            try simp only [evs, tys]
                            refine Imp.call (f := letters_NameE) rfl (fun a h => by first | exact letters_Name_spec h | simpa only [evs, tys, evl] using letters_Name_spec h) (fun a => by first | rfl | simp only [letters_NameE, evk, chks]) fun y390 hy390 => ?_
                            try simp only [letters_NameE, evs, tys]
                            refine Imp.cnd ?_ ?_
                            · refine Imp.call (f := seinelaw1_awakeE) rfl (fun a h => by first | exact seinelaw1_awake_spec h | simpa only [evs, tys, evl] using seinelaw1_awake_spec h) (fun a => by first | rfl | simp only [seinelaw1_awakeE, evk, chks]) fun y392 hy392 => ?_
                              try simp only [seinelaw1_awakeE, evs, tys]
                              exact Imp.some (by first | rfl | simp only [seinelaw1_LettersNamesE, evs, tys, evl])
                            · exact Imp.some (by first | rfl | simp only [seinelaw1_LettersNamesE, evs, tys, evl])
                        · refine Imp.cnd ?_ ?_
                          · refine Imp.call (f := seinelaw1_awakeE) rfl (fun a h => by first | exact seinelaw1_awake_spec h | simpa only [evs, tys, evl] using seinelaw1_awake_spec h) (fun a => by first | rfl | simp only [seinelaw1_awakeE, evk, chks]) fun y394 hy394 => ?_
                            try simp only [seinelaw1_awakeE, evs, tys]
                            exact Imp.some (by first | rfl | simp only [seinelaw1_LettersNamesE, evs, tys, evl])
                          · refine Imp.op (f := fun a => .str a) (fun a h => op_toStr (by first | rfl | simp only [evs, tys, evl]) h) (fun a => rfl) fun y396 hy396 => ?_
                            try simp only [evs, tys]
                            refine Imp.op (f := fun a => .str a) (fun a h => op_cat h) (fun a => rfl) fun y398 hy398 => ?_
                            try simp only [evs, tys]
                            refine Imp.call (f := letters_NameE) rfl (fun a h => by first | exact letters_Name_spec h | simpa only [evs, tys, evl] using letters_Name_spec h) (fun a => by first | rfl | simp only [letters_NameE, evk, chks]) fun y400 hy400 => ?_
                            try simp only [letters_NameE, evs, tys]
                            refine Imp.cnd ?_ ?_
                            · refine Imp.call (f := seinelaw1_awakeE) rfl (fun a h => by first | exact seinelaw1_awake_spec h | simpa only [evs, tys, evl] using seinelaw1_awake_spec h) (fun a => by first | rfl | simp only [seinelaw1_awakeE, evk, chks]) fun y402 hy402 => ?_
                              try simp only [seinelaw1_awakeE, evs, tys]
                              exact Imp.some (by first | rfl | simp only [seinelaw1_LettersNamesE, evs, tys, evl])
                            · exact Imp.some (by first | rfl | simp only [seinelaw1_LettersNamesE, evs, tys, evl])
                      · refine Imp.cnd ?_ ?_
                        · refine Imp.call (f := seinelaw1_awakeE) rfl (fun a h => by first | exact seinelaw1_awake_spec h | simpa only [evs, tys, evl] using seinelaw1_awake_spec h) (fun a => by first | rfl | simp only [seinelaw1_awakeE, evk, chks]) fun y404 hy404 => ?_
                          try simp only [seinelaw1_awakeE, evs, tys]
                          exact Imp.some (by first | rfl | simp only [seinelaw1_LettersNamesE, evs, tys, evl])
                        · refine Imp.op (f := fun a => .str a) (fun a h => op_toStr (by first | rfl | simp only [evs, tys, evl]) h) (fun a => rfl) fun y406 hy406 => ?_
                          try simp only [evs, tys]
                          refine Imp.op (f := fun a => .str a) (fun a h => op_cat h) (fun a => rfl) fun y408 hy408 => ?_
                          try simp only [evs, tys]
                          refine Imp.call (f := letters_NameE) rfl (fun a h => by first | exact letters_Name_spec h | simpa only [evs, tys, evl] using letters_Name_spec h) (fun a => by first | rfl | simp only [letters_NameE, evk, chks]) fun y410 hy410 => ?_
                          try simp only [letters_NameE, evs, tys]
                          refine Imp.cnd ?_ ?_
                          · refine Imp.call (f := seinelaw1_awakeE) rfl (fun a h => by first | exact seinelaw1_awake_spec h | simpa only [evs, tys, evl] using seinelaw1_awake_spec h) (fun a => by first | rfl | simp only [seinelaw1_awakeE, evk, chks]) fun y412 hy412 => ?_
                            try simp only [seinelaw1_awakeE, evs, tys]
                            exact Imp.some (by first | rfl | simp only [seinelaw1_LettersNamesE, evs, tys, evl])
                          · exact Imp.some (by first | rfl | simp only [seinelaw1_LettersNamesE, evs, tys, evl])
                · refine Imp.cnd ?_ ?_
                  · refine Imp.cnd ?_ ?_
                    · refine Imp.cnd ?_ ?_
                      · refine Imp.call (f := seinelaw1_awakeE) rfl (fun a h => by first | exact seinelaw1_awake_spec h | simpa only [evs, tys, evl] using seinelaw1_awake_spec h) (fun a => by first | rfl | simp only [seinelaw1_awakeE, evk, chks]) fun y414 hy414 => ?_
                        try simp only [seinelaw1_awakeE, evs, tys]
                        exact Imp.some (by first | rfl | simp only [seinelaw1_LettersNamesE, evs, tys, evl])
                      · refine Imp.op (f := fun a => .str a) (fun a h => op_toStr (by first | rfl | simp only [evs, tys, evl]) h) (fun a => rfl) fun y416 hy416 => ?_
                        try simp only [evs, tys]
                        refine Imp.op (f := fun a => .str a) (fun a h => op_cat h) (fun a => rfl) fun y418 hy418 => ?_
                        try simp only [evs, tys]
                        refine Imp.call (f := letters_NameE) rfl (fun a h => by first | exact letters_Name_spec h | simpa only [evs, tys, evl] using letters_Name_spec h) (fun a => by first | rfl | simp only [letters_NameE, evk, chks]) fun y420 hy420 => ?_
                        try simp only [letters_NameE, evs, tys]
                        refine Imp.cnd ?_ ?_
                        · refine Imp.call (f := seinelaw1_awakeE) rfl (fun a h => by first | exact seinelaw1_awake_spec h | simpa only [evs, tys, evl] using seinelaw1_awake_spec h) (fun a => by first | rfl | simp only [seinelaw1_awakeE, evk, chks]) fun y422 hy422 => ?_
                          try simp only [seinelaw1_awakeE, evs, tys]
                          exact Imp.some (by first | rfl | simp only [seinelaw1_LettersNamesE, evs, tys, evl])
                        · exact Imp.some (by first | rfl | simp only [seinelaw1_LettersNamesE, evs, tys, evl])
                    · refine Imp.cnd ?_ ?_
                      · refine Imp.cnd ?_ ?_
                        · refine Imp.cnd ?_ ?_
                          · refine Imp.call (f := seinelaw1_awakeE) rfl (fun a h => by first | exact seinelaw1_awake_spec h | simpa only [evs, tys, evl] using seinelaw1_awake_spec h) (fun a => by first | rfl | simp only [seinelaw1_awakeE, evk, chks]) fun y424 hy424 => ?_
                            try simp only [seinelaw1_awakeE, evs, tys]
                            exact Imp.some (by first | rfl | simp only [seinelaw1_LettersNamesE, evs, tys, evl])
                          · refine Imp.op (f := fun a => .str a) (fun a h => op_toStr (by first | rfl | simp only [evs, tys, evl]) h) (fun a => rfl) fun y426 hy426 => ?_
                            try simp only [evs, tys]
                            refine Imp.op (f := fun a => .str a) (fun a h => op_cat h) (fun a => rfl) fun y428 hy428 => ?_
                            try simp only [evs, tys]
                            refine Imp.call (f := letters_NameE) rfl (fun a h => by first | exact letters_Name_spec h | simpa only [evs, tys, evl] using letters_Name_spec h) (fun a => by first | rfl | simp only [letters_NameE, evk, chks]) fun y430 hy430 => ?_
                            try simp only [letters_NameE, evs, tys]
                            refine Imp.cnd ?_ ?_
                            · refine Imp.call (f := seinelaw1_awakeE) rfl (fun a h => by first | exact seinelaw1_awake_spec h | simpa only [evs, tys, evl] using seinelaw1_awake_spec h) (fun a => by first | rfl | simp only [seinelaw1_awakeE, evk, chks]) fun y432 hy432 => ?_
                              try simp only [seinelaw1_awakeE, evs, tys]
                              exact Imp.some (by first | rfl | simp only [seinelaw1_LettersNamesE, evs, tys, evl])
                            · exact Imp.some (by first | rfl | simp only [seinelaw1_LettersNamesE, evs, tys, evl])
                        · refine Imp.cnd ?_ ?_
                          · refine Imp.call (f := seinelaw1_awakeE) rfl (fun a h => by first | exact seinelaw1_awake_spec h | simpa only [evs, tys, evl] using seinelaw1_awake_spec h) (fun a => by first | rfl | simp only [seinelaw1_awakeE, evk, chks]) fun y434 hy434 => ?_
                            try simp only [seinelaw1_awakeE, evs, tys]
                            exact Imp.some (by first | rfl | simp only [seinelaw1_LettersNamesE, evs, tys, evl])
                          · refine Imp.op (f := fun a => .str a) (fun a h => op_toStr (by first | rfl | simp only [evs, tys, evl]) h) (fun a => rfl) fun y436 hy436 => ?_
                            try simp only [evs, tys]
                            refine Imp.op (f := fun a => .str a) (fun a h => op_cat h) (fun a => rfl) fun y438 hy438 => ?_
                            try simp only [evs, tys]
                            refine Imp.call (f := letters_NameE) rfl (fun a h => by first | exact letters_Name_spec h | simpa only [evs, tys, evl] using letters_Name_spec h) (fun a => by first | rfl | simp only [letters_NameE, evk, chks]) fun y440 hy440 => ?_
                            try simp only [letters_NameE, evs, tys]
                            refine Imp.cnd ?_ ?_
                            · refine Imp.call (f := seinelaw1_awakeE) rfl (fun a h => by first | exact seinelaw1_awake_spec h | simpa only [evs, tys, evl] using seinelaw1_awake_spec h) (fun a => by first | rfl | simp only [seinelaw1_awakeE, evk, chks]) fun y442 hy442 => ?_
                              try simp only [seinelaw1_awakeE, evs, tys]
                              exact Imp.some (by first | rfl | simp only [seinelaw1_LettersNamesE, evs, tys, evl])
                            · exact Imp.some (by first | rfl | simp only [seinelaw1_LettersNamesE, evs, tys, evl])
                      · refine Imp.cnd ?_ ?_
                        · refine Imp.call (f := seinelaw1_awakeE) rfl (fun a h => by first | exact seinelaw1_awake_spec h | simpa only [evs, tys, evl] using seinelaw1_awake_spec h) (fun a => by first | rfl | simp only [seinelaw1_awakeE, evk, chks]) fun y444 hy444 => ?_
                          try simp only [seinelaw1_awakeE, evs, tys]
                          exact Imp.some (by first | rfl | simp only [seinelaw1_LettersNamesE, evs, tys, evl])
                        · refine Imp.op (f := fun a => .str a) (fun a h => op_toStr (by first | rfl | simp only [evs, tys, evl]) h) (fun a => rfl) fun y446 hy446 => ?_
                          try simp only [evs, tys]
                          refine Imp.op (f := fun a => .str a) (fun a h => op_cat h) (fun a => rfl) fun y448 hy448 => ?_
                          try simp only [evs, tys]
                          refine Imp.call (f := letters_NameE) rfl (fun a h => by first | exact letters_Name_spec h | simpa only [evs, tys, evl] using letters_Name_spec h) (fun a => by first | rfl | simp only [letters_NameE, evk, chks]) fun y450 hy450 => ?_
                          try simp only [letters_NameE, evs, tys]
                          refine Imp.cnd ?_ ?_
                          · refine Imp.call (f := seinelaw1_awakeE) rfl (fun a h => by first | exact seinelaw1_awake_spec h | simpa only [evs, tys, evl] using seinelaw1_awake_spec h) (fun a => by first | rfl | simp only [seinelaw1_awakeE, evk, chks]) fun y452 hy452 => ?_
                            try simp only [seinelaw1_awakeE, evs, tys]
                            exact Imp.some (by first | rfl | simp only [seinelaw1_LettersNamesE, evs, tys, evl])
                          · exact Imp.some (by first | rfl | simp only [seinelaw1_LettersNamesE, evs, tys, evl])
                  · refine Imp.cnd ?_ ?_
                    · refine Imp.cnd ?_ ?_
                      · refine Imp.cnd ?_ ?_
                        · refine Imp.call (f := seinelaw1_awakeE) rfl (fun a h => by first | exact seinelaw1_awake_spec h | simpa only [evs, tys, evl] using seinelaw1_awake_spec h) (fun a => by first | rfl | simp only [seinelaw1_awakeE, evk, chks]) fun y454 hy454 => ?_
                          try simp only [seinelaw1_awakeE, evs, tys]
                          exact Imp.some (by first | rfl | simp only [seinelaw1_LettersNamesE, evs, tys, evl])
                        · refine Imp.op (f := fun a => .str a) (fun a h => op_toStr (by first | rfl | simp only [evs, tys, evl]) h) (fun a => rfl) fun y456 hy456 => ?_
                          try simp only [evs, tys]
                          refine Imp.op (f := fun a => .str a) (fun a h => op_cat h) (fun a => rfl) fun y458 hy458 => ?_
                          try simp only [evs, tys]
                          refine Imp.call (f := letters_NameE) rfl (fun a h => by first | exact letters_Name_spec h | simpa only [evs, tys, evl] using letters_Name_spec h) (fun a => by first | rfl | simp only [letters_NameE, evk, chks]) fun y460 hy460 => ?_
                          try simp only [letters_NameE, evs, tys]
                          refine Imp.cnd ?_ ?_
                          · refine Imp.call (f := seinelaw1_awakeE) rfl (fun a h => by first | exact seinelaw1_awake_spec h | simpa only [evs, tys, evl] using seinelaw1_awake_spec h) (fun a => by first | rfl | simp only [seinelaw1_awakeE, evk, chks]) fun y462 hy462 => ?_
                            try simp only [seinelaw1_awakeE, evs, tys]
                            exact Imp.some (by first | rfl | simp only [seinelaw1_LettersNamesE, evs, tys, evl])
                          · exact Imp.some (by first | rfl | simp only [seinelaw1_LettersNamesE, evs, tys, evl])
                      · refine Imp.cnd ?_ ?_
                        · refine Imp.call (f := seinelaw1_awakeE) rfl (fun a h => by first | exact seinelaw1_awake_spec h | simpa only [evs, tys, evl] using seinelaw1_awake_spec h) (fun a => by first | rfl | simp only [seinelaw1_awakeE, evk, chks]) fun y464 hy464 => ?_
                          try simp only [seinelaw1_awakeE, evs, tys]
                          exact Imp.some (by first | rfl | simp only [seinelaw1_LettersNamesE, evs, tys, evl])
                        · refine Imp.op (f := fun a => .str a) (fun a h => op_toStr (by first | rfl | simp only [evs, tys, evl]) h) (fun a => rfl) fun y466 hy466 => ?_
                          try simp only [evs, tys]
                          refine Imp.op (f := fun a => .str a) (fun a h => op_cat h) (fun a => rfl) fun y468 hy468 => ?_
                          try simp only [evs, tys]
                          refine Imp.call (f := letters_NameE) rfl (fun a h => by first | exact letters_Name_spec h | simpa only [evs, tys, evl] using letters_Name_spec h) (fun a => by first | rfl | simp only [letters_NameE, evk, chks]) fun y470 hy470 => ?_
                          try simp only [letters_NameE, evs, tys]
                          refine Imp.cnd ?_ ?_
                          · refine Imp.call (f := seinelaw1_awakeE) rfl (fun a h => by first | exact seinelaw1_awake_spec h | simpa only [evs, tys, evl] using seinelaw1_awake_spec h) (fun a => by first | rfl | simp only [seinelaw1_awakeE, evk, chks]) fun y472 hy472 => ?_
                            try simp only [seinelaw1_awakeE, evs, tys]
                            exact Imp.some (by first | rfl | simp only [seinelaw1_LettersNamesE, evs, tys, evl])
                          · exact Imp.some (by first | rfl | simp only [seinelaw1_LettersNamesE, evs, tys, evl])
                    · refine Imp.cnd ?_ ?_
                      · refine Imp.call (f := seinelaw1_awakeE) rfl (fun a h => by first | exact seinelaw1_awake_spec h | simpa only [evs, tys, evl] using seinelaw1_awake_spec h) (fun a => by first | rfl | simp only [seinelaw1_awakeE, evk, chks]) fun y474 hy474 => ?_
                        try simp only [seinelaw1_awakeE, evs, tys]
                        exact Imp.some (by first | rfl | simp only [seinelaw1_LettersNamesE, evs, tys, evl])
                      · refine Imp.op (f := fun a => .str a) (fun a h => op_toStr (by first | rfl | simp only [evs, tys, evl]) h) (fun a => rfl) fun y476 hy476 => ?_
                        try simp only [evs, tys]
                        refine Imp.op (f := fun a => .str a) (fun a h => op_cat h) (fun a => rfl) fun y478 hy478 => ?_
                        try simp only [evs, tys]
                        refine Imp.call (f := letters_NameE) rfl (fun a h => by first | exact letters_Name_spec h | simpa only [evs, tys, evl] using letters_Name_spec h) (fun a => by first | rfl | simp only [letters_NameE, evk, chks]) fun y480 hy480 => ?_
                        try simp only [letters_NameE, evs, tys]
                        refine Imp.cnd ?_ ?_
                        · refine Imp.call (f := seinelaw1_awakeE) rfl (fun a h => by first | exact seinelaw1_awake_spec h | simpa only [evs, tys, evl] using seinelaw1_awake_spec h) (fun a => by first | rfl | simp only [seinelaw1_awakeE, evk, chks]) fun y482 hy482 => ?_
                          try simp only [seinelaw1_awakeE, evs, tys]
                          exact Imp.some (by first | rfl | simp only [seinelaw1_LettersNamesE, evs, tys, evl])
                        · exact Imp.some (by first | rfl | simp only [seinelaw1_LettersNamesE, evs, tys, evl])
          · refine Imp.op (f := fun a => .str a) (fun a h => op_cat h) (fun a => rfl) fun y484 hy484 => ?_
            try simp only [evs, tys]
            refine Imp.call (f := letters_NameE) rfl (fun a h => by first | exact letters_Name_spec h | simpa only [evs, tys, evl] using letters_Name_spec h) (fun a => by first | rfl | simp only [letters_NameE, evk, chks]) fun y486 hy486 => ?_
            try simp only [letters_NameE, evs, tys]
            refine Imp.cnd ?_ ?_
            · exact Imp.some (by first | rfl | simp only [seinelaw1_LettersNamesE, evs, tys, evl])
            · refine Imp.cnd ?_ ?_
              · refine Imp.cnd ?_ ?_
                · refine Imp.cnd ?_ ?_
                  · refine Imp.call (f := seinelaw1_awakeE) rfl (fun a h => by first | exact seinelaw1_awake_spec h | simpa only [evs, tys, evl] using seinelaw1_awake_spec h) (fun a => by first | rfl | simp only [seinelaw1_awakeE, evk, chks]) fun y488 hy488 => ?_
                    try simp only [seinelaw1_awakeE, evs, tys]
                    exact Imp.some (by first | rfl | simp only [seinelaw1_LettersNamesE, evs, tys, evl])
                  · refine Imp.op (f := fun a => .str a) (fun a h => op_toStr (by first | rfl | simp only [evs, tys, evl]) h) (fun a => rfl) fun y490 hy490 => ?_
                    try simp only [evs, tys]
                    refine Imp.op (f := fun a => .str a) (fun a h => op_cat h) (fun a => rfl) fun y492 hy492 => ?_
                    try simp only [evs, tys]
                    refine Imp.call (f := letters_NameE) rfl (fun a h => by first | exact letters_Name_spec h | simpa only [evs, tys, evl] using letters_Name_spec h) (fun a => by first | rfl | simp only [letters_NameE, evk, chks]) fun y494 hy494 => ?_
                    try simp only [letters_NameE, evs, tys]
                    refine Imp.cnd ?_ ?_
                    · refine Imp.call (f := seinelaw1_awakeE) rfl (fun a h => by first | exact seinelaw1_awake_spec h | simpa only [evs, tys, evl] using seinelaw1_awake_spec h) (fun a => by first | rfl | simp only [seinelaw1_awakeE, evk, chks]) fun y496 hy496 => ?_
                      try simp only [seinelaw1_awakeE, evs, tys]
                      exact Imp.some (by first | rfl | simp only [seinelaw1_LettersNamesE, evs, tys, evl])
                    · exact Imp.some (by first | rfl | simp only [seinelaw1_LettersNamesE, evs, tys, evl])
                · refine Imp.cnd ?_ ?_
                  · refine Imp.cnd ?_ ?_
                    · refine Imp.cnd ?_ ?_
                      · refine Imp.call (f := seinelaw1_awakeE) rfl (fun a h => by first | exact seinelaw1_awake_spec h | simpa only [evs, tys, evl] using seinelaw1_awake_spec h) (fun a => by first | rfl | simp only [seinelaw1_awakeE, evk, chks]) fun y498 hy498 => ?_
                        try simp only [seinelaw1_awakeE, evs, tys]
                        exact Imp.some (by first | rfl | simp only [seinelaw1_LettersNamesE, evs, tys, evl])
                      · refine Imp.op (f := fun a => .str a) (fun a h => op_toStr (by first | rfl | simp only [evs, tys, evl]) h) (fun a => rfl) fun y500 hy500 => ?_
                        try simp only [evs, tys]
                        refine Imp.op (f := fun a => .str a) (fun a h => op_cat h) (fun a => rfl) fun y502 hy502 => ?_
                        try simp only [evs, tys]
                        refine Imp.call (f := letters_NameE) rfl (fun a h => by first | exact letters_Name_spec h | simpa only [evs, tys, evl] using letters_Name_spec h) (fun a => by first | rfl | simp only [letters_NameE, evk, chks]) fun y504 hy504 => ?_
                        try simp only [letters_NameE, evs, tys]
                        refine Imp.cnd ?_ ?_
                        · refine Imp.call (f := seinelaw1_awakeE) rfl (fun a h => by first | exact seinelaw1_awake_spec h | simpa only [evs, tys, evl] using seinelaw1_awake_spec h) (fun a => by first | rfl | simp only [seinelaw1_awakeE, evk, chks]) fun y506 hy506 => ?_
                          try simp only [seinelaw1_awakeE, evs, tys]
                          exact Imp.some (by first | rfl | simp only [seinelaw1_LettersNamesE, evs, tys, evl])
                        · exact Imp.some (by first | rfl | simp only [seinelaw1_LettersNamesE, evs, tys, evl])
                    · refine Imp.cnd ?_ ?_
                      · refine Imp.cnd ?_ ?_
                        · refine Imp.cnd ?_ ?_
                          · refine Imp.call (f := seinelaw1_awakeE) rfl (fun a h => by first | exact seinelaw1_awake_spec h | simpa only [evs, tys, evl] using seinelaw1_awake_spec h) (fun a => by first | rfl | simp only [seinelaw1_awakeE, evk, chks]) fun y508 hy508 => ?_
                            try simp only [seinelaw1_awakeE, evs, tys]
                            exact Imp.some (by first | rfl | simp only [seinelaw1_LettersNamesE, evs, tys, evl])
                          · refine Imp.op (f := fun a => .str a) (fun a h => op_toStr (by first | rfl | simp only [evs, tys, evl]) h) (fun a => rfl) fun y510 hy510 => ?_
                            try simp only [evs, tys]
                            refine Imp.op (f := fun a => .str a) (fun a h => op_cat h) (fun a => rfl) fun y512 hy512 => ?_
                            try simp only [evs, tys]
                            refine Imp.call (f := letters_NameE) rfl (fun a h => by first | exact letters_Name_spec h | simpa only [evs, tys, evl] using letters_Name_spec h) (fun a => by first | rfl | simp only [letters_NameE, evk, chks]) fun y514 hy514 => ?_
                            try simp only [letters_NameE, evs, tys]
                            refine Imp.cnd ?_ ?_
                            · refine Imp.call (f := seinelaw1_awakeE) rfl (fun a h => by first | exact seinelaw1_awake_spec h | simpa only [evs, tys, evl] using seinelaw1_awake_spec h) (fun a => by first | rfl | simp only [seinelaw1_awakeE, evk, chks]) fun y516 hy516 => ?_
                              try simp only [seinelaw1_awakeE, evs, tys]
                              exact Imp.some (by first | rfl | simp only [seinelaw1_LettersNamesE, evs, tys, evl])
                            · exact Imp.some (by first | rfl | simp only [seinelaw1_LettersNamesE, evs, tys, evl])
                        · refine Imp.cnd ?_ ?_
                          · refine Imp.call (f := seinelaw1_awakeE) rfl (fun a h => by first | exact seinelaw1_awake_spec h | simpa only [evs, tys, evl] using seinelaw1_awake_spec h) (fun a => by first | rfl | simp only [seinelaw1_awakeE, evk, chks]) fun y518 hy518 => ?_
                            try simp only [seinelaw1_awakeE, evs, tys]
                            exact Imp.some (by first | rfl | simp only [seinelaw1_LettersNamesE, evs, tys, evl])
                          · refine Imp.op (f := fun a => .str a) (fun a h => op_toStr (by first | rfl | simp only [evs, tys, evl]) h) (fun a => rfl) fun y520 hy520 => ?_
                            try simp only [evs, tys]
                            refine Imp.op (f := fun a => .str a) (fun a h => op_cat h) (fun a => rfl) fun y522 hy522 => ?_
                            try simp only [evs, tys]
                            refine Imp.call (f := letters_NameE) rfl (fun a h => by first | exact letters_Name_spec h | simpa only [evs, tys, evl] using letters_Name_spec h) (fun a => by first | rfl | simp only [letters_NameE, evk, chks]) fun y524 hy524 => ?_
                            try simp only [letters_NameE, evs, tys]
                            refine Imp.cnd ?_ ?_
                            · refine Imp.call (f := seinelaw1_awakeE) rfl (fun a h => by first | exact seinelaw1_awake_spec h | simpa only [evs, tys, evl] using seinelaw1_awake_spec h) (fun a => by first | rfl | simp only [seinelaw1_awakeE, evk, chks]) fun y526 hy526 => ?_
                              try simp only [seinelaw1_awakeE, evs, tys]
                              exact Imp.some (by first | rfl | simp only [seinelaw1_LettersNamesE, evs, tys, evl])
                            · exact Imp.some (by first | rfl | simp only [seinelaw1_LettersNamesE, evs, tys, evl])
                      · refine Imp.cnd ?_ ?_
                        · refine Imp.call (f := seinelaw1_awakeE) rfl (fun a h => by first | exact seinelaw1_awake_spec h | simpa only [evs, tys, evl] using seinelaw1_awake_spec h) (fun a => by first | rfl | simp only [seinelaw1_awakeE, evk, chks]) fun y528 hy528 => ?_
                          try simp only [seinelaw1_awakeE, evs, tys]
                          exact Imp.some (by first | rfl | simp only [seinelaw1_LettersNamesE, evs, tys, evl])
                        · refine Imp.op (f := fun a => .str a) (fun a h => op_toStr (by first | rfl | simp only [evs, tys, evl]) h) (fun a => rfl) fun y530 hy530 => ?_
                          try simp only [evs, tys]
                          refine Imp.op (f := fun a => .str a) (fun a h => op_cat h) (fun a => rfl) fun y532 hy532 => ?_
                          try simp only [evs, tys]
                          refine Imp.call (f := letters_NameE) rfl (fun a h => by first | exact letters_Name_spec h | simpa only [evs, tys, evl] using letters_Name_spec h) (fun a => by first | rfl | simp only [letters_NameE, evk, chks]) fun y534 hy534 => ?_
                          try simp only [letters_NameE, evs, tys]
                          refine Imp.cnd ?_ ?_
                          · refine Imp.call (f := seinelaw1_awakeE) rfl (fun a h => by first | exact seinelaw1_awake_spec h | simpa only [evs, tys, evl] using seinelaw1_awake_spec h) (fun a => by first | rfl | simp only [seinelaw1_awakeE, evk, chks]) fun y536 hy536 => ?_
                            try simp only [seinelaw1_awakeE, evs, tys]
                            exact Imp.some (by first | rfl | simp only [seinelaw1_LettersNamesE, evs, tys, evl])
                          · exact Imp.some (by first | rfl | simp only [seinelaw1_LettersNamesE, evs, tys, evl])
                  · refine Imp.cnd ?_ ?_
                    · refine Imp.cnd ?_ ?_
                      · refine Imp.cnd ?_ ?_
                        · refine Imp.call (f := seinelaw1_awakeE) rfl (fun a h => by first | exact seinelaw1_awake_spec h | simpa only [evs, tys, evl] using seinelaw1_awake_spec h) (fun a => by first | rfl | simp only [seinelaw1_awakeE, evk, chks]) fun y538 hy538 => ?_
                          try simp only [seinelaw1_awakeE, evs, tys]
                          exact Imp.some (by first | rfl | simp only [seinelaw1_LettersNamesE, evs, tys, evl])
                        · refine Imp.op (f := fun a => .str a) (fun a h => op_toStr (by first | rfl | simp only [evs, tys, evl]) h) (fun a => rfl) fun y540 hy540 => ?_
                          try simp only [evs, tys]
                          refine Imp.op (f := fun a => .str a) (fun a h => op_cat h) (fun a => rfl) fun y542 hy542 => ?_
                          try simp only [evs, tys]
                          refine Imp.call (f := letters_NameE) rfl (fun a h => by first | exact letters_Name_spec h | simpa only [evs, tys, evl] using letters_Name_spec h) (fun a => by first | rfl | simp only [letters_NameE, evk, chks]) fun y544 hy544 => ?_
                          try simp only [letters_NameE, evs, tys]
                          refine Imp.cnd ?_ ?_
                          · refine Imp.call (f := seinelaw1_awakeE) rfl (fun a h => by first | exact seinelaw1_awake_spec h | simpa only [evs, tys, evl] using seinelaw1_awake_spec h) (fun a => by first | rfl | simp only [seinelaw1_awakeE, evk, chks]) fun y546 hy546 => ?_
                            try simp only [seinelaw1_awakeE, evs, tys]
                            exact Imp.some (by first | rfl | simp only [seinelaw1_LettersNamesE, evs, tys, evl])
                          · exact Imp.some (by first | rfl | simp only [seinelaw1_LettersNamesE, evs, tys, evl])
                      · refine Imp.cnd ?_ ?_
                        · refine Imp.call (f := seinelaw1_awakeE) rfl (fun a h => by first | exact seinelaw1_awake_spec h | simpa only [evs, tys, evl] using seinelaw1_awake_spec h) (fun a => by first | rfl | simp only [seinelaw1_awakeE, evk, chks]) fun y548 hy548 => ?_
                          try simp only [seinelaw1_awakeE, evs, tys]
                          exact Imp.some (by first | rfl | simp only [seinelaw1_LettersNamesE, evs, tys, evl])
                        · refine Imp.op (f := fun a => .str a) (fun a h => op_toStr (by first | rfl | simp only [evs, tys, evl]) h) (fun a => rfl) fun y550 hy550 => ?_
                          try simp only [evs, tys]
                          refine Imp.op (f := fun a => .str a) (fun a h => op_cat h) (fun a => rfl) fun y552 hy552 => ?_
                          try simp only [evs, tys]
                          refine Imp.call (f := letters_NameE) rfl (fun a h => by first | exact letters_Name_spec h | simpa only [evs, tys, evl] using letters_Name_spec h) (fun a => by first | rfl | simp only [letters_NameE, evk, chks]) fun y554 hy554 => ?_
                          try simp only [letters_NameE, evs, tys]
                          refine Imp.cnd ?_ ?_
                          · refine Imp.call (f := seinelaw1_awakeE) rfl (fun a h => by first | exact seinelaw1_awake_spec h | simpa only [evs, tys, evl] using seinelaw1_awake_spec h) (fun a => by first | rfl | simp only [seinelaw1_awakeE, evk, chks]) fun y556 hy556 => ?_
                            try simp only [seinelaw1_awakeE, evs, tys]
                            exact Imp.some (by first | rfl | simp only [seinelaw1_LettersNamesE, evs, tys, evl])
                          · exact Imp.some (by first | rfl | simp only [seinelaw1_LettersNamesE, evs, tys, evl])
                    · refine Imp.cnd ?_ ?_
                      · refine Imp.call (f := seinelaw1_awakeE) rfl (fun a h => by first | exact seinelaw1_awake_spec h | simpa only [evs, tys, evl] using seinelaw1_awake_spec h) (fun a => by first | rfl | simp only [seinelaw1_awakeE, evk, chks]) fun y558 hy558 => ?_
                        try simp only [seinelaw1_awakeE, evs, tys]
                        exact Imp.some (by first | rfl | simp only [seinelaw1_LettersNamesE, evs, tys, evl])
                      · refine Imp.op (f := fun a => .str a) (fun a h => op_toStr (by first | rfl | simp only [evs, tys, evl]) h) (fun a => rfl) fun y560 hy560 => ?_
                        try simp only [evs, tys]
                        refine Imp.op (f := fun a => .str a) (fun a h => op_cat h) (fun a => rfl) fun y562 hy562 => ?_
                        try simp only [evs, tys]
                        refine Imp.call (f := letters_NameE) rfl (fun a h => by first | exact letters_Name_spec h | simpa only [evs, tys, evl] using letters_Name_spec h) (fun a => by first | rfl | simp only [letters_NameE, evk, chks]) fun y564 hy564 => ?_
                        try simp only [letters_NameE, evs, tys]
                        refine Imp.cnd ?_ ?_
                        · refine Imp.call (f := seinelaw1_awakeE) rfl (fun a h => by first | exact seinelaw1_awake_spec h | simpa only [evs, tys, evl] using seinelaw1_awake_spec h) (fun a => by first | rfl | simp only [seinelaw1_awakeE, evk, chks]) fun y566 hy566 => ?_
                          try simp only [seinelaw1_awakeE, evs, tys]
                          exact Imp.some (by first | rfl | simp only [seinelaw1_LettersNamesE, evs, tys, evl])
                        · exact Imp.some (by first | rfl | simp only [seinelaw1_LettersNamesE, evs, tys, evl])
              · refine Imp.cnd ?_ ?_
                · refine Imp.cnd ?_ ?_
                  · refine Imp.cnd ?_ ?_
                    · refine Imp.call (f := seinelaw1_awakeE) rfl (fun a h => by first | exact seinelaw1_awake_spec h | simpa only [evs, tys, evl] using seinelaw1_awake_spec h) (fun a => by first | rfl | simp only [seinelaw1_awakeE, evk, chks]) fun y568 hy568 => ?_
                      try simp only [seinelaw1_awakeE, evs, tys]
                      exact Imp.some (by first | rfl | simp only [seinelaw1_LettersNamesE, evs, tys, evl])
                    · refine Imp.op (f := fun a => .str a) (fun a h => op_toStr (by first | rfl | simp only [evs, tys, evl]) h) (fun a => rfl) fun y570 hy570 => ?_
                      try simp only [evs, tys]
                      refine Imp.op (f := fun a => .str a) (fun a h => op_cat h) (fun a => rfl) fun y572 hy572 => ?_
                      try simp only [evs, tys]
                      refine Imp.call (f := letters_NameE) rfl (fun a h => by first | exact letters_Name_spec h | simpa only [evs, tys, evl] using letters_Name_spec h) (fun a => by first | rfl | simp only [letters_NameE, evk, chks]) fun y574 hy574 => ?_
                      try simp only [letters_NameE, evs, tys]
                      refine Imp.cnd ?_ ?_
                      · refine Imp.call (f := seinelaw1_awakeE) rfl (fun a h => by first | exact seinelaw1_awake_spec h | simpa only [evs, tys, evl] using seinelaw1_awake_spec h) (fun a => by first | rfl | simp only [seinelaw1_awakeE, evk, chks]) fun y576 hy576 => ?_
                        try simp only [seinelaw1_awakeE, evs, tys]
                        exact Imp.some (by first | rfl | simp only [seinelaw1_LettersNamesE, evs, tys, evl])
                      · exact Imp.some (by first | rfl | simp only [seinelaw1_LettersNamesE, evs, tys, evl])
                  · refine Imp.cnd ?_ ?_
                    · refine Imp.cnd ?_ ?_
                      · refine Imp.cnd ?_ ?_
                        · refine Imp.call (f := seinelaw1_awakeE) rfl (fun a h => by first | exact seinelaw1_awake_spec h | simpa only [evs, tys, evl] using seinelaw1_awake_spec h) (fun a => by first | rfl | simp only [seinelaw1_awakeE, evk, chks]) fun y578 hy578 => ?_
                          try simp only [seinelaw1_awakeE, evs, tys]
                          exact Imp.some (by first | rfl | simp only [seinelaw1_LettersNamesE, evs, tys, evl])
                        · refine Imp.op (f := fun a => .str a) (fun a h => op_toStr (by first | rfl | simp only [evs, tys, evl]) h) (fun a => rfl) fun y580 hy580 => ?_
                          try simp only [evs, tys]
                          refine Imp.op (f := fun a => .str a) (fun a h => op_cat h) (fun a => rfl) fun y582 hy582 => ?_
                          try simp only [evs, tys]
                          refine Imp.call (f := letters_NameE) rfl (fun a h => by first | exact letters_Name_spec h | simpa only [evs, tys, evl] using letters_Name_spec h) (fun a => by first | rfl | simp only [letters_NameE, evk, chks]) fun y584 hy584 => ?_
                          try simp only [letters_NameE, evs, tys]
                          refine Imp.cnd ?_ ?_
                          · refine Imp.call (f := seinelaw1_awakeE) rfl (fun a h => by first | exact seinelaw1_awake_spec h | simpa only [evs, tys, evl] using seinelaw1_awake_spec h) (fun a => by first | rfl | simp only [seinelaw1_awakeE, evk, chks]) fun y586 hy586 => ?_
                            try simp only [seinelaw1_awakeE, evs, tys]
                            exact Imp.some (by first | rfl | simp only [seinelaw1_LettersNamesE, evs, tys, evl])
                          · exact Imp.some (by first | rfl | simp only [seinelaw1_LettersNamesE, evs, tys, evl])
                      · refine Imp.cnd ?_ ?_
                        · refine Imp.call (f := seinelaw1_awakeE) rfl (fun a h => by first | exact seinelaw1_awake_spec h | simpa only [evs, tys, evl] using seinelaw1_awake_spec h) (fun a => by first | rfl | simp only [seinelaw1_awakeE, evk, chks]) fun y588 hy588 => ?_
                          try simp only [seinelaw1_awakeE, evs, tys]
                          exact Imp.some (by first | rfl | simp only [seinelaw1_LettersNamesE, evs, tys, evl])
                        · refine Imp.op (f := fun a => .str a) (fun a h => op_toStr (by first | rfl | simp only [evs, tys, evl]) h) (fun a => rfl) fun y590 hy590 => ?_
                          try simp only [evs, tys]
                          refine Imp.op (f := fun a => .str a) (fun a h => op_cat h) (fun a => rfl) fun y592 hy592 => ?_
                          try simp only [evs, tys]
                          refine Imp.call (f := letters_NameE) rfl (fun a h => by first | exact letters_Name_spec h | simpa only [evs, tys, evl] using letters_Name_spec h) (fun a => by first | rfl | simp only [letters_NameE, evk, chks]) fun y594 hy594 => ?_
                          try simp only [letters_NameE, evs, tys]
                          refine Imp.cnd ?_ ?_
                          · refine Imp.call (f := seinelaw1_awakeE) rfl (fun a h => by first | exact seinelaw1_awake_spec h | simpa only [evs, tys, evl] using seinelaw1_awake_spec h) (fun a => by first | rfl | simp only [seinelaw1_awakeE, evk, chks]) fun y596 hy596 => ?_
                            try simp only [seinelaw1_awakeE, evs, tys]
                            exact Imp.some (by first | rfl | simp only [seinelaw1_LettersNamesE, evs, tys, evl])
                          · exact Imp.some (by first | rfl | simp only [seinelaw1_LettersNamesE, evs, tys, evl])
                    · refine Imp.cnd ?_ ?_
                      · refine Imp.call (f := seinelaw1_awakeE) rfl (fun a h => by first | exact seinelaw1_awake_spec h | simpa only [evs, tys, evl] using seinelaw1_awake_spec h) (fun a => by first | rfl | simp only [seinelaw1_awakeE, evk, chks]) fun y598 hy598 => ?_
                        try simp only [seinelaw1_awakeE, evs, tys]
                        exact Imp.some (by first | rfl | simp only [seinelaw1_LettersNamesE, evs, tys, evl])
                      · refine Imp.op (f := fun a => .str a) (fun a h => op_toStr (by first | rfl | simp only [evs, tys, evl]) h) (fun a => rfl) fun y600 hy600 => ?_
                        try simp only [evs, tys]
                        refine Imp.op (f := fun a => .str a) (fun a h => op_cat h) (fun a => rfl) fun y602 hy602 => ?_
                        try simp only [evs, tys]
                        refine Imp.call (f := letters_NameE) rfl (fun a h => by first | exact letters_Name_spec h | simpa only [evs, tys, evl] using letters_Name_spec h) (fun a => by first | rfl | simp only [letters_NameE, evk, chks]) fun y604 hy604 => ?_
                        try simp only [letters_NameE, evs, tys]
                        refine Imp.cnd ?_ ?_
                        · refine Imp.call (f := seinelaw1_awakeE) rfl (fun a h => by first | exact seinelaw1_awake_spec h | simpa only [evs, tys, evl] using seinelaw1_awake_spec h) (fun a => by first | rfl | simp only [seinelaw1_awakeE, evk, chks]) fun y606 hy606 => ?_
                          try simp only [seinelaw1_awakeE, evs, tys]
                          exact Imp.some (by first | rfl | simp only [seinelaw1_LettersNamesE, evs, tys, evl])
                        · exact Imp.some (by first | rfl | simp only [seinelaw1_LettersNamesE, evs, tys, evl])
                · refine Imp.cnd ?_ ?_
                  · refine Imp.cnd ?_ ?_
                    · refine Imp.cnd ?_ ?_
                      · refine Imp.call (f := seinelaw1_awakeE) rfl (fun a h => by first | exact seinelaw1_awake_spec h | simpa only [evs, tys, evl] using seinelaw1_awake_spec h) (fun a => by first | rfl | simp only [seinelaw1_awakeE, evk, chks]) fun y608 hy608 => ?_
                        try simp only [seinelaw1_awakeE, evs, tys]
                        exact Imp.some (by first | rfl | simp only [seinelaw1_LettersNamesE, evs, tys, evl])
                      · refine Imp.op (f := fun a => .str a) (fun a h => op_toStr (by first | rfl | simp only [evs, tys, evl]) h) (fun a => rfl) fun y610 hy610 => ?_
                        try simp only [evs, tys]
                        refine Imp.op (f := fun a => .str a) (fun a h => op_cat h) (fun a => rfl) fun y612 hy612 => ?_
                        try simp only [evs, tys]
                        refine Imp.call (f := letters_NameE) rfl (fun a h => by first | exact letters_Name_spec h | simpa only [evs, tys, evl] using letters_Name_spec h) (fun a => by first | rfl | simp only [letters_NameE, evk, chks]) fun y614 hy614 => ?_
                        try simp only [letters_NameE, evs, tys]
                        refine Imp.cnd ?_ ?_
                        · refine Imp.call (f := seinelaw1_awakeE) rfl (fun a h => by first | exact seinelaw1_awake_spec h | simpa only [evs, tys, evl] using seinelaw1_awake_spec h) (fun a => by first | rfl | simp only [seinelaw1_awakeE, evk, chks]) fun y616 hy616 => ?_
                          try simp only [seinelaw1_awakeE, evs, tys]
                          exact Imp.some (by first | rfl | simp only [seinelaw1_LettersNamesE, evs, tys, evl])
                        · exact Imp.some (by first | rfl | simp only [seinelaw1_LettersNamesE, evs, tys, evl])
                    · refine Imp.cnd ?_ ?_
                      · refine Imp.call (f := seinelaw1_awakeE) rfl (fun a h => by first | exact seinelaw1_awake_spec h | simpa only [evs, tys, evl] using seinelaw1_awake_spec h) (fun a => by first | rfl | simp only [seinelaw1_awakeE, evk, chks]) fun y618 hy618 => ?_
                        try simp only [seinelaw1_awakeE, evs, tys]
                        exact Imp.some (by first | rfl | simp only [seinelaw1_LettersNamesE, evs, tys, evl])
                      · refine Imp.op (f := fun a => .str a) (fun a h => op_toStr (by first | rfl | simp only [evs, tys, evl]) h) (fun a => rfl) fun y620 hy620 => ?_
                        try simp only [evs, tys]
                        refine Imp.op (f := fun a => .str a) (fun a h => op_cat h) (fun a => rfl) fun y622 hy622 => ?_
                        try simp only [evs, tys]
                        refine Imp.call (f := letters_NameE) rfl (fun a h => by first | exact letters_Name_spec h | simpa only [evs, tys, evl] using letters_Name_spec h) (fun a => by first | rfl | simp only [letters_NameE, evk, chks]) fun y624 hy624 => ?_
                        try simp only [letters_NameE, evs, tys]
                        refine Imp.cnd ?_ ?_
                        · refine Imp.call (f := seinelaw1_awakeE) rfl (fun a h => by first | exact seinelaw1_awake_spec h | simpa only [evs, tys, evl] using seinelaw1_awake_spec h) (fun a => by first | rfl | simp only [seinelaw1_awakeE, evk, chks]) fun y626 hy626 => ?_
                          try simp only [seinelaw1_awakeE, evs, tys]
                          exact Imp.some (by first | rfl | simp only [seinelaw1_LettersNamesE, evs, tys, evl])
                        · exact Imp.some (by first | rfl | simp only [seinelaw1_LettersNamesE, evs, tys, evl])
                  · refine Imp.cnd ?_ ?_
                    · refine Imp.call (f := seinelaw1_awakeE) rfl (fun a h => by first | exact seinelaw1_awake_spec h | simpa only [evs, tys, evl] using seinelaw1_awake_spec h) (fun a => by first | rfl | simp only [seinelaw1_awakeE, evk, chks]) fun y628 hy628 => ?_
                      try simp only [seinelaw1_awakeE, evs, tys]
                      exact Imp.some (by first | rfl | simp only [seinelaw1_LettersNamesE, evs, tys, evl])
                    · refine Imp.op (f := fun a => .str a) (fun a h => op_toStr (by first | rfl | simp only [evs, tys, evl]) h) (fun a => rfl) fun y630 hy630 => ?_
                      try simp only [evs, tys]
                      refine Imp.op (f := fun a => .str a) (fun a h => op_cat h) (fun a => rfl) fun y632 hy632 => ?_
                      try simp only [evs, tys]
                      refine Imp.call (f := letters_NameE) rfl (fun a h => by first | exact letters_Name_spec h | simpa only [evs, tys, evl] using letters_Name_spec h) (fun a => by first | rfl | simp only [letters_NameE, evk, chks]) fun y634 hy634 => ?_
                      try simp only [letters_NameE, evs, tys]
                      refine Imp.cnd ?_ ?_
                      · refine Imp.call (f := seinelaw1_awakeE) rfl (fun a h => by first | exact seinelaw1_awake_spec h | simpa only [evs, tys, evl] using seinelaw1_awake_spec h) (fun a => by first | rfl | simp only [seinelaw1_awakeE, evk, chks]) fun y636 hy636 => ?_
                        try simp only [seinelaw1_awakeE, evs, tys]
                        exact Imp.some (by first | rfl | simp only [seinelaw1_LettersNamesE, evs, tys, evl])
                      · exact Imp.some (by first | rfl | simp only [seinelaw1_LettersNamesE, evs, tys, evl])
      · refine Imp.cnd ?_ ?_
        · refine Imp.op (f := fun a => .str a) (fun a h => op_cat h) (fun a => rfl) fun y638 hy638 => ?_
          try simp only [evs, tys]
          refine Imp.call (f := letters_NameE) rfl (fun a h => by first | exact letters_Name_spec h | simpa only [evs, tys, evl] using letters_Name_spec h) (fun a => by first | rfl | simp only [letters_NameE, evk, chks]) fun y640 hy640 => ?_
          try simp only [letters_NameE, evs, tys]
          refine Imp.cnd ?_ ?_
          · exact Imp.some (by first | rfl | simp only [seinelaw1_LettersNamesE, evs, tys, evl])
          · refine Imp.op (f := fun a => .str a) (fun a h => op_cat h) (fun a => rfl) fun y642 hy642 => ?_
            try simp only [evs, tys]
            refine Imp.call (f := letters_NameE) rfl (fun a h => by first | exact letters_Name_spec h | simpa only [evs, tys, evl] using letters_Name_spec h) (fun a => by first | rfl | simp only [letters_NameE, evk, chks]) fun y644 hy644 => ?_
            try simp only [letters_NameE, evs, tys]
            refine Imp.cnd ?_ ?_
            · exact Imp.some (by first | rfl | simp only [seinelaw1_LettersNamesE, evs, tys, evl])
            · refine Imp.cnd ?_ ?_
              · refine Imp.cnd ?_ ?_
                · refine Imp.cnd ?_ ?_
                  · refine Imp.call (f := seinelaw1_awakeE) rfl (fun a h => by first | exact seinelaw1_awake_spec h | simpa only [evs, tys, evl] using seinelaw1_awake_spec h) (fun a => by first | rfl | simp only [seinelaw1_awakeE, evk, chks]) fun y646 hy646 => ?_
                    try simp only [seinelaw1_awakeE, evs, tys]
                    exact Imp.some (by first | rfl | simp only [seinelaw1_LettersNamesE, evs, tys, evl])
                  · refine Imp.op (f := fun a => .str a) (fun a h => op_toStr (by first | rfl | simp only [evs, tys, evl]) h) (fun a => rfl) fun y648 hy648 => ?_
                    try simp only [evs, tys]
                    refine Imp.op (f := fun a => .str a) (fun a h => op_cat h) (fun a => rfl) fun y650 hy650 => ?_
                    try simp only [evs, tys]
                    refine Imp.call (f := letters_NameE) rfl (fun a h => by first | exact letters_Name_spec h | simpa only [evs, tys, evl] using letters_Name_spec h) (fun a => by first | rfl | simp only [letters_NameE, evk, chks]) fun y652 hy652 => ?_
                    try simp only [letters_NameE, evs, tys]
                    refine Imp.cnd ?_ ?_
                    · refine Imp.call (f := seinelaw1_awakeE) rfl (fun a h => by first | exact seinelaw1_awake_spec h | simpa only [evs, tys, evl] using seinelaw1_awake_spec h) (fun a => by first | rfl | simp only [seinelaw1_awakeE, evk, chks]) fun y654 hy654 => ?_
                      try simp only [seinelaw1_awakeE, evs, tys]
                      exact Imp.some (by first | rfl | simp only [seinelaw1_LettersNamesE, evs, tys, evl])
                    · exact Imp.some (by first | rfl | simp only [seinelaw1_LettersNamesE, evs, tys, evl])
                · refine Imp.cnd ?_ ?_
                  · refine Imp.cnd ?_ ?_
                    · refine Imp.cnd ?_ ?_
                      · refine Imp.call (f := seinelaw1_awakeE) rfl (fun a h => by first | exact seinelaw1_awake_spec h | simpa only [evs, tys, evl] using seinelaw1_awake_spec h) (fun a => by first | rfl | simp only [seinelaw1_awakeE, evk, chks]) fun y656 hy656 => ?_
                        try simp only [seinelaw1_awakeE, evs, tys]
                        exact Imp.some (by first | rfl | simp only [seinelaw1_LettersNamesE, evs, tys, evl])
                      · refine Imp.op (f := fun a => .str a) (fun a h => op_toStr (by first | rfl | simp only [evs, tys, evl]) h) (fun a => rfl) fun y658 hy658 => ?_
                        try simp only [evs, tys]
                        refine Imp.op (f := fun a => .str a) (fun a h => op_cat h) (fun a => rfl) fun y660 hy660 => ?_
                        try simp only [evs, tys]
                        refine Imp.call (f := letters_NameE) rfl (fun a h => by first | exact letters_Name_spec h | simpa only [evs, tys, evl] using letters_Name_spec h) (fun a => by first | rfl | simp only [letters_NameE, evk, chks]) fun y662 hy662 => ?_
                        try simp only [letters_NameE, evs, tys]
                        refine Imp.cnd ?_ ?_
                        · refine Imp.call (f := seinelaw1_awakeE) rfl (fun a h => by first | exact seinelaw1_awake_spec h | simpa only [evs, tys, evl] using seinelaw1_awake_spec h) (fun a => by first | rfl | simp only [seinelaw1_awakeE, evk, chks]) fun y664 hy664 => ?_
                          try simp only [seinelaw1_awakeE, evs, tys]
                          exact Imp.some (by first | rfl | simp only [seinelaw1_LettersNamesE, evs, tys, evl])
                        · exact Imp.some (by first | rfl | simp only [seinelaw1_LettersNamesE, evs, tys, evl])
                    · refine Imp.cnd ?_ ?_
                      · refine Imp.cnd ?_ ?_
                        · refine Imp.cnd ?_ ?_
                          · refine Imp.call (f := seinelaw1_awakeE) rfl (fun a h => by first | exact seinelaw1_awake_spec h | simpa only [evs, tys, evl] using seinelaw1_awake_spec h) (fun a => by first | rfl | simp only [seinelaw1_awakeE, evk, chks]) fun y666 hy666 => ?_
                            try simp only [seinelaw1_awakeE, evs, tys]
                            exact Imp.some (by first | rfl | simp only [seinelaw1_LettersNamesE, evs, tys, evl])
                          · refine Imp.op (f := fun a => .str a) (fun a h => op_toStr (by first | rfl | simp only [evs, tys, evl]) h) (fun a => rfl) fun y668 hy668 => ?_
                            try simp only [evs, tys]
                            refine Imp.op (f := fun a => .str a) (fun a h => op_cat h) (fun a => rfl) fun y670 hy670 => ?_
                            try simp only [evs, tys]
                            refine Imp.call (f := letters_NameE) rfl (fun a h => by first | exact letters_Name_spec h | simpa only [evs, tys, evl] using letters_Name_spec h) (fun a => by first | rfl | simp only [letters_NameE, evk, chks]) fun y672 hy672 => ?_
                            try simp only [letters_NameE, evs, tys]
                            refine Imp.cnd ?_ ?_
                            · refine Imp.call (f := seinelaw1_awakeE) rfl (fun a h => by first | exact seinelaw1_awake_spec h | simpa only [evs, tys, evl] using seinelaw1_awake_spec h) (fun a => by first | rfl | simp only [seinelaw1_awakeE, evk, chks]) fun y674 hy674 => ?_
                              try simp only [seinelaw1_awakeE, evs, tys]
                              exact Imp.some (by first | rfl | simp only [seinelaw1_LettersNamesE, evs, tys, evl])
                            · exact Imp.some (by first | rfl | simp only [seinelaw1_LettersNamesE, evs, tys, evl])
                        · refine Imp.cnd ?_ ?_
                          · refine Imp.call (f := seinelaw1_awakeE) rfl (fun a h => by first | exact seinelaw1_awake_spec h | simpa only [evs, tys, evl] using seinelaw1_awake_spec h) (fun a => by first | rfl | simp only [seinelaw1_awakeE, evk, chks]) fun y676 hy676 => ?_
                            try simp only [seinelaw1_awakeE, evs, tys]
                            exact Imp.some (by first | rfl | simp only [seinelaw1_LettersNamesE, evs, tys, evl])
                          · refine Imp.op (f := fun a => .str a) (fun a h => op_toStr (by first | rfl | simp only [evs, tys, evl]) h) (fun a => rfl) fun y678 hy678 => ?_
                            try simp only [evs, tys]
                            refine Imp.op (f := fun a => .str a) (fun a h => op_cat h) (fun a => rfl) fun y680 hy680 => ?_
                            try simp only [evs, tys]
                            refine Imp.call (f := letters_NameE) rfl (fun a h => by first | exact letters_Name_spec h | simpa only [evs, tys, evl] using letters_Name_spec h) (fun a => by first | rfl | simp only [letters_NameE, evk, chks]) fun y682 hy682 => ?_
                            try simp only [letters_NameE, evs, tys]
                            refine Imp.cnd ?_ ?_
                            · refine Imp.call (f := seinelaw1_awakeE) rfl (fun a h => by first | exact seinelaw1_awake_spec h | simpa only [evs, tys, evl] using seinelaw1_awake_spec h) (fun a => by first | rfl | simp only [seinelaw1_awakeE, evk, chks]) fun y684 hy684 => ?_
                              try simp only [seinelaw1_awakeE, evs, tys]
                              exact Imp.some (by first | rfl | simp only [seinelaw1_LettersNamesE, evs, tys, evl])
                            · exact Imp.some (by first | rfl | simp only [seinelaw1_LettersNamesE, evs, tys, evl])
                      · refine Imp.cnd ?_ ?_
                        · refine Imp.call (f := seinelaw1_awakeE) rfl (fun a h => by first | exact seinelaw1_awake_spec h | simpa only [evs, tys, evl] using seinelaw1_awake_spec h) (fun a => by first | rfl | simp only [seinelaw1_awakeE, evk, chks]) fun y686 hy686 => ?_
                          try simp only [seinelaw1_awakeE, evs, tys]
                          exact Imp.some (by first | rfl | simp only [seinelaw1_LettersNamesE, evs, tys, evl])
                        · refine Imp.op (f := fun a => .str a) (fun a h => op_toStr (by first | rfl | simp only [evs, tys, evl]) h) (fun a => rfl) fun y688 hy688 => ?_
                          try simp only [evs, tys]
                          refine Imp.op (f := fun a => .str a) (fun a h => op_cat h) (fun a => rfl) fun y690 hy690 => ?_
                          try simp only [evs, tys]
                          refine Imp.call (f := letters_NameE) rfl (fun a h => by first | exact letters_Name_spec h | simpa only [evs, tys, evl] using letters_Name_spec h) (fun a => by first | rfl | simp only [letters_NameE, evk, chks]) fun y692 hy692 => ?_
                          try simp only [letters_NameE, evs, tys]
                          refine Imp.cnd ?_ ?_
                          · refine Imp.call (f := seinelaw1_awakeE) rfl (fun a h => by first | exact seinelaw1_awake_spec h | simpa only [evs, tys, evl] using seinelaw1_awake_spec h) (fun a => by first | rfl | simp only [seinelaw1_awakeE, evk, chks]) fun y694 hy694 => ?_
                            try simp only [seinelaw1_awakeE, evs, tys]
                            exact Imp.some (by first | rfl | simp only [seinelaw1_LettersNamesE, evs, tys, evl])
                          · exact Imp.some (by first | rfl | simp only [seinelaw1_LettersNamesE, evs, tys, evl])
                  · refine Imp.cnd ?_ ?_
                    · refine Imp.cnd ?_ ?_
                      · refine Imp.cnd ?_ ?_
                        · refine Imp.call (f := seinelaw1_awakeE) rfl (fun a h => by first | exact seinelaw1_awake_spec h | simpa only [evs, tys, evl] using seinelaw1_awake_spec h) (fun a => by first | rfl | simp only [seinelaw1_awakeE, evk, chks]) fun y696 hy696 => ?_
                          try simp only [seinelaw1_awakeE, evs, tys]
                          exact Imp.some (by first | rfl | simp only [seinelaw1_LettersNamesE, evs, tys, evl])
                        · refine Imp.op (f := fun a => .str a) (fun a h => op_toStr (by first | rfl | simp only [evs, tys, evl]) h) (fun a => rfl) fun y698 hy698 => ?_
                          try simp only [evs, tys]
                          refine Imp.op (f := fun a => .str a) (fun a h => op_cat h) (fun a => rfl) fun y700 hy700 => ?_
                          try simp only [evs, tys]
                          refine Imp.call (f := letters_NameE) rfl (fun a h => by first | exact letters_Name_spec h | simpa only [evs, tys, evl] using letters_Name_spec h) (fun a => by first | rfl | simp only [letters_NameE, evk, chks]) fun y702 hy702 => ?_
                          try simp only [letters_NameE, evs, tys]
                          refine Imp.cnd ?_ ?_
                          · refine Imp.call (f := seinelaw1_awakeE) rfl (fun a h => by first | exact seinelaw1_awake_spec h | simpa only [evs, tys, evl] using seinelaw1_awake_spec h) (fun a => by first | rfl | simp only [seinelaw1_awakeE, evk, chks]) fun y704 hy704 => ?_
                            try simp only [seinelaw1_awakeE, evs, tys]
                            exact Imp.some (by first | rfl | simp only [seinelaw1_LettersNamesE, evs, tys, evl])
                          · exact Imp.some (by first | rfl | simp only [seinelaw1_LettersNamesE, evs, tys, evl])
                      · refine Imp.cnd ?_ ?_
                        · refine Imp.call (f := seinelaw1_awakeE) rfl (fun a h => by first | exact seinelaw1_awake_spec h | simpa only [evs, tys, evl] using seinelaw1_awake_spec h) (fun a => by first | rfl | simp only [seinelaw1_awakeE, evk, chks]) fun y706 hy706 => ?_
                          try simp only [seinelaw1_awakeE, evs, tys]
                          exact Imp.some (by first | rfl | simp only [seinelaw1_LettersNamesE, evs, tys, evl])
                        · refine Imp.op (f := fun a => .str a) (fun a h => op_toStr (by first | rfl | simp only [evs, tys, evl]) h) (fun a => rfl) fun y708 hy708 => ?_
                          try simp only [evs, tys]
                          refine Imp.op (f := fun a => .str a) (fun a h => op_cat h) (fun a => rfl) fun y710 hy710 => ?_
                          try simp only [evs, tys]
                          refine Imp.call (f := letters_NameE) rfl (fun a h => by first | exact letters_Name_spec h | simpa only [evs, tys, evl] using letters_Name_spec h) (fun a => by first | rfl | simp only [letters_NameE, evk, chks]) fun y712 hy712 => ?_
                          try simp only [letters_NameE, evs, tys]
                          refine Imp.cnd ?_ ?_
                          · refine Imp.call (f := seinelaw1_awakeE) rfl (fun a h => by first | exact seinelaw1_awake_spec h | simpa only [evs, tys, evl] using seinelaw1_awake_spec h) (fun a => by first | rfl | simp only [seinelaw1_awakeE, evk, chks]) fun y714 hy714 => ?_
                            try simp only [seinelaw1_awakeE, evs, tys]
                            exact Imp.some (by first | rfl | simp only [seinelaw1_LettersNamesE, evs, tys, evl])
                          · exact Imp.some (by first | rfl | simp only [seinelaw1_LettersNamesE, evs, tys, evl])
                    · refine Imp.cnd ?_ ?_
                      · refine Imp.call (f := seinelaw1_awakeE) rfl (fun a h => by first | exact seinelaw1_awake_spec h | simpa only [evs, tys, evl] using seinelaw1_awake_spec h) (fun a => by first | rfl | simp only [seinelaw1_awakeE, evk, chks]) fun y716 hy716 => ?_
                        try simp only [seinelaw1_awakeE, evs, tys]
                        exact Imp.some (by first | rfl | simp only [seinelaw1_LettersNamesE, evs, tys, evl])
                      · refine Imp.op (f := fun a => .str a) (fun a h => op_toStr (by first | rfl | simp only [evs, tys, evl]) h) (fun a => rfl) fun y718 hy718 => ?_
                        try simp only [evs, tys]
                        refine Imp.op (f := fun a => .str a) (fun a h => op_cat h) (fun a => rfl) fun y720 hy720 => ?_
                        try simp only [evs, tys]
                        refine Imp.call (f := letters_NameE) rfl (fun a h => by first | exact letters_Name_spec h | simpa only [evs, tys, evl] using letters_Name_spec h) (fun a => by first | rfl | simp only [letters_NameE, evk, chks]) fun y722 hy722 => ?_
                        try simp only [letters_NameE, evs, tys]
                        refine Imp.cnd ?_ ?_
                        · refine Imp.call (f := seinelaw1_awakeE) rfl (fun a h => by first | exact seinelaw1_awake_spec h | simpa only [evs, tys, evl] using seinelaw1_awake_spec h) (fun a => by first | rfl | simp only [seinelaw1_awakeE, evk, chks]) fun y724 hy724 => ?_
                          try simp only [seinelaw1_awakeE, evs, tys]
                          exact Imp.some (by first | rfl | simp only [seinelaw1_LettersNamesE, evs, tys, evl])
                        · exact Imp.some (by first | rfl | simp only [seinelaw1_LettersNamesE, evs, tys, evl])
              · refine Imp.cnd ?_ ?_
                · refine Imp.cnd ?_ ?_
                  · refine Imp.cnd ?_ ?_
                    · refine Imp.call (f := seinelaw1_awakeE) rfl (fun a h => by first | exact seinelaw1_awake_spec h | simpa only [evs, tys, evl] using seinelaw1_awake_spec h) (fun a => by first | rfl | simp only [seinelaw1_awakeE, evk, chks]) fun y726 hy726 => ?_
                      try simp only [seinelaw1_awakeE, evs, tys]
                      exact Imp.some (by first | rfl | simp only [seinelaw1_LettersNamesE, evs, tys, evl])
                    · refine Imp.op (f := fun a => .str a) (fun a h => op_toStr (by first | rfl | simp only [evs, tys, evl]) h) (fun a => rfl) fun y728 hy728 => ?_
                      try simp only [evs, tys]
                      refine Imp.op (f := fun a => .str a) (fun a h => op_cat h) (fun a => rfl) fun y730 hy730 => ?_
                      try simp only [evs, tys]
                      refine Imp.call (f := letters_NameE) rfl (fun a h => by first | exact letters_Name_spec h | simpa only [evs, tys, evl] using letters_Name_spec h) (fun a => by first | rfl | simp only [letters_NameE, evk, chks]) fun y732 hy732 => ?_
                      try simp only [letters_NameE, evs, tys]
                      refine Imp.cnd ?_ ?_
                      · refine Imp.call (f := seinelaw1_awakeE) rfl (fun a h => by first | exact seinelaw1_awake_spec h | simpa only [evs, tys, evl] using seinelaw1_awake_spec h) (fun a => by first | rfl | simp only [seinelaw1_awakeE, evk, chks]) fun y734 hy734 => ?_
                        try simp only [seinelaw1_awakeE, evs, tys]
                        exact Imp.some (by first | rfl | simp only [seinelaw1_LettersNamesE, evs, tys, evl])
                      · exact Imp.some (by first | rfl | simp only [seinelaw1_LettersNamesE, evs, tys, evl])
                  · refine Imp.cnd ?_ ?_
                    · refine Imp.cnd ?_ ?_
                      · refine Imp.cnd ?_ ?_
                        · refine Imp.call (f := seinelaw1_awakeE) rfl (fun a h => by first | exact seinelaw1_awake_spec h | simpa only [evs, tys, evl] using seinelaw1_awake_spec h) (fun a => by first | rfl | simp only [seinelaw1_awakeE, evk, chks]) fun y736 hy736 => ?_
                          try simp only [seinelaw1_awakeE, evs, tys]
                          exact Imp.some (by first | rfl | simp only [seinelaw1_LettersNamesE, evs, tys, evl])
                        · refine Imp.op (f := fun a => .str a) (fun a h => op_toStr (by first | rfl | simp only [evs, tys, evl]) h) (fun a => rfl) fun y738 hy738 => ?_
                          try simp only [evs, tys]
                          refine Imp.op (f := fun a => .str a) (fun a h => op_cat h) (fun a => rfl) fun y740 hy740 => ?_
                          try simp only [evs, tys]
                          refine Imp.call (f := letters_NameE) rfl (fun a h => by first | exact letters_Name_spec h | simpa only [evs, tys, evl] using letters_Name_spec h) (fun a => by first | rfl | simp only [letters_NameE, evk, chks]) fun y742 hy742 => ?_
                          try simp only [letters_NameE, evs, tys]
                          refine Imp.cnd ?_ ?_
                          · refine Imp.call (f := seinelaw1_awakeE) rfl (fun a h => by first | exact seinelaw1_awake_spec h | simpa only [evs, tys, evl] using seinelaw1_awake_spec h) (fun a => by first | rfl | simp only [seinelaw1_awakeE, evk, chks]) fun y744 hy744 => ?_
                            try simp only [seinelaw1_awakeE, evs, tys]
                            exact Imp.some (by first | rfl | simp only [seinelaw1_LettersNamesE, evs, tys, evl])
                          · exact Imp.some (by first | rfl | simp only [seinelaw1_LettersNamesE, evs, tys, evl])
                      · refine Imp.cnd ?_ ?_
                        · refine Imp.call (f := seinelaw1_awakeE) rfl (fun a h => by first | exact seinelaw1_awake_spec h | simpa only [evs, tys, evl] using seinelaw1_awake_spec h) (fun a => by first | rfl | simp only [seinelaw1_awakeE, evk, chks]) fun y746 hy746 => ?_
                          try simp only [seinelaw1_awakeE, evs, tys]
                          exact Imp.some (by first | rfl | simp only [seinelaw1_LettersNamesE, evs, tys, evl])
                        · refine Imp.op (f := fun a => .str a) (fun a h => op_toStr (by first | rfl | simp only [evs, tys, evl]) h) (fun a => rfl) fun y748 hy748 => ?_
                          try simp only [evs, tys]
                          refine Imp.op (f := fun a => .str a) (fun a h => op_cat h) (fun a => rfl) fun y750 hy750 => ?_
                          try simp only [evs, tys]
                          refine Imp.call (f := letters_NameE) rfl (fun a h => by first | exact letters_Name_spec h | simpa only [evs, tys, evl] using letters_Name_spec h) (fun a => by first | rfl | simp only [letters_NameE, evk, chks]) fun y752 hy752 => ?_
                          try simp only [letters_NameE, evs, tys]
                          refine Imp.cnd ?_ ?_
                          · refine Imp.call (f := seinelaw1_awakeE) rfl (fun a h => by first | exact seinelaw1_awake_spec h | simpa only [evs, tys, evl] using seinelaw1_awake_spec h) (fun a => by first | rfl | simp only [seinelaw1_awakeE, evk, chks]) fun y754 hy754 => ?_
                            try simp only [seinelaw1_awakeE, evs, tys]
                            exact Imp.some (by first | rfl | simp only [seinelaw1_LettersNamesE, evs, tys, evl])
                          · exact Imp.some (by first | rfl | simp only [seinelaw1_LettersNamesE, evs, tys, evl])
                    · refine Imp.cnd ?_ ?_
                      · refine Imp.call (f := seinelaw1_awakeE) rfl (fun a h => by first | exact seinelaw1_awake_spec h | simpa only [evs, tys, evl] using seinelaw1_awake_spec h) (fun a => by first | rfl | simp only [seinelaw1_awakeE, evk, chks]) fun y756 hy756 => ?_
                        try simp only [seinelaw1_awakeE, evs, tys]
                        exact Imp.some (by first | rfl | simp only [seinelaw1_LettersNamesE, evs, tys, evl])
                      · refine Imp.op (f := fun a => .str a) (fun a h => op_toStr (by first | rfl | simp only [evs, tys, evl]) h) (fun a => rfl) fun y758 hy758 => ?_
                        try simp only [evs, tys]
                        refine Imp.op (f := fun a => .str a) (fun a h => op_cat h) (fun a => rfl) fun y760 hy760 => ?_
                        try simp only [evs, tys]
                        refine Imp.call (f := letters_NameE) rfl (fun a h => by first | exact letters_Name_spec h | simpa only [evs, tys, evl] using letters_Name_spec h) (fun a => by first | rfl | simp only [letters_NameE, evk, chks]) fun y762 hy762 => ?_
                        try simp only [letters_NameE, evs, tys]
                        refine Imp.cnd ?_ ?_
                        · refine Imp.call (f := seinelaw1_awakeE) rfl (fun a h => by first | exact seinelaw1_awake_spec h | simpa only [evs, tys, evl] using seinelaw1_awake_spec h) (fun a => by first | rfl | simp only [seinelaw1_awakeE, evk, chks]) fun y764 hy764 => ?_
                          try simp only [seinelaw1_awakeE, evs, tys]
                          exact Imp.some (by first | rfl | simp only [seinelaw1_LettersNamesE, evs, tys, evl])
                        · exact Imp.some (by first | rfl | simp only [seinelaw1_LettersNamesE, evs, tys, evl])
                · refine Imp.cnd ?_ ?_
                  · refine Imp.cnd ?_ ?_
                    · refine Imp.cnd ?_ ?_
                      · refine Imp.call (f := seinelaw1_awakeE) rfl (fun a h => by first | exact seinelaw1_awake_spec h | simpa only [evs, tys, evl] using seinelaw1_awake_spec h) (fun a => by first | rfl | simp only [seinelaw1_awakeE, evk, chks]) fun y766 hy766 => ?_
                        try simp only [seinelaw1_awakeE, evs, tys]
                        exact Imp.some (by first | rfl | simp only [seinelaw1_LettersNamesE, evs, tys, evl])
                      · refine Imp.op (f := fun a => .str a) (fun a h => op_toStr (by first | rfl | simp only [evs, tys, evl]) h) (fun a => rfl) fun y768 hy768 => ?_
                        try simp only [evs, tys]
                        refine Imp.op (f := fun a => .str a) (fun a h => op_cat h) (fun a => rfl) fun y770 hy770 => ?_
                        try simp only [evs, tys]
                        refine Imp.call (f := letters_NameE) rfl (fun a h => by first | exact letters_Name_spec h | simpa only [evs, tys, evl] using letters_Name_spec h) (fun a => by first | rfl | simp only [letters_NameE, evk, chks]) fun y772 hy772 => ?_
                        try simp only [letters_NameE, evs, tys]
                        refine Imp.cnd ?_ ?_
                        · refine Imp.call (f := seinelaw1_awakeE) rfl (fun a h => by first | exact seinelaw1_awake_spec h | simpa only [evs, tys, evl] using seinelaw1_awake_spec h) (fun a => by first | rfl | simp only [seinelaw1_awakeE, evk, chks]) fun y774 hy774 => ?_
                          try simp only [seinelaw1_awakeE, evs, tys]
                          exact Imp.some (by first | rfl | simp only [seinelaw1_LettersNamesE, evs, tys, evl])
                        · exact Imp.some (by first | rfl | simp only [seinelaw1_LettersNamesE, evs, tys, evl])
                    · refine Imp.cnd ?_ ?_
                      · refine Imp.call (f := seinelaw1_awakeE) rfl (fun a h => by first | exact seinelaw1_awake_spec h | simpa only [evs, tys, evl] using seinelaw1_awake_spec h) (fun a => by first | rfl | simp only [seinelaw1_awakeE, evk, chks]) fun y776 hy776 => ?_
                        try simp only [seinelaw1_awakeE, evs, tys]
                        exact Imp.some (by first | rfl | simp only [seinelaw1_LettersNamesE, evs, tys, evl])
                      · refine Imp.op (f := fun a => .str a) (fun a h => op_toStr (by first | rfl | simp only [evs, tys, evl]) h) (fun a => rfl) fun y778 hy778 => ?_
                        try simp only [evs, tys]
                        refine Imp.op (f := fun a => .str a) (fun a h => op_cat h) (fun a => rfl) fun y780 hy780 => ?_
                        try simp only [evs, tys]
                        refine Imp.call (f := letters_NameE) rfl (fun a h => by first | exact letters_Name_spec h | simpa only [evs, tys, evl] using letters_Name_spec h) (fun a => by first | rfl | simp only [letters_NameE, evk, chks]) fun y782 hy782 => ?_
                        try simp only [letters_NameE, evs, tys]
                        refine Imp.cnd ?_ ?_
                        · refine Imp.call (f := seinelaw1_awakeE) rfl (fun a h => by first | exact seinelaw1_awake_spec h | simpa only [evs, tys, evl] using seinelaw1_awake_spec h) (fun a => by first | rfl | simp only [seinelaw1_awakeE, evk, chks]) fun y784 hy784 => ?_
                          try simp only [seinelaw1_awakeE, evs, tys]
                          exact Imp.some (by first | rfl | simp only [seinelaw1_LettersNamesE, evs, tys, evl])
                        · exact Imp.some (by first | rfl | simp only [seinelaw1_LettersNamesE, evs, tys, evl])
                  · refine Imp.cnd ?_ ?_
                    · refine Imp.call (f := seinelaw1_awakeE) rfl (fun a h => by first | exact seinelaw1_awake_spec h | simpa only [evs, tys, evl] using seinelaw1_awake_spec h) (fun a => by first | rfl | simp only [seinelaw1_awakeE, evk, chks]) fun y786 hy786 => ?_
                      try simp only [seinelaw1_awakeE, evs, tys]
                      exact Imp.some (by first | rfl | simp only [seinelaw1_LettersNamesE, evs, tys, evl])
                    · refine Imp.op (f := fun a => .str a) (fun a h => op_toStr (by first | rfl | simp only [evs, tys, evl]) h) (fun a => rfl) fun y788 hy788 => ?_
                      try simp only [evs, tys]
                      refine Imp.op (f := fun a => .str a) (fun a h => op_cat h) (fun a => rfl) fun y790 hy790 => ?_
                      try simp only [evs, tys]
                      refine Imp.call (f := letters_NameE) rfl (fun a h => by first | exact letters_Name_spec h | simpa only [evs, tys, evl] using letters_Name_spec h) (fun a => by first | rfl | simp only [letters_NameE, evk, chks]) fun y792 hy792 => ?_
                      try simp only [letters_NameE, evs, tys]
                      refine Imp.cnd ?_ ?_
                      · refine Imp.call (f := seinelaw1_awakeE) rfl (fun a h => by first | exact seinelaw1_awake_spec h | simpa only [evs, tys, evl] using seinelaw1_awake_spec h) (fun a => by first | rfl | simp only [seinelaw1_awakeE, evk, chks]) fun y794 hy794 => ?_
                        try simp only [seinelaw1_awakeE, evs, tys]
                        exact Imp.some (by first | rfl | simp only [seinelaw1_LettersNamesE, evs, tys, evl])
                      · exact Imp.some (by first | rfl | simp only [seinelaw1_LettersNamesE, evs, tys, evl])
        · refine Imp.op (f := fun a => .str a) (fun a h => op_cat h) (fun a => rfl) fun y796 hy796 => ?_
          try simp only [evs, tys]
          refine Imp.call (f := letters_NameE) rfl (fun a h => by first | exact letters_Name_spec h | simpa only [evs, tys, evl] using letters_Name_spec h) (fun a => by first | rfl | simp only [letters_NameE, evk, chks]) fun y798 hy798 => ?_
          try simp only [letters_NameE, evs, tys]
          refine Imp.cnd ?_ ?_
          · exact Imp.some (by first | rfl | simp only [seinelaw1_LettersNamesE, evs, tys, evl])
          · refine Imp.cnd ?_ ?_
            · refine Imp.cnd ?_ ?_
              · refine Imp.cnd ?_ ?_
                · refine Imp.call (f := seinelaw1_awakeE) rfl (fun a h => by first | exact seinelaw1_awake_spec h | simpa only [evs, tys, evl] using seinelaw1_awake_spec h) (fun a => by first | rfl | simp only [seinelaw1_awakeE, evk, chks]) fun y800 hy800 => ?_
                  try simp only [seinelaw1_awakeE, evs, tys]
                  exact Imp.some (by first | rfl | simp only [seinelaw1_LettersNamesE, evs, tys, evl])
                · refine Imp.op (f := fun a => .str a) (fun a h => op_toStr (by first | rfl | simp only [evs, tys, evl]) h) (fun a => rfl) fun y802 hy802 => ?_
                  try simp only [evs, tys]
                  refine Imp.op (f := fun a => .str a) (fun a h => op_cat h) (fun a => rfl) fun y804 hy804 => ?_
                  try simp only [evs, tys]
                  refine Imp.call (f := letters_NameE) rfl (fun a h => by first | exact letters_Name_spec h | simpa only [evs, tys, evl] using letters_Name_spec h) (fun a => by first | rfl | simp only [letters_NameE, evk, chks]) fun y806 hy806 => ?_
                  try simp only [letters_NameE, evs, tys]
                  refine Imp.cnd ?_ ?_
                  · refine Imp.call (f := seinelaw1_awakeE) rfl (fun a h => by first | exact seinelaw1_awake_spec h | simpa only [evs, tys, evl] using seinelaw1_awake_spec h) (fun a => by first | rfl | simp only [seinelaw1_awakeE, evk, chks]) fun y808 hy808 => ?_
                    try simp only [seinelaw1_awakeE, evs, tys]
                    exact Imp.some (by first | rfl | simp only [seinelaw1_LettersNamesE, evs, tys, evl])
                  · exact Imp.some (by first | rfl | simp only [seinelaw1_LettersNamesE, evs, tys, evl])
              · refine Imp.cnd ?_ ?_
                · refine Imp.cnd ?_ ?_
                  · refine Imp.cnd ?_ ?_
                    · refine Imp.call (f := seinelaw1_awakeE) rfl (fun a h => by first | exact seinelaw1_awake_spec h | simpa only [evs, tys, evl] using seinelaw1_awake_spec h) (fun a => by first | rfl | simp only [seinelaw1_awakeE, evk, chks]) fun y810 hy810 => ?_
                      try simp only [seinelaw1_awakeE, evs, tys]
                      exact Imp.some (by first | rfl | simp only [seinelaw1_LettersNamesE, evs, tys, evl])
                    · refine Imp.op (f := fun a => .str a) (fun a h => op_toStr (by first | rfl | simp only [evs, tys, evl]) h) (fun a => rfl) fun y812 hy812 => ?_
                      try simp only [evs, tys]
                      refine Imp.op (f := fun a => .str a) (fun a h => op_cat h) (fun a => rfl) fun y814 hy814 => ?_
                      try simp only [evs, tys]
                      refine Imp.call (f := letters_NameE) rfl (fun a h => by first | exact letters_Name_spec h | simpa only [evs, tys, evl] using letters_Name_spec h) (fun a => by first | rfl | simp only [letters_NameE, evk, chks]) fun y816 hy816 => ?_
                      try simp only [letters_NameE, evs, tys]
                      refine Imp.cnd ?_ ?_
                      · refine Imp.call (f := seinelaw1_awakeE) rfl (fun a h => by first | exact seinelaw1_awake_spec h | simpa only [evs, tys, evl] using seinelaw1_awake_spec h) (fun a => by first | rfl | simp only [seinelaw1_awakeE, evk, chks]) fun y818 hy818 => ?_
                        try simp only [seinelaw1_awakeE, evs, tys]
                        exact Imp.some (by first | rfl | simp only [seinelaw1_LettersNamesE, evs, tys, evl])
                      · exact Imp.some (by first | rfl | simp only [seinelaw1_LettersNamesE, evs, tys, evl])
                  · refine Imp.cnd ?_ ?_
                    · refine Imp.cnd ?_ ?_
                      · refine Imp.cnd ?_ ?_
                        · refine Imp.call (f := seinelaw1_awakeE) rfl (fun a h => by first | exact seinelaw1_awake_spec h | simpa only [evs, tys, evl] using seinelaw1_awake_spec h) (fun a => by first | rfl | simp only [seinelaw1_awakeE, evk, chks]) fun y820 hy820 => ?_
                          try simp only [seinelaw1_awakeE, evs, tys]
                          exact Imp.some (by first | rfl | simp only [seinelaw1_LettersNamesE, evs, tys, evl])
                        · refine Imp.op (f := fun a => .str a) (fun a h => op_toStr (by first | rfl | simp only [evs, tys, evl]) h) (fun a => rfl) fun y822 hy822 => ?_
                          try simp only [evs, tys]
                          refine Imp.op (f := fun a => .str a) (fun a h => op_cat h) (fun a => rfl) fun y824 hy824 => ?_
                          try simp only [evs, tys]
                          refine Imp.call (f := letters_NameE) rfl (fun a h => by first | exact letters_Name_spec h | simpa only [evs, tys, evl] using letters_Name_spec h) (fun a => by first | rfl | simp only [letters_NameE, evk, chks]) fun y826 hy826 => ?_
                          try simp only [letters_NameE, evs, tys]
                          refine Imp.cnd ?_ ?_
                          · refine Imp.call (f := seinelaw1_awakeE) rfl (fun a h => by first | exact seinelaw1_awake_spec h | simpa only [evs, tys, evl] using seinelaw1_awake_spec h) (fun a => by first | rfl | simp only [seinelaw1_awakeE, evk, chks]) fun y828 hy828 => ?_
                            try simp only [seinelaw1_awakeE, evs, tys]
                            exact Imp.some (by first | rfl | simp only [seinelaw1_LettersNamesE, evs, tys, evl])
                          · exact Imp.some (by first | rfl | simp only [seinelaw1_LettersNamesE, evs, tys, evl])
                      · refine Imp.cnd ?_ ?_
                        · refine Imp.call (f := seinelaw1_awakeE) rfl (fun a h => by first | exact seinelaw1_awake_spec h | simpa only [evs, tys, evl] using seinelaw1_awake_spec h) (fun a => by first | rfl | simp only [seinelaw1_awakeE, evk, chks]) fun y830 hy830 => ?_
                          try simp only [seinelaw1_awakeE, evs, tys]
                          exact Imp.some (by first | rfl | simp only [seinelaw1_LettersNamesE, evs, tys, evl])
                        · refine Imp.op (f := fun a => .str a) (fun a h => op_toStr (by first | rfl | simp only [evs, tys, evl]) h) (fun a => rfl) fun y832 hy832 => ?_
                          try simp only [evs, tys]
                          refine Imp.op (f := fun a => .str a) (fun a h => op_cat h) (fun a => rfl) fun y834 hy834 => ?_
                          try simp only [evs, tys]
                          refine Imp.call (f := letters_NameE) rfl (fun a h => by first | exact letters_Name_spec h | simpa only [evs, tys, evl] using letters_Name_spec h) (fun a => by first | rfl | simp only [letters_NameE, evk, chks]) fun y836 hy836 => ?_
                          try simp only [letters_NameE, evs, tys]
                          refine Imp.cnd ?_ ?_
                          · refine Imp.call (f := seinelaw1_awakeE) rfl (fun a h => by first | exact seinelaw1_awake_spec h | simpa only [evs, tys, evl] using seinelaw1_awake_spec h) (fun a => by first | rfl | simp only [seinelaw1_awakeE, evk, chks]) fun y838 hy838 => ?_
                            try simp only [seinelaw1_awakeE, evs, tys]
                            exact Imp.some (by first | rfl | simp only [seinelaw1_LettersNamesE, evs, tys, evl])
                          · exact Imp.some (by first | rfl | simp only [seinelaw1_LettersNamesE, evs, tys, evl])
                    · refine Imp.cnd ?_ ?_
                      · refine Imp.call (f := seinelaw1_awakeE) rfl (fun a h => by first | exact seinelaw1_awake_spec h | simpa only [evs, tys, evl] using seinelaw1_awake_spec h) (fun a => by first | rfl | simp only [seinelaw1_awakeE, evk, chks]) fun y840 hy840 => ?_
                        try simp only [seinelaw1_awakeE, evs, tys]
                        exact Imp.some (by first | rfl | simp only [seinelaw1_LettersNamesE, evs, tys, evl])
                      · refine Imp.op (f := fun a => .str a) (fun a h => op_toStr (by first | rfl | simp only [evs, tys, evl]) h) (fun a => rfl) fun y842 hy842 => ?_
                        try simp only [evs, tys]
                        refine Imp.op (f := fun a => .str a) (fun a h => op_cat h) (fun a => rfl) fun y844 hy844 => ?_
                        try simp only [evs, tys]
                        refine Imp.call (f := letters_NameE) rfl (fun a h => by first | exact letters_Name_spec h | simpa only [evs, tys, evl] using letters_Name_spec h) (fun a => by first | rfl | simp only [letters_NameE, evk, chks]) fun y846 hy846 => ?_
                        try simp only [letters_NameE, evs, tys]
                        refine Imp.cnd ?_ ?_
                        · refine Imp.call (f := seinelaw1_awakeE) rfl (fun a h => by first | exact seinelaw1_awake_spec h | simpa only [evs, tys, evl] using seinelaw1_awake_spec h) (fun a => by first | rfl | simp only [seinelaw1_awakeE, evk, chks]) fun y848 hy848 => ?_
                          try simp only [seinelaw1_awakeE, evs, tys]
                          exact Imp.some (by first | rfl | simp only [seinelaw1_LettersNamesE, evs, tys, evl])
                        · exact Imp.some (by first | rfl | simp only [seinelaw1_LettersNamesE, evs, tys, evl])
                · refine Imp.cnd ?_ ?_
                  · refine Imp.cnd ?_ ?_
                    · refine Imp.cnd ?_ ?_
                      · refine Imp.call (f := seinelaw1_awakeE) rfl (fun a h => by first | exact seinelaw1_awake_spec h | simpa only [evs, tys, evl] using seinelaw1_awake_spec h) (fun a => by first | rfl | simp only [seinelaw1_awakeE, evk, chks]) fun y850 hy850 => ?_
                        try simp only [seinelaw1_awakeE, evs, tys]
                        exact Imp.some (by first | rfl | simp only [seinelaw1_LettersNamesE, evs, tys, evl])
                      · refine Imp.op (f := fun a => .str a) (fun a h => op_toStr (by first | rfl | simp only [evs, tys, evl]) h) (fun a => rfl) fun y852 hy852 => ?_
                        try simp only [evs, tys]
                        refine Imp.op (f := fun a => .str a) (fun a h => op_cat h) (fun a => rfl) fun y854 hy854 => ?_
                        try simp only [evs, tys]
                        refine Imp.call (f := letters_NameE) rfl (fun a h => by first | exact letters_Name_spec h | simpa only [evs, tys, evl] using letters_Name_spec h) (fun a => by first | rfl | simp only [letters_NameE, evk, chks]) fun y856 hy856 => ?_
                        try simp only [letters_NameE, evs, tys]
                        refine Imp.cnd ?_ ?_
                        · refine Imp.call (f := seinelaw1_awakeE) rfl (fun a h => by first | exact seinelaw1_awake_spec h | simpa only [evs, tys, evl] using seinelaw1_awake_spec h) (fun a => by first | rfl | simp only [seinelaw1_awakeE, evk, chks]) fun y858 hy858 => ?_
                          try simp only [seinelaw1_awakeE, evs, tys]
                          exact Imp.some (by first | rfl | simp only [seinelaw1_LettersNamesE, evs, tys, evl])
                        · exact Imp.some (by first | rfl | simp only [seinelaw1_LettersNamesE, evs, tys, evl])
                    · refine Imp.cnd ?_ ?_
                      · refine Imp.call (f := seinelaw1_awakeE) rfl (fun a h => by first | exact seinelaw1_awake_spec h | simpa only [evs, tys, evl] using seinelaw1_awake_spec h) (fun a => by first | rfl | simp only [seinelaw1_awakeE, evk, chks]) fun y860 hy860 => ?_
                        try simp only [seinelaw1_awakeE, evs, tys]
                        exact Imp.some (by first | rfl | simp only [seinelaw1_LettersNamesE, evs, tys, evl])
                      · refine Imp.op (f := fun a => .str a) (fun a h => op_toStr (by first | rfl | simp only [evs, tys, evl]) h) (fun a => rfl) fun y862 hy862 => ?_
                        try simp only [evs, tys]
                        refine Imp.op (f := fun a => .str a) (fun a h => op_cat h) (fun a => rfl) fun y864 hy864 => ?_
                        try simp only [evs, tys]
                        refine Imp.call (f := letters_NameE) rfl (fun a h => by first | exact letters_Name_spec h | simpa only [evs, tys, evl] using letters_Name_spec h) (fun a => by first | rfl | simp only [letters_NameE, evk, chks]) fun y866 hy866 => ?_
                        try simp only [letters_NameE, evs, tys]
                        refine Imp.cnd ?_ ?_
                        · refine Imp.call (f := seinelaw1_awakeE) rfl (fun a h => by first | exact seinelaw1_awake_spec h | simpa only [evs, tys, evl] using seinelaw1_awake_spec h) (fun a => by first | rfl | simp only [seinelaw1_awakeE, evk, chks]) fun y868 hy868 => ?_
                          try simp only [seinelaw1_awakeE, evs, tys]
                          exact Imp.some (by first | rfl | simp only [seinelaw1_LettersNamesE, evs, tys, evl])
                        · exact Imp.some (by first | rfl | simp only [seinelaw1_LettersNamesE, evs, tys, evl])
                  · refine Imp.cnd ?_ ?_
                    · refine Imp.call (f := seinelaw1_awakeE) rfl (fun a h => by first | exact seinelaw1_awake_spec h | simpa only [evs, tys, evl] using seinelaw1_awake_spec h) (fun a => by first | rfl | simp only [seinelaw1_awakeE, evk, chks]) fun y870 hy870 => ?_
                      try simp only [seinelaw1_awakeE, evs, tys]
                      exact Imp.some (by first | rfl | simp only [seinelaw1_LettersNamesE, evs, tys, evl])
                    · refine Imp.op (f := fun a => .str a) (fun a h => op_toStr (by first | rfl | simp only [evs, tys, evl]) h) (fun a => rfl) fun y872 hy872 => ?_
                      try simp only [evs, tys]
                      refine Imp.op (f := fun a => .str a) (fun a h => op_cat h) (fun a => rfl) fun y874 hy874 => ?_
                      try simp only [evs, tys]
                      refine Imp.call (f := letters_NameE) rfl (fun a h => by first | exact letters_Name_spec h | simpa only [evs, tys, evl] using letters_Name_spec h) (fun a => by first | rfl | simp only [letters_NameE, evk, chks]) fun y876 hy876 => ?_
                      try simp only [letters_NameE, evs, tys]
                      refine Imp.cnd ?_ ?_
                      · refine Imp.call (f := seinelaw1_awakeE) rfl (fun a h => by first | exact seinelaw1_awake_spec h | simpa only [evs, tys, evl] using seinelaw1_awake_spec h) (fun a => by first | rfl | simp only [seinelaw1_awakeE, evk, chks]) fun y878 hy878 => ?_
                        try simp only [seinelaw1_awakeE, evs, tys]
                        exact Imp.some (by first | rfl | simp only [seinelaw1_LettersNamesE, evs, tys, evl])
                      · exact Imp.some (by first | rfl | simp only [seinelaw1_LettersNamesE, evs, tys, evl])
            · refine Imp.cnd ?_ ?_
              · refine Imp.cnd ?_ ?_
                · refine Imp.cnd ?_ ?_
                  · refine Imp.call (f := seinelaw1_awakeE) rfl (fun a h => by first | exact seinelaw1_awake_spec h | simpa only [evs, tys, evl] using seinelaw1_awake_spec h) (fun a => by first | rfl | simp only [seinelaw1_awakeE, evk, chks]) fun y880 hy880 => ?_
                    try simp only [seinelaw1_awakeE, evs, tys]
                    exact Imp.some (by first | rfl | simp only [seinelaw1_LettersNamesE, evs, tys, evl])
                  · refine Imp.op (f := fun a => .str a) (fun a h => op_toStr (by first | rfl | simp only [evs, tys, evl]) h) (fun a => rfl) fun y882 hy882 => ?_
                    try simp only [evs, tys]
                    refine Imp.op (f := fun a => .str a) (fun a h => op_cat h) (fun a => rfl) fun y884 hy884 => ?_
                    try simp only [evs, tys]
                    refine Imp.call (f := letters_NameE) rfl (fun a h => by first | exact letters_Name_spec h | simpa only [evs, tys, evl] using letters_Name_spec h) (fun a => by first | rfl | simp only [letters_NameE, evk, chks]) fun y886 hy886 => ?_
                    try simp only [letters_NameE, evs, tys]
                    refine Imp.cnd ?_ ?_
                    · refine Imp.call (f := seinelaw1_awakeE) rfl (fun a h => by first | exact seinelaw1_awake_spec h | simpa only [evs, tys, evl] using seinelaw1_awake_spec h) (fun a => by first | rfl | simp only [seinelaw1_awakeE, evk, chks]) fun y888 hy888 => ?_
                      try simp only [seinelaw1_awakeE, evs, tys]
                      exact Imp.some (by first | rfl | simp only [seinelaw1_LettersNamesE, evs, tys, evl])
                    · exact Imp.some (by first | rfl | simp only [seinelaw1_LettersNamesE, evs, tys, evl])
                · refine Imp.cnd ?_ ?_
                  · refine Imp.cnd ?_ ?_
                    · refine Imp.cnd ?_ ?_
                      · refine Imp.call (f := seinelaw1_awakeE) rfl (fun a h => by first | exact seinelaw1_awake_spec h | simpa only [evs, tys, evl] using seinelaw1_awake_spec h) (fun a => by first | rfl | simp only [seinelaw1_awakeE, evk, chks]) fun y890 hy890 => ?_
                        try simp only [seinelaw1_awakeE, evs, tys]
                        exact Imp.some (by first | rfl | simp only [seinelaw1_LettersNamesE, evs, tys, evl])
                      · refine Imp.op (f := fun a => .str a) (fun a h => op_toStr (by first | rfl | simp only [evs, tys, evl]) h) (fun a => rfl) fun y892 hy892 => ?_
                        try simp only [evs, tys]
                        refine Imp.op (f := fun a => .str a) (fun a h => op_cat h) (fun a => rfl) fun y894 hy894 => ?_
                        try simp only [evs, tys]
                        refine Imp.call (f := letters_NameE) rfl (fun a h => by first | exact letters_Name_spec h | simpa only [evs, tys, evl] using letters_Name_spec h) (fun a => by first | rfl | simp only [letters_NameE, evk, chks]) fun y896 hy896 => ?_
                        try simp only [letters_NameE, evs, tys]
                        refine Imp.cnd ?_ ?_
                        · refine Imp.call (f := seinelaw1_awakeE) rfl (fun a h => by first | exact seinelaw1_awake_spec h | simpa only [evs, tys, evl] using seinelaw1_awake_spec h) (fun a => by first | rfl | simp only [seinelaw1_awakeE, evk, chks]) fun y898 hy898 => ?_
                          try simp only [seinelaw1_awakeE, evs, tys]
                          exact Imp.some (by first | rfl | simp only [seinelaw1_LettersNamesE, evs, tys, evl])
                        · exact Imp.some (by first | rfl | simp only [seinelaw1_LettersNamesE, evs, tys, evl])
                    · refine Imp.cnd ?_ ?_
                      · refine Imp.call (f := seinelaw1_awakeE) rfl (fun a h => by first | exact seinelaw1_awake_spec h | simpa only [evs, tys, evl] using seinelaw1_awake_spec h) (fun a => by first | rfl | simp only [seinelaw1_awakeE, evk, chks]) fun y900 hy900 => ?_
                        try simp only [seinelaw1_awakeE, evs, tys]
                        exact Imp.some (by first | rfl | simp only [seinelaw1_LettersNamesE, evs, tys, evl])
                      · refine Imp.op (f := fun a => .str a) (fun a h => op_toStr (by first | rfl | simp only [evs, tys, evl]) h) (fun a => rfl) fun y902 hy902 => ?_
                        try simp only [evs, tys]
                        refine Imp.op (f := fun a => .str a) (fun a h => op_cat h) (fun a => rfl) fun y904 hy904 => ?_
                        try simp only [evs, tys]
                        refine Imp.call (f := letters_NameE) rfl (fun a h => by first | exact letters_Name_spec h | simpa only [evs, tys, evl] using letters_Name_spec h) (fun a => by first | rfl | simp only [letters_NameE, evk, chks]) fun y906 hy906 => ?_
                        try simp only [letters_NameE, evs, tys]
                        refine Imp.cnd ?_ ?_
                        · refine Imp.call (f := seinelaw1_awakeE) rfl (fun a h => by first | exact seinelaw1_awake_spec h | simpa only [evs, tys, evl] using seinelaw1_awake_spec h) (fun a => by first | rfl | simp only [seinelaw1_awakeE, evk, chks]) fun y908 hy908 => ?_
                          try simp only [seinelaw1_awakeE, evs, tys]
                          exact Imp.some (by first | rfl | simp only [seinelaw1_LettersNamesE, evs, tys, evl])
                        · exact Imp.some (by first | rfl | simp only [seinelaw1_LettersNamesE, evs, tys, evl])
                  · refine Imp.cnd ?_ ?_
                    · refine Imp.call (f := seinelaw1_awakeE) rfl (fun a h => by first | exact seinelaw1_awake_spec h | simpa only [evs, tys, evl] using seinelaw1_awake_spec h) (fun a => by first | rfl | simp only [seinelaw1_awakeE, evk, chks]) fun y910 hy910 => ?_
                      try simp only [seinelaw1_awakeE, evs, tys]
                      exact Imp.some (by first | rfl | simp only [seinelaw1_LettersNamesE, evs, tys, evl])
                    · refine Imp.op (f := fun a => .str a) (fun a h => op_toStr (by first | rfl | simp only [evs, tys, evl]) h) (fun a => rfl) fun y912 hy912 => ?_
                      try simp only [evs, tys]
                      refine Imp.op (f := fun a => .str a) (fun a h => op_cat h) (fun a => rfl) fun y914 hy914 => ?_
                      try simp only [evs, tys]
                      refine Imp.call (f := letters_NameE) rfl (fun a h => by first | exact letters_Name_spec h | simpa only [evs, tys, evl] using letters_Name_spec h) (fun a => by first | rfl | simp only [letters_NameE, evk, chks]) fun y916 hy916 => ?_
                      try simp only [letters_NameE, evs, tys]
                      refine Imp.cnd ?_ ?_
                      · refine Imp.call (f := seinelaw1_awakeE) rfl (fun a h => by first | exact seinelaw1_awake_spec h | simpa only [evs, tys, evl] using seinelaw1_awake_spec h) (fun a => by first | rfl | simp only [seinelaw1_awakeE, evk, chks]) fun y918 hy918 => ?_
                        try simp only [seinelaw1_awakeE, evs, tys]
                        exact Imp.some (by first | rfl | simp only [seinelaw1_LettersNamesE, evs, tys, evl])
                      · exact Imp.some (by first | rfl | simp only [seinelaw1_LettersNamesE, evs, tys, evl])
              · refine Imp.cnd ?_ ?_
                · refine Imp.cnd ?_ ?_
                  · refine Imp.cnd ?_ ?_
                    · refine Imp.call (f := seinelaw1_awakeE) rfl (fun a h => by first | exact seinelaw1_awake_spec h | simpa only [evs, tys, evl] using seinelaw1_awake_spec h) (fun a => by first | rfl | simp only [seinelaw1_awakeE, evk, chks]) fun y920 hy920 => ?_
                      try simp only [seinelaw1_awakeE, evs, tys]
                      exact Imp.some (by first | rfl | simp only [seinelaw1_LettersNamesE, evs, tys, evl])
                    · refine Imp.op (f := fun a => .str a) (fun a h => op_toStr (by first | rfl | simp only [evs, tys, evl]) h) (fun a => rfl) fun y922 hy922 => ?_
                      try simp only [evs, tys]
                      refine Imp.op (f := fun a => .str a) (fun a h => op_cat h) (fun a => rfl) fun y924 hy924 => ?_
                      try simp only [evs, tys]
                      refine Imp.call (f := letters_NameE) rfl (fun a h => by first | exact letters_Name_spec h | simpa only [evs, tys, evl] using letters_Name_spec h) (fun a => by first | rfl | simp only [letters_NameE, evk, chks]) fun y926 hy926 => ?_
                      try simp only [letters_NameE, evs, tys]
                      refine Imp.cnd ?_ ?_
                      · refine Imp.call (f := seinelaw1_awakeE) rfl (fun a h => by first | exact seinelaw1_awake_spec h | simpa only [evs, tys, evl] using seinelaw1_awake_spec h) (fun a => by first | rfl | simp only [seinelaw1_awakeE, evk, chks]) fun y928 hy928 => ?_
                        try simp only [seinelaw1_awakeE, evs, tys]
                        exact Imp.some (by first | rfl | simp only [seinelaw1_LettersNamesE, evs, tys, evl])
                      · exact Imp.some (by first | rfl | simp only [seinelaw1_LettersNamesE, evs, tys, evl])
                  · refine Imp.cnd ?_ ?_
                    · refine Imp.call (f := seinelaw1_awakeE) rfl (fun a h => by first | exact seinelaw1_awake_spec h | simpa only [evs, tys, evl] using seinelaw1_awake_spec h) (fun a => by first | rfl | simp only [seinelaw1_awakeE, evk, chks]) fun y930 hy930 => ?_
                      try simp only [seinelaw1_awakeE, evs, tys]
                      exact Imp.some (by first | rfl | simp only [seinelaw1_LettersNamesE, evs, tys, evl])
                    · refine Imp.op (f := fun a => .str a) (fun a h => op_toStr (by first | rfl | simp only [evs, tys, evl]) h) (fun a => rfl) fun y932 hy932 => ?_
                      try simp only [evs, tys]
                      refine Imp.op (f := fun a => .str a) (fun a h => op_cat h) (fun a => rfl) fun y934 hy934 => ?_
                      try simp only [evs, tys]
                      refine Imp.call (f := letters_NameE) rfl (fun a h => by first | exact letters_Name_spec h | simpa only [evs, tys, evl] using letters_Name_spec h) (fun a => by first | rfl | simp only [letters_NameE, evk, chks]) fun y936 hy936 => ?_
                      try simp only [letters_NameE, evs, tys]
                      refine Imp.cnd ?_ ?_
                      · refine Imp.call (f := seinelaw1_awakeE) rfl (fun a h => by first | exact seinelaw1_awake_spec h | simpa only [evs, tys, evl] using seinelaw1_awake_spec h) (fun a => by first | rfl | simp only [seinelaw1_awakeE, evk, chks]) fun y938 hy938 => ?_
                        try simp only [seinelaw1_awakeE, evs, tys]
                        exact Imp.some (by first | rfl | simp only [seinelaw1_LettersNamesE, evs, tys, evl])
                      · exact Imp.some (by first | rfl | simp only [seinelaw1_LettersNamesE, evs, tys, evl])
                · refine Imp.cnd ?_ ?_
                  · refine Imp.call (f := seinelaw1_awakeE) rfl (fun a h => by first | exact seinelaw1_awake_spec h | simpa only [evs, tys, evl] using seinelaw1_awake_spec h) (fun a => by first | rfl | simp only [seinelaw1_awakeE, evk, chks]) fun y940 hy940 => ?_
                    try simp only [seinelaw1_awakeE, evs, tys]
                    exact Imp.some (by first | rfl | simp only [seinelaw1_LettersNamesE, evs, tys, evl])
                  · refine Imp.op (f := fun a => .str a) (fun a h => op_toStr (by first | rfl | simp only [evs, tys, evl]) h) (fun a => rfl) fun y942 hy942 => ?_
                    try simp only [evs, tys]
                    refine Imp.op (f := fun a => .str a) (fun a h => op_cat h) (fun a => rfl) fun y944 hy944 => ?_
                    try simp only [evs, tys]
                    refine Imp.call (f := letters_NameE) rfl (fun a h => by first | exact letters_Name_spec h | simpa only [evs, tys, evl] using letters_Name_spec h) (fun a => by first | rfl | simp only [letters_NameE, evk, chks]) fun y946 hy946 => ?_
                    try simp only [letters_NameE, evs, tys]
                    refine Imp.cnd ?_ ?_
                    · refine Imp.call (f := seinelaw1_awakeE) rfl (fun a h => by first | exact seinelaw1_awake_spec h | simpa only [evs, tys, evl] using seinelaw1_awake_spec h) (fun a => by first | rfl | simp only [seinelaw1_awakeE, evk, chks]) fun y948 hy948 => ?_
                      try simp only [seinelaw1_awakeE, evs, tys]
                      exact Imp.some (by first | rfl | simp only [seinelaw1_LettersNamesE, evs, tys, evl])
                    · exact Imp.some (by first | rfl | simp only [seinelaw1_LettersNamesE, evs, tys, evl])
theorem seinelaw1_LettersNames_run {s : Str} {t : Str} {c : Int} {r : Bool} (h : seinelaw1_LettersNames_B s t c = some r) : seinelaw1_LettersNames s t c = some r := by
  obtain ⟨v, hv, rfl⟩ := seinelaw1_LettersNames_imp s t c r h
  exact tO_of (pair_inj seinelaw1_LettersNamesEj) (OL_runD seinelaw1_LettersNames_ds rfl rfl Tryd.func4 ((seinelaw1_LettersNames_t1 _ _ s t c).trans hv))
end Go.Proofs.YtlaomadhhdcflaaDoor
