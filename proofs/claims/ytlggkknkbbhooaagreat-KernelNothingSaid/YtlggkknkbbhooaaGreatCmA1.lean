/-
  The functions that this seat's laws reach, each as a clean function, and that it is the program's.
-/
import Derived.Test.YtlggkknkbbhooaaGreatCmC
import Derived.Test.YtlggkknkbbhooaaGreatProg
import Derived.KernelRfl
import Derived.Lib.LaidTab
import Derived.Lib.ItoaNum
import Derived.Test.YtlggkknkbbhooaaGreatCmZ
namespace Go.Proofs.YtlggkknkbbhooaaGreat.Cm
noncomputable abbrev prog := Go.Proofs.Tryz.prog
def facts (_ : World) : Prop := True
noncomputable abbrev glb : Gl := ⟨0, facts, modOf prog⟩
theorem mixed : prog.follows .mixedOrders = true := by kernel_rfl

/-- signalbox/signalboxlaw32.AuditTraces -/
def p3 : List Plan := []
def c3 : CFunc := ⟨16, [.tmp 2],
 .seq (.region [⟨(some 2), (.move (.c (.bool false))), none⟩])
 (.seq (.region [⟨(some 3), (.move (.t 0)), none⟩,
    ⟨(some 4), (.len (.slice) (.t 3)), none⟩,
    ⟨(some 5), (.bin (.gtr) (.t 4) (.c (.int (.i64) 150))), none⟩,
    ⟨(some 6), (.move (.t 5)), none⟩,
    ⟨(some 7), (.move (.t 0)), (some (6, false))⟩,
    ⟨(some 8), (.call (.c (.func 6 [] [])) [.t 7]), (some (6, false))⟩,
    ⟨(some 9), (.move (.t 0)), (some (6, false))⟩,
    ⟨(some 10), (.call (.c (.func 7 [] [])) [.t 9]), (some (6, false))⟩,
    ⟨(some 11), (.eq (.bool) false (.t 8) (.t 10)), (some (6, false))⟩,
    ⟨(some 12), (.pick (.t 6) (.c (.bool true)) (.t 11)), none⟩,
    ⟨(some 13), (.move (.t 12)), none⟩,
    ⟨(some 14), (.call (.c (.func 8 [] [])) []), (some (13, true))⟩,
    ⟨(some 15), (.pick (.t 13) (.t 14) (.c (.bool false))), none⟩,
    ⟨(some 2), (.move (.t 15)), none⟩])
  (.ret))⟩
theorem ok3 : compFunc prog glb 3 p3 = some c3 := by kernel_rfl
/-- signalbox/signalboxlaw32.AuditNothing -/
def p4 : List Plan := []
def c4 : CFunc := ⟨26, [.tmp 4],
 .seq (.region [⟨(some 4), (.move (.c (.bool false))), none⟩])
 (.seq (.region [⟨(some 5), (.move (.t 0)), none⟩,
    ⟨(some 6), (.len (.slice) (.t 5)), none⟩,
    ⟨(some 7), (.bin (.gtr) (.t 6) (.c (.int (.i64) 100))), none⟩,
    ⟨(some 8), (.move (.t 7)), none⟩,
    ⟨(some 9), (.move (.t 0)), (some (8, false))⟩,
    ⟨(some 10), (.move (.t 1)), (some (8, false))⟩,
    ⟨(some 11), (.call (.c (.func 9 [] [])) [.c (.nilPtr), .t 9, .t 10]), (some (8, false))⟩,
    ⟨(some 12), (.len (.slice) (.t 11)), (some (8, false))⟩,
    ⟨(some 13), (.bin (.eql) (.t 12) (.c (.int (.i64) 0))), (some (8, false))⟩,
    ⟨(some 14), (.move (.t 13)), (some (8, false))⟩,
    ⟨(some 15), (.call (.c (.func 10 [] [])) [.c (.nilPtr)]), (some (14, true))⟩,
    ⟨(some 16), (.len (.slice) (.t 15)), (some (14, true))⟩,
    ⟨(some 17), (.bin (.eql) (.t 16) (.c (.int (.i64) 0))), (some (14, true))⟩,
    ⟨(some 18), (.pick (.t 14) (.t 17) (.c (.bool false))), (some (8, false))⟩,
    ⟨(some 19), (.move (.t 18)), (some (8, false))⟩,
    ⟨(some 20), (.call (.c (.func 6 [] [])) [.c (.nilSlice)]), (some (19, true))⟩,
    ⟨(some 21), (.pick (.t 19) (.t 20) (.c (.bool false))), (some (8, false))⟩,
    ⟨(some 22), (.pick (.t 8) (.c (.bool true)) (.t 21)), none⟩,
    ⟨(some 23), (.move (.t 22)), none⟩,
    ⟨(some 24), (.call (.c (.func 8 [] [])) []), (some (23, true))⟩,
    ⟨(some 25), (.pick (.t 23) (.t 24) (.c (.bool false))), none⟩,
    ⟨(some 4), (.move (.t 25)), none⟩])
  (.ret))⟩
theorem ok4 : compFunc prog glb 4 p4 = some c4 := by kernel_rfl
/-- signalbox/signalboxlaw18.KernelNothing -/
def p5 : List Plan := []
def c5 : CFunc := ⟨210, [.tmp 10],
 .seq (.region [⟨(some 10), (.move (.c (.bool false))), none⟩])
 (.seq (.seq (.region [⟨(some 41), (.move (.t 0)), none⟩,
     ⟨(some 42), (.len (.slice) (.t 41)), none⟩,
     ⟨(some 43), (.bin (.gtr) (.t 42) (.c (.int (.i64) 50))), none⟩,
     ⟨(some 44), (.move (.t 43)), none⟩,
     ⟨(some 45), (.move (.t 2)), (some (44, false))⟩,
     ⟨(some 46), (.len (.slice) (.t 45)), (some (44, false))⟩,
     ⟨(some 47), (.bin (.gtr) (.t 46) (.c (.int (.i64) 50))), (some (44, false))⟩,
     ⟨(some 48), (.pick (.t 44) (.c (.bool true)) (.t 47)), none⟩])
   (.cond (.t 48) (.seq (.region [⟨(some 49), (.call (.c (.func 11 [] [])) []), none⟩,
       ⟨(some 10), (.move (.t 49)), none⟩])
     (.ret))
    (.skip)))
  (.seq (.region [⟨(some 11), (.move (.c (.nilPtr))), none⟩])
   (.seq (.region [⟨(some 51), (.move (.t 11)), none⟩,
      ⟨(some 52), (.move (.t 2)), none⟩,
      ⟨(some 53), (.call (.c (.func 12 [] [])) [.t 51, .t 52]), none⟩,
      ⟨(some 50), (.move (.t 53)), none⟩,
      ⟨(some 54), (.extract (.t 50) 0), none⟩,
      ⟨(some 55), (.extract (.t 50) 1), none⟩,
      ⟨(some 12), (.move (.t 54)), none⟩,
      ⟨(some 13), (.move (.t 55)), none⟩])
    (.seq (.region [⟨(some 57), (.move (.t 11)), none⟩,
       ⟨(some 58), (.move (.t 4)), none⟩,
       ⟨(some 59), (.move (.t 2)), none⟩,
       ⟨(some 60), (.call (.c (.func 13 [] [])) [.t 57, .t 58, .t 59]), none⟩,
       ⟨(some 56), (.move (.t 60)), none⟩,
       ⟨(some 61), (.extract (.t 56) 0), none⟩,
       ⟨(some 62), (.extract (.t 56) 1), none⟩,
       ⟨(some 63), (.extract (.t 56) 2), none⟩,
       ⟨(some 14), (.move (.t 61)), none⟩,
       ⟨(some 15), (.move (.t 62)), none⟩,
       ⟨(some 16), (.move (.t 63)), none⟩])
     (.seq (.region [⟨(some 65), (.move (.t 11)), none⟩,
        ⟨(some 66), (.move (.t 4)), none⟩,
        ⟨(some 67), (.call (.c (.func 14 [] [])) [.t 65, .t 66]), none⟩,
        ⟨(some 64), (.move (.t 67)), none⟩,
        ⟨(some 68), (.extract (.t 64) 0), none⟩,
        ⟨(some 69), (.extract (.t 64) 1), none⟩,
        ⟨(some 70), (.extract (.t 64) 2), none⟩,
        ⟨(some 17), (.move (.t 68)), none⟩,
        ⟨(some 18), (.move (.t 69)), none⟩,
        ⟨(some 19), (.move (.t 70)), none⟩])
      (.seq (.region [⟨(some 72), (.move (.t 11)), none⟩,
         ⟨(some 73), (.move (.t 4)), none⟩,
         ⟨(some 74), (.call (.c (.func 15 [] [])) [.t 72, .t 73, .c (.int (.i64) 0)]), none⟩,
         ⟨(some 71), (.move (.t 74)), none⟩,
         ⟨(some 75), (.extract (.t 71) 0), none⟩,
         ⟨(some 76), (.extract (.t 71) 1), none⟩,
         ⟨(some 77), (.extract (.t 71) 2), none⟩,
         ⟨(some 20), (.move (.t 75)), none⟩,
         ⟨(some 21), (.move (.t 76)), none⟩,
         ⟨(some 22), (.move (.t 77)), none⟩])
       (.seq (.region [⟨(some 79), (.move (.t 11)), none⟩,
          ⟨(some 80), (.move (.t 4)), none⟩,
          ⟨(some 81), (.call (.c (.func 16 [] [])) [.t 79, .t 80, .c (.int (.i64) 0)]), none⟩,
          ⟨(some 78), (.move (.t 81)), none⟩,
          ⟨(some 82), (.extract (.t 78) 0), none⟩,
          ⟨(some 83), (.extract (.t 78) 1), none⟩,
          ⟨(some 84), (.extract (.t 78) 2), none⟩,
          ⟨(some 23), (.move (.t 82)), none⟩,
          ⟨(some 24), (.move (.t 83)), none⟩,
          ⟨(some 25), (.move (.t 84)), none⟩])
        (.seq (.region [⟨(some 86), (.move (.t 11)), none⟩,
           ⟨(some 87), (.move (.t 4)), none⟩,
           ⟨(some 88), (.call (.c (.func 17 [] [])) [.t 86, .t 87, .c (.int (.i64) 0), .c (.bool true)]), none⟩,
           ⟨(some 85), (.move (.t 88)), none⟩,
           ⟨(some 89), (.extract (.t 85) 0), none⟩,
           ⟨(some 90), (.extract (.t 85) 1), none⟩,
           ⟨(some 91), (.extract (.t 85) 2), none⟩,
           ⟨(some 26), (.move (.t 89)), none⟩,
           ⟨(some 27), (.move (.t 90)), none⟩,
           ⟨(some 28), (.move (.t 91)), none⟩])
         (.seq (.region [⟨(some 93), (.move (.t 11)), none⟩,
            ⟨(some 94), (.move (.t 4)), none⟩,
            ⟨(some 95), (.move (.t 2)), none⟩,
            ⟨(some 96), (.call (.c (.func 18 [] [])) [.t 93, .t 94, .t 95]), none⟩,
            ⟨(some 92), (.move (.t 96)), none⟩,
            ⟨(some 97), (.extract (.t 92) 0), none⟩,
            ⟨(some 98), (.extract (.t 92) 1), none⟩,
            ⟨(some 99), (.extract (.t 92) 2), none⟩,
            ⟨(some 29), (.move (.t 97)), none⟩,
            ⟨(some 30), (.move (.t 98)), none⟩,
            ⟨(some 31), (.move (.t 99)), none⟩])
          (.seq (.region [⟨(some 101), (.move (.t 11)), none⟩,
             ⟨(some 102), (.move (.t 4)), none⟩,
             ⟨(some 103), (.move (.t 2)), none⟩,
             ⟨(some 104), (.call (.c (.func 19 [] [])) [.t 101, .t 102, .t 103]), none⟩,
             ⟨(some 100), (.move (.t 104)), none⟩,
             ⟨(some 105), (.extract (.t 100) 0), none⟩,
             ⟨(some 106), (.extract (.t 100) 1), none⟩,
             ⟨(some 32), (.move (.t 105)), none⟩,
             ⟨(some 33), (.move (.t 106)), none⟩])
           (.seq (.region [⟨(some 108), (.move (.t 11)), none⟩,
              ⟨(some 109), (.move (.t 4)), none⟩,
              ⟨(some 110), (.call (.c (.func 20 [] [])) [.t 108, .t 109, .c (.int (.i64) 0)]), none⟩,
              ⟨(some 107), (.move (.t 110)), none⟩,
              ⟨(some 111), (.extract (.t 107) 0), none⟩,
              ⟨(some 112), (.extract (.t 107) 1), none⟩,
              ⟨(some 34), (.move (.t 111)), none⟩,
              ⟨(some 35), (.move (.t 112)), none⟩])
            (.seq (.region [⟨(some 36), (.move (.c (.int (.i64) 4))), none⟩])
             (.seq (.seq (.region [⟨(some 113), (.move (.t 13)), none⟩,
                 ⟨(some 114), (.move (.t 36)), none⟩,
                 ⟨(some 115), (.bin (.neq) (.t 113) (.t 114)), none⟩,
                 ⟨(some 116), (.move (.t 115)), none⟩,
                 ⟨(some 117), (.move (.t 16)), (some (116, false))⟩,
                 ⟨(some 118), (.move (.t 36)), (some (116, false))⟩,
                 ⟨(some 119), (.bin (.neq) (.t 117) (.t 118)), (some (116, false))⟩,
                 ⟨(some 120), (.pick (.t 116) (.c (.bool true)) (.t 119)), none⟩,
                 ⟨(some 121), (.move (.t 120)), none⟩,
                 ⟨(some 122), (.move (.t 19)), (some (121, false))⟩,
                 ⟨(some 123), (.move (.t 36)), (some (121, false))⟩,
                 ⟨(some 124), (.bin (.neq) (.t 122) (.t 123)), (some (121, false))⟩,
                 ⟨(some 125), (.pick (.t 121) (.c (.bool true)) (.t 124)), none⟩,
                 ⟨(some 126), (.move (.t 125)), none⟩,
                 ⟨(some 127), (.move (.t 22)), (some (126, false))⟩,
                 ⟨(some 128), (.move (.t 36)), (some (126, false))⟩,
                 ⟨(some 129), (.bin (.neq) (.t 127) (.t 128)), (some (126, false))⟩,
                 ⟨(some 130), (.pick (.t 126) (.c (.bool true)) (.t 129)), none⟩,
                 ⟨(some 131), (.move (.t 130)), none⟩,
                 ⟨(some 132), (.move (.t 11)), (some (131, false))⟩,
                 ⟨(some 133), (.move (.t 4)), (some (131, false))⟩,
                 ⟨(some 134), (.call (.c (.func 21 [] [])) [.t 132, .t 133, .c (.int (.i64) 0)]), (some (131, false))⟩,
                 ⟨(some 135), (.move (.t 36)), (some (131, false))⟩,
                 ⟨(some 136), (.bin (.neq) (.t 134) (.t 135)), (some (131, false))⟩,
                 ⟨(some 137), (.pick (.t 131) (.c (.bool true)) (.t 136)), none⟩,
                 ⟨(some 138), (.move (.t 137)), none⟩,
                 ⟨(some 139), (.move (.t 25)), (some (138, false))⟩,
                 ⟨(some 140), (.move (.t 36)), (some (138, false))⟩,
                 ⟨(some 141), (.bin (.neq) (.t 139) (.t 140)), (some (138, false))⟩,
                 ⟨(some 142), (.pick (.t 138) (.c (.bool true)) (.t 141)), none⟩,
                 ⟨(some 143), (.move (.t 142)), none⟩,
                 ⟨(some 144), (.move (.t 28)), (some (143, false))⟩,
                 ⟨(some 145), (.move (.t 36)), (some (143, false))⟩,
                 ⟨(some 146), (.bin (.neq) (.t 144) (.t 145)), (some (143, false))⟩,
                 ⟨(some 147), (.pick (.t 143) (.c (.bool true)) (.t 146)), none⟩,
                 ⟨(some 148), (.move (.t 147)), none⟩,
                 ⟨(some 149), (.move (.t 11)), (some (148, false))⟩,
                 ⟨(some 150), (.move (.t 4)), (some (148, false))⟩,
                 ⟨(some 151), (.call (.c (.func 22 [] [])) [.t 149, .t 150, .c (.int (.i64) 0)]), (some (148, false))⟩,
                 ⟨(some 152), (.move (.t 36)), (some (148, false))⟩,
                 ⟨(some 153), (.bin (.neq) (.t 151) (.t 152)), (some (148, false))⟩,
                 ⟨(some 154), (.pick (.t 148) (.c (.bool true)) (.t 153)), none⟩,
                 ⟨(some 155), (.move (.t 154)), none⟩,
                 ⟨(some 156), (.move (.t 31)), (some (155, false))⟩,
                 ⟨(some 157), (.move (.t 36)), (some (155, false))⟩,
                 ⟨(some 158), (.bin (.neq) (.t 156) (.t 157)), (some (155, false))⟩,
                 ⟨(some 159), (.pick (.t 155) (.c (.bool true)) (.t 158)), none⟩,
                 ⟨(some 160), (.move (.t 159)), none⟩,
                 ⟨(some 161), (.move (.t 33)), (some (160, false))⟩,
                 ⟨(some 162), (.move (.t 36)), (some (160, false))⟩,
                 ⟨(some 163), (.bin (.neq) (.t 161) (.t 162)), (some (160, false))⟩,
                 ⟨(some 164), (.pick (.t 160) (.c (.bool true)) (.t 163)), none⟩,
                 ⟨(some 165), (.move (.t 164)), none⟩,
                 ⟨(some 166), (.move (.t 35)), (some (165, false))⟩,
                 ⟨(some 167), (.pick (.t 165) (.c (.bool true)) (.t 166)), none⟩,
                 ⟨(some 168), (.move (.t 167)), none⟩,
                 ⟨(some 169), (.move (.t 11)), (some (168, false))⟩,
                 ⟨(some 170), (.call (.c (.func 23 [] [])) [.t 169]), (some (168, false))⟩,
                 ⟨(some 171), (.eq (.ptr) true (.t 170) (.c (.nilPtr))), (some (168, false))⟩,
                 ⟨(some 172), (.pick (.t 168) (.c (.bool true)) (.t 171)), none⟩,
                 ⟨(some 173), (.move (.t 172)), none⟩,
                 ⟨(some 174), (.move (.t 11)), (some (173, false))⟩,
                 ⟨(some 175), (.call (.c (.func 24 [] [])) [.t 174]), (some (173, false))⟩,
                 ⟨(some 176), (.eq (.ptr) true (.t 175) (.c (.nilPtr))), (some (173, false))⟩,
                 ⟨(some 177), (.pick (.t 173) (.c (.bool true)) (.t 176)), none⟩,
                 ⟨(some 178), (.move (.t 177)), none⟩,
                 ⟨(some 179), (.move (.t 11)), (some (178, false))⟩,
                 ⟨(some 180), (.call (.c (.func 25 [] [])) [.t 179, .c (.int (.i64) 0)]), (some (178, false))⟩,
                 ⟨(some 181), (.eq (.ptr) true (.t 180) (.c (.nilPtr))), (some (178, false))⟩,
                 ⟨(some 182), (.pick (.t 178) (.c (.bool true)) (.t 181)), none⟩,
                 ⟨(some 183), (.move (.t 182)), none⟩,
                 ⟨(some 184), (.move (.t 11)), (some (183, false))⟩,
                 ⟨(some 185), (.call (.c (.func 26 [] [])) [.t 184, .c (.int (.i64) 0)]), (some (183, false))⟩,
                 ⟨(some 186), (.eq (.ptr) true (.t 185) (.c (.nilPtr))), (some (183, false))⟩,
                 ⟨(some 187), (.pick (.t 183) (.c (.bool true)) (.t 186)), none⟩])
               (.cond (.t 187) (.seq (.region [⟨(some 10), (.move (.c (.bool false))), none⟩])
                 (.ret))
                (.skip)))
              (.seq (.region [⟨(some 189), (.move (.t 0)), none⟩,
                 ⟨(some 190), (.move (.t 1)), none⟩,
                 ⟨(some 191), (.move (.t 2)), none⟩,
                 ⟨(some 192), (.move (.t 3)), none⟩,
                 ⟨(some 193), (.call (.c (.func 27 [] [])) [.t 189, .t 190, .t 191, .t 192, .c (.bool true)]), none⟩,
                 ⟨(some 188), (.move (.t 193)), none⟩,
                 ⟨(some 194), (.extract (.t 188) 0), none⟩,
                 ⟨(some 195), (.extract (.t 188) 1), none⟩,
                 ⟨(some 37), (.move (.t 194)), none⟩,
                 ⟨(some 38), (.move (.t 195)), none⟩])
               (.seq (.region [⟨(some 197), (.move (.t 0)), none⟩,
                  ⟨(some 198), (.move (.t 1)), none⟩,
                  ⟨(some 199), (.move (.t 2)), none⟩,
                  ⟨(some 200), (.move (.t 3)), none⟩,
                  ⟨(some 201), (.call (.c (.func 28 [] [])) [.t 197, .t 198, .t 199, .t 200, .c (.bool true)]), none⟩,
                  ⟨(some 196), (.move (.t 201)), none⟩,
                  ⟨(some 202), (.extract (.t 196) 0), none⟩,
                  ⟨(some 203), (.extract (.t 196) 1), none⟩,
                  ⟨(some 39), (.move (.t 202)), none⟩,
                  ⟨(some 40), (.move (.t 203)), none⟩])
                (.seq (.region [⟨(some 204), (.move (.t 38)), none⟩,
                   ⟨(some 205), (.move (.t 40)), none⟩,
                   ⟨(some 206), (.bin (.eql) (.t 204) (.t 205)), none⟩,
                   ⟨(some 207), (.move (.t 206)), none⟩,
                   ⟨(some 208), (.call (.c (.func 11 [] [])) []), (some (207, true))⟩,
                   ⟨(some 209), (.pick (.t 207) (.t 208) (.c (.bool false))), none⟩,
                   ⟨(some 10), (.move (.t 209)), none⟩])
                 (.ret)))))))))))))))))⟩
theorem ok5 : compFunc prog glb 5 p5 = some c5 := by kernel_rfl
/-- signalbox/audit.Trace -/
def p6 : List Plan := [⟨[(0, .quiet [0]), (1, .quiet [0]), (2, .quiet [0]), (3, .quiet [0]), (4, .quiet [0]), (5, .quiet [0]), (6, .quiet [0]), (10, .quiet [0]), (11, .quiet [0]), (9, .quiet [0]), (12, .quiet [0]), (13, .quiet [0]), (14, .quiet [0]), (7, .quiet [0]), (8, .quiet [0]), (15, .quiet [0]), (16, .quiet [0]), (18, .quiet [0]), (19, .quiet [0]), (17, .quiet [0]), (20, .quiet [0]), (21, .quiet [0]), (22, .quiet [0]), (23, .quiet [0]), (24, .quiet [0]), (25, .quiet [0]), (26, .quiet [0])], 0, [0, 1, 3, 7, 15, 31, 63, 127, 255, 127, 127, 1151, 3711, 7807, 15999, 32767, 65535, 131071, 131071, 393215, 1048575, 2097151, 4194303, 8388607, 16777215, 33554431, 67108863]⟩]
def c6 : CFunc := ⟨65, [.tmp 2],
 .seq (.region [⟨(some 2), (.move (.c (.bool false))), none⟩])
 (.seq (.region [⟨(some 8), (.newMap), none⟩,
    ⟨(some 3), (.move (.t 8)), none⟩])
  (.seq (.seq (.region [⟨(some 9), (.move (.t 0)), none⟩,
      ⟨(some 10), (.len (.slice) (.t 9)), none⟩,
      ⟨(some 11), (.move (.c (.int (.i64) 0))), none⟩])
    (.block 0 (.loop (.seq (.region [⟨(some 12), (.bin (.lss) (.t 11) (.t 10)), none⟩])
       (.seq (.cond (.t 12) (.skip)
         (.exit 0))
        (.seq (.block 1 (.seq (.region [⟨(some 13), (.move (.t 11)), none⟩,
             ⟨(some 14), (.indexAddr 5 (.t 9) (.t 11)), none⟩,
             ⟨(some 15), (.load true 5 (.t 14)), none⟩,
             ⟨(some 5), (.new [.int (.i64) 0, .int (.i64) 0, .int (.i64) 0, .int (.i64) 0, .int (.i64) 0]), none⟩,
             ⟨(some 4), (.move (.t 13)), none⟩,
             ⟨none, (.store 5 (.t 5) (.t 15)), none⟩])
           (.seq (.seq (.draw [⟨0, ⟨(some 16), (.fieldAddr 0 (.t 5)), none⟩, (.quiet [0])⟩,
               ⟨1, ⟨(some 17), (.load false 1 (.t 16)), none⟩, (.quiet [0])⟩,
               ⟨2, ⟨(some 18), (.bin (.lss) (.t 17) (.c (.int (.i64) 0))), none⟩, (.quiet [0])⟩,
               ⟨3, ⟨(some 19), (.move (.t 18)), none⟩, (.quiet [0])⟩,
               ⟨4, ⟨(some 20), (.move (.t 4)), (some (19, false))⟩, (.quiet [0])⟩,
               ⟨5, ⟨(some 21), (.bin (.gtr) (.t 20) (.c (.int (.i64) 0))), (some (19, false))⟩, (.quiet [0])⟩,
               ⟨6, ⟨(some 22), (.move (.t 21)), (some (19, false))⟩, (.quiet [0])⟩,
               ⟨10, ⟨(some 26), (.move (.t 4)), (some (22, true))⟩, (.quiet [0])⟩,
               ⟨11, ⟨(some 27), (.bin (.sub) (.t 26) (.c (.int (.i64) 1))), (some (22, true))⟩, (.quiet [0])⟩,
               ⟨9, ⟨(some 25), (.move (.t 0)), (some (22, true))⟩, (.quiet [0])⟩,
               ⟨12, ⟨(some 28), (.indexAddr 5 (.t 25) (.t 27)), (some (22, true))⟩, (.quiet [0])⟩,
               ⟨13, ⟨(some 29), (.fieldAddr 0 (.t 28)), (some (22, true))⟩, (.quiet [0])⟩,
               ⟨14, ⟨(some 30), (.load false 1 (.t 29)), (some (22, true))⟩, (.quiet [0])⟩,
               ⟨7, ⟨(some 23), (.fieldAddr 0 (.t 5)), (some (22, true))⟩, (.quiet [0])⟩,
               ⟨8, ⟨(some 24), (.load false 1 (.t 23)), (some (22, true))⟩, (.quiet [0])⟩,
               ⟨15, ⟨(some 31), (.bin (.lss) (.t 24) (.t 30)), (some (22, true))⟩, (.quiet [0])⟩,
               ⟨16, ⟨(some 32), (.move (.t 31)), (some (22, true))⟩, (.quiet [0])⟩,
               ⟨18, ⟨(some 34), (.move (.t 4)), (some (32, false))⟩, (.quiet [0])⟩,
               ⟨19, ⟨(some 35), (.bin (.sub) (.t 34) (.c (.int (.i64) 1))), (some (32, false))⟩, (.quiet [0])⟩,
               ⟨17, ⟨(some 33), (.move (.t 0)), (some (32, false))⟩, (.quiet [0])⟩,
               ⟨20, ⟨(some 36), (.indexAddr 5 (.t 33) (.t 35)), (some (32, false))⟩, (.quiet [0])⟩,
               ⟨21, ⟨(some 37), (.fieldAddr 1 (.t 36)), (some (32, false))⟩, (.quiet [0])⟩,
               ⟨22, ⟨(some 38), (.load false 1 (.t 37)), (some (32, false))⟩, (.quiet [0])⟩,
               ⟨23, ⟨(some 39), (.bin (.eql) (.t 38) (.c (.int (.i64) 6))), (some (32, false))⟩, (.quiet [0])⟩,
               ⟨24, ⟨(some 40), (.pick (.t 32) (.c (.bool true)) (.t 39)), (some (22, true))⟩, (.quiet [0])⟩,
               ⟨25, ⟨(some 41), (.pick (.t 22) (.t 40) (.c (.bool false))), (some (19, false))⟩, (.quiet [0])⟩,
               ⟨26, ⟨(some 42), (.pick (.t 19) (.c (.bool true)) (.t 41)), none⟩, (.quiet [0])⟩] 0)
             (.cond (.t 42) (.seq (.region [⟨(some 2), (.move (.c (.bool false))), none⟩])
               (.ret))
              (.skip)))
            (.seq (.seq (.region [⟨(some 43), (.fieldAddr 1 (.t 5)), none⟩,
                ⟨(some 44), (.load false 1 (.t 43)), none⟩,
                ⟨(some 45), (.bin (.eql) (.t 44) (.c (.int (.i64) 6))), none⟩])
              (.cond (.t 45) (.exit 1)
               (.skip)))
             (.seq (.seq (.region [⟨(some 47), (.move (.t 3)), none⟩,
                 ⟨(some 48), (.fieldAddr 2 (.t 5)), none⟩,
                 ⟨(some 49), (.load false 1 (.t 48)), none⟩,
                 ⟨(some 50), (.lookup (.one (.int)) (.agg [.int (.i64) 0, .int (.i64) 0, .int (.i64) 0, .int (.i64) 0, .int (.i64) 0]) true (.t 47) (.t 49)), none⟩,
                 ⟨(some 46), (.move (.t 50)), none⟩,
                 ⟨(some 51), (.extract (.t 46) 0), none⟩,
                 ⟨(some 52), (.extract (.t 46) 1), none⟩,
                 ⟨(some 6), (.new [.int (.i64) 0, .int (.i64) 0, .int (.i64) 0, .int (.i64) 0, .int (.i64) 0]), none⟩,
                 ⟨none, (.store 5 (.t 6) (.t 51)), none⟩,
                 ⟨(some 7), (.move (.t 52)), none⟩])
               (.seq (.region [⟨(some 53), (.move (.t 7)), none⟩,
                  ⟨(some 54), (.move (.t 53)), none⟩,
                  ⟨(some 55), (.load true 5 (.t 6)), (some (54, true))⟩,
                  ⟨(some 56), (.load true 5 (.t 5)), (some (54, true))⟩,
                  ⟨(some 57), (.call (.c (.func 29 [] [])) [.t 55, .t 56]), (some (54, true))⟩,
                  ⟨(some 58), (.un (.not) (.t 57)), (some (54, true))⟩,
                  ⟨(some 59), (.pick (.t 54) (.t 58) (.c (.bool false))), none⟩])
                (.cond (.t 59) (.seq (.region [⟨(some 2), (.move (.c (.bool false))), none⟩])
                  (.ret))
                 (.skip))))
              (.region [⟨(some 60), (.move (.t 3)), none⟩,
                ⟨(some 61), (.fieldAddr 2 (.t 5)), none⟩,
                ⟨(some 62), (.load false 1 (.t 61)), none⟩,
                ⟨(some 63), (.load true 5 (.t 5)), none⟩,
                ⟨none, (.mapUpdate (.one (.int)) (.t 60) (.t 62) (.t 63)), none⟩]))))))
         (.region [⟨(some 64), (.bin (.add) (.t 11) (.c (.int (.i64) 1))), none⟩,
           ⟨(some 11), (.move (.t 64)), none⟩])))))))
   (.seq (.region [⟨(some 2), (.move (.c (.bool true))), none⟩])
    (.ret))))⟩
theorem ok6 : compFunc prog glb 6 p6 = some c6 := by kernel_rfl
/-- signalbox/signalboxref31.Trace -/
def p7 : List Plan := [⟨[(0, .quiet [0]), (1, .quiet [0]), (2, .quiet [0]), (3, .quiet [0]), (4, .quiet [0]), (5, .quiet [0]), (6, .quiet [0]), (10, .quiet [0]), (11, .quiet [0]), (9, .quiet [0]), (12, .quiet [0]), (13, .quiet [0]), (14, .quiet [0]), (7, .quiet [0]), (8, .quiet [0]), (15, .quiet [0]), (16, .quiet [0]), (17, .quiet [0])], 0, [0, 1, 3, 7, 15, 31, 63, 127, 255, 127, 127, 1151, 3711, 7807, 15999, 32767, 65535, 131071]⟩, ⟨[(5, .quiet [0]), (6, .quiet [0]), (1, .quiet [0]), (0, .quiet [0]), (2, .quiet [0]), (3, .quiet [0]), (4, .quiet [0]), (7, .quiet [0]), (8, .quiet [0]), (9, .quiet [0]), (10, .quiet [0]), (11, .quiet [0]), (12, .quiet [0])], 0, [0, 0, 3, 7, 15, 0, 32, 127, 255, 511, 1023, 2047, 4095]⟩]
def c7 : CFunc := ⟨99, [.tmp 2],
 .seq (.region [⟨(some 2), (.move (.c (.bool false))), none⟩])
 (.seq (.seq (.region [⟨(some 3), (.move (.c (.int (.i64) 0))), none⟩])
   (.block 0 (.loop (.seq (.seq (.region [⟨(some 9), (.move (.t 3)), none⟩,
         ⟨(some 10), (.move (.t 0)), none⟩,
         ⟨(some 11), (.len (.slice) (.t 10)), none⟩,
         ⟨(some 12), (.bin (.lss) (.t 9) (.t 11)), none⟩])
       (.cond (.t 12) (.skip)
        (.exit 0)))
      (.seq (.block 1 (.seq (.region [⟨(some 15), (.move (.t 0)), none⟩,
           ⟨(some 16), (.move (.t 3)), none⟩,
           ⟨(some 17), (.indexAddr 5 (.t 15) (.t 16)), none⟩,
           ⟨(some 18), (.load true 5 (.t 17)), none⟩,
           ⟨(some 4), (.new [.int (.i64) 0, .int (.i64) 0, .int (.i64) 0, .int (.i64) 0, .int (.i64) 0]), none⟩,
           ⟨none, (.store 5 (.t 4) (.t 18)), none⟩])
         (.seq (.seq (.draw [⟨0, ⟨(some 19), (.fieldAddr 0 (.t 4)), none⟩, (.quiet [0])⟩,
             ⟨1, ⟨(some 20), (.load false 1 (.t 19)), none⟩, (.quiet [0])⟩,
             ⟨2, ⟨(some 21), (.bin (.lss) (.t 20) (.c (.int (.i64) 0))), none⟩, (.quiet [0])⟩,
             ⟨3, ⟨(some 22), (.move (.t 21)), none⟩, (.quiet [0])⟩,
             ⟨4, ⟨(some 23), (.move (.t 3)), (some (22, false))⟩, (.quiet [0])⟩,
             ⟨5, ⟨(some 24), (.bin (.gtr) (.t 23) (.c (.int (.i64) 0))), (some (22, false))⟩, (.quiet [0])⟩,
             ⟨6, ⟨(some 25), (.move (.t 24)), (some (22, false))⟩, (.quiet [0])⟩,
             ⟨10, ⟨(some 29), (.move (.t 3)), (some (25, true))⟩, (.quiet [0])⟩,
             ⟨11, ⟨(some 30), (.bin (.sub) (.t 29) (.c (.int (.i64) 1))), (some (25, true))⟩, (.quiet [0])⟩,
             ⟨9, ⟨(some 28), (.move (.t 0)), (some (25, true))⟩, (.quiet [0])⟩,
             ⟨12, ⟨(some 31), (.indexAddr 5 (.t 28) (.t 30)), (some (25, true))⟩, (.quiet [0])⟩,
             ⟨13, ⟨(some 32), (.fieldAddr 0 (.t 31)), (some (25, true))⟩, (.quiet [0])⟩,
             ⟨14, ⟨(some 33), (.load false 1 (.t 32)), (some (25, true))⟩, (.quiet [0])⟩,
             ⟨7, ⟨(some 26), (.fieldAddr 0 (.t 4)), (some (25, true))⟩, (.quiet [0])⟩,
             ⟨8, ⟨(some 27), (.load false 1 (.t 26)), (some (25, true))⟩, (.quiet [0])⟩,
             ⟨15, ⟨(some 34), (.bin (.lss) (.t 27) (.t 33)), (some (25, true))⟩, (.quiet [0])⟩,
             ⟨16, ⟨(some 35), (.pick (.t 25) (.t 34) (.c (.bool false))), (some (22, false))⟩, (.quiet [0])⟩,
             ⟨17, ⟨(some 36), (.pick (.t 22) (.c (.bool true)) (.t 35)), none⟩, (.quiet [0])⟩] 0)
           (.cond (.t 36) (.seq (.region [⟨(some 2), (.move (.c (.bool false))), none⟩])
             (.ret))
            (.skip)))
          (.seq (.region [⟨(some 5), (.move (.c (.int (.i64) (-1)))), none⟩])
           (.seq (.seq (.region [⟨(some 6), (.move (.c (.int (.i64) 0))), none⟩])
             (.block 2 (.loop (.seq (.seq (.region [⟨(some 37), (.move (.t 6)), none⟩,
                   ⟨(some 38), (.move (.t 3)), none⟩,
                   ⟨(some 39), (.bin (.lss) (.t 37) (.t 38)), none⟩])
                 (.cond (.t 39) (.skip)
                  (.exit 2)))
                (.seq (.block 3 (.seq (.seq (.region [⟨(some 42), (.move (.t 0)), none⟩,
                      ⟨(some 43), (.move (.t 6)), none⟩,
                      ⟨(some 44), (.indexAddr 5 (.t 42) (.t 43)), none⟩,
                      ⟨(some 45), (.fieldAddr 1 (.t 44)), none⟩,
                      ⟨(some 46), (.load false 1 (.t 45)), none⟩,
                      ⟨(some 47), (.bin (.eql) (.t 46) (.c (.int (.i64) 6))), none⟩])
                    (.cond (.t 47) (.seq (.region [⟨(some 2), (.move (.c (.bool false))), none⟩])
                      (.ret))
                     (.skip)))
                   (.seq (.draw [⟨5, ⟨(some 53), (.fieldAddr 2 (.t 4)), none⟩, (.quiet [0])⟩,
                      ⟨6, ⟨(some 54), (.load false 1 (.t 53)), none⟩, (.quiet [0])⟩,
                      ⟨1, ⟨(some 49), (.move (.t 6)), none⟩, (.quiet [0])⟩,
                      ⟨0, ⟨(some 48), (.move (.t 0)), none⟩, (.quiet [0])⟩,
                      ⟨2, ⟨(some 50), (.indexAddr 5 (.t 48) (.t 49)), none⟩, (.quiet [0])⟩,
                      ⟨3, ⟨(some 51), (.fieldAddr 2 (.t 50)), none⟩, (.quiet [0])⟩,
                      ⟨4, ⟨(some 52), (.load false 1 (.t 51)), none⟩, (.quiet [0])⟩,
                      ⟨7, ⟨(some 55), (.bin (.eql) (.t 52) (.t 54)), none⟩, (.quiet [0])⟩,
                      ⟨8, ⟨(some 56), (.move (.t 55)), none⟩, (.quiet [0])⟩,
                      ⟨9, ⟨(some 57), (.fieldAddr 1 (.t 4)), (some (56, true))⟩, (.quiet [0])⟩,
                      ⟨10, ⟨(some 58), (.load false 1 (.t 57)), (some (56, true))⟩, (.quiet [0])⟩,
                      ⟨11, ⟨(some 59), (.bin (.neq) (.t 58) (.c (.int (.i64) 6))), (some (56, true))⟩, (.quiet [0])⟩,
                      ⟨12, ⟨(some 60), (.pick (.t 56) (.t 59) (.c (.bool false))), none⟩, (.quiet [0])⟩] 0)
                    (.cond (.t 60) (.region [⟨(some 61), (.move (.t 6)), none⟩,
                       ⟨(some 5), (.move (.t 61)), none⟩])
                     (.skip)))))
                 (.region [⟨(some 40), (.move (.t 6)), none⟩,
                   ⟨(some 41), (.bin (.add) (.t 40) (.c (.int (.i64) 1))), none⟩,
                   ⟨(some 6), (.move (.t 41)), none⟩]))))))
            (.seq (.seq (.region [⟨(some 62), (.move (.t 5)), none⟩,
                ⟨(some 63), (.bin (.lss) (.t 62) (.c (.int (.i64) 0))), none⟩])
              (.cond (.t 63) (.exit 1)
               (.skip)))
             (.seq (.region [⟨(some 64), (.move (.t 0)), none⟩,
                ⟨(some 65), (.move (.t 5)), none⟩,
                ⟨(some 66), (.indexAddr 5 (.t 64) (.t 65)), none⟩,
                ⟨(some 67), (.load true 5 (.t 66)), none⟩,
                ⟨(some 7), (.new [.int (.i64) 0, .int (.i64) 0, .int (.i64) 0, .int (.i64) 0, .int (.i64) 0]), none⟩,
                ⟨none, (.store 5 (.t 7) (.t 67)), none⟩])
              (.seq (.region [⟨(some 68), (.fieldAddr 1 (.t 7)), none⟩,
                 ⟨(some 69), (.load false 1 (.t 68)), none⟩,
                 ⟨(some 70), (.bin (.eql) (.t 69) (.c (.int (.i64) 2))), none⟩,
                 ⟨(some 71), (.move (.t 70)), none⟩,
                 ⟨(some 72), (.fieldAddr 3 (.t 7)), (some (71, true))⟩,
                 ⟨(some 73), (.load false 1 (.t 72)), (some (71, true))⟩,
                 ⟨(some 74), (.bin (.eql) (.t 73) (.c (.int (.i64) 4))), (some (71, true))⟩,
                 ⟨(some 75), (.pick (.t 71) (.t 74) (.c (.bool false))), none⟩,
                 ⟨(some 8), (.move (.t 75)), none⟩])
               (.seq (.region [⟨(some 76), (.fieldAddr 1 (.t 7)), none⟩,
                  ⟨(some 77), (.load false 1 (.t 76)), none⟩,
                  ⟨(some 78), (.bin (.eql) (.t 77) (.c (.int (.i64) 5))), none⟩,
                  ⟨(some 79), (.move (.t 78)), none⟩,
                  ⟨(some 80), (.fieldAddr 1 (.t 7)), (some (79, false))⟩,
                  ⟨(some 81), (.load false 1 (.t 80)), (some (79, false))⟩,
                  ⟨(some 82), (.bin (.eql) (.t 81) (.c (.int (.i64) 4))), (some (79, false))⟩,
                  ⟨(some 83), (.pick (.t 79) (.c (.bool true)) (.t 82)), none⟩,
                  ⟨(some 84), (.move (.t 83)), none⟩,
                  ⟨(some 85), (.move (.t 8)), (some (84, false))⟩,
                  ⟨(some 86), (.move (.t 85)), (some (84, false))⟩,
                  ⟨(some 87), (.fieldAddr 1 (.t 4)), (some (86, true))⟩,
                  ⟨(some 88), (.load false 1 (.t 87)), (some (86, true))⟩,
                  ⟨(some 89), (.bin (.neq) (.t 88) (.c (.int (.i64) 3))), (some (86, true))⟩,
                  ⟨(some 90), (.move (.t 89)), (some (86, true))⟩,
                  ⟨(some 91), (.fieldAddr 3 (.t 4)), (some (90, false))⟩,
                  ⟨(some 92), (.load false 1 (.t 91)), (some (90, false))⟩,
                  ⟨(some 93), (.fieldAddr 4 (.t 7)), (some (90, false))⟩,
                  ⟨(some 94), (.load false 1 (.t 93)), (some (90, false))⟩,
                  ⟨(some 95), (.bin (.neq) (.t 92) (.t 94)), (some (90, false))⟩,
                  ⟨(some 96), (.pick (.t 90) (.c (.bool true)) (.t 95)), (some (86, true))⟩,
                  ⟨(some 97), (.pick (.t 86) (.t 96) (.c (.bool false))), (some (84, false))⟩,
                  ⟨(some 98), (.pick (.t 84) (.c (.bool true)) (.t 97)), none⟩])
                (.cond (.t 98) (.seq (.region [⟨(some 2), (.move (.c (.bool false))), none⟩])
                  (.ret))
                 (.skip)))))))))))
       (.region [⟨(some 13), (.move (.t 3)), none⟩,
         ⟨(some 14), (.bin (.add) (.t 13) (.c (.int (.i64) 1))), none⟩,
         ⟨(some 3), (.move (.t 14)), none⟩]))))))
  (.seq (.region [⟨(some 2), (.move (.c (.bool true))), none⟩])
   (.ret)))⟩
theorem ok7 : compFunc prog glb 7 p7 = some c7 := by kernel_rfl
/-- signalbox/signalboxlaw32.awake -/
def p8 : List Plan := [⟨[(0, .eff), (1, .quiet [0, 1]), (2, .quiet [0, 1]), (3, .eff), (4, .quiet [0, 1, 4]), (5, .quiet [0, 1, 4]), (6, .quiet [0, 1, 4]), (7, .alloc 0), (8, .eff), (9, .quiet [9])], 1, [0, 0, 2, 7, 0, 16, 48, 112, 255, 511]⟩]
def c8 : CFunc := ⟨67, [.tmp 0],
 .seq (.region [⟨(some 0), (.move (.c (.bool false))), none⟩])
 (.seq (.region [⟨(some 6), (.buildSlice [.int (.i64) 0] 1 [(0, 1, .c (.int (.i64) 1))]), none⟩,
    ⟨(some 7), (.buildSlice [.int (.i64) 0] 1 [(0, 1, .c (.int (.i64) 2))]), none⟩,
    ⟨(some 8), (.call (.c (.func 27 [] [])) [.t 6, .c (.int (.i64) 1), .t 7, .c (.int (.i64) 3), .c (.bool true)]), none⟩,
    ⟨(some 5), (.move (.t 8)), none⟩,
    ⟨(some 9), (.extract (.t 5) 0), none⟩,
    ⟨(some 10), (.extract (.t 5) 1), none⟩,
    ⟨(some 1), (.move (.t 9)), none⟩,
    ⟨(some 2), (.move (.t 10)), none⟩])
  (.seq (.seq (.region [⟨(some 11), (.move (.t 2)), none⟩,
      ⟨(some 12), (.bin (.neq) (.t 11) (.c (.int (.i64) 0))), none⟩,
      ⟨(some 13), (.move (.t 12)), none⟩,
      ⟨(some 14), (.move (.t 1)), (some (13, false))⟩,
      ⟨(some 15), (.eq (.ptr) false (.t 14) (.c (.nilPtr))), (some (13, false))⟩,
      ⟨(some 16), (.pick (.t 13) (.c (.bool true)) (.t 15)), none⟩])
    (.cond (.t 16) (.seq (.region [⟨(some 0), (.move (.c (.bool false))), none⟩])
      (.ret))
     (.skip)))
   (.seq (.region [⟨(some 17), (.move (.t 1)), none⟩,
      ⟨(some 18), (.buildSlice [.int (.i64) 0] 1 [(0, 1, .c (.int (.i64) 1))]), none⟩,
      ⟨(some 19), (.call (.c (.func 12 [] [])) [.t 17, .t 18]), none⟩])
    (.seq (.region [⟨(some 20), (.build [.int (.i64) 0, .int (.i64) 0, .int (.i64) 0, .int (.i64) 0, .int (.i64) 0] [(0, 1, .c (.int (.i64) 1)), (1, 1, .c (.int (.i64) 2)), (2, 1, .c (.int (.i64) 2)), (3, 1, .c (.int (.i64) 4)), (4, 1, .c (.int (.i64) 3))]), none⟩,
       ⟨(some 21), (.build [.int (.i64) 0, .int (.i64) 0, .int (.i64) 0, .int (.i64) 0, .int (.i64) 0] [(0, 1, .c (.int (.i64) 2)), (1, 1, .c (.int (.i64) 3)), (2, 1, .c (.int (.i64) 2)), (3, 1, .c (.int (.i64) 3))]), none⟩,
       ⟨(some 22), (.build [.int (.i64) 0, .int (.i64) 0, .int (.i64) 0, .int (.i64) 0, .int (.i64) 0] [(0, 1, .c (.int (.i64) 3)), (1, 1, .c (.int (.i64) 5)), (2, 1, .c (.int (.i64) 2))]), none⟩,
       ⟨(some 23), (.buildSlice [.int (.i64) 0, .int (.i64) 0, .int (.i64) 0, .int (.i64) 0, .int (.i64) 0] 3 [(0, 5, .t 20), (5, 5, .t 21), (10, 5, .t 22)]), none⟩,
       ⟨(some 3), (.move (.t 23)), none⟩])
     (.seq (.draw [⟨0, ⟨(some 24), (.buildSlice [.int (.i64) 0, .int (.i64) 0, .int (.i64) 0, .int (.i64) 0, .int (.i64) 0] 0 []), none⟩, (.eff)⟩,
        ⟨1, ⟨(some 25), (.move (.t 3)), none⟩, (.quiet [0, 1])⟩,
        ⟨2, ⟨(some 26), (.slice 5 (.t 25) none (some (.c (.int (.i64) 1))) none), none⟩, (.quiet [0, 1])⟩,
        ⟨3, ⟨(some 27), (.append 5 40 (.t 24) (.t 26)), none⟩, (.eff)⟩,
        ⟨4, ⟨(some 28), (.move (.t 3)), none⟩, (.quiet [0, 1, 4])⟩,
        ⟨5, ⟨(some 29), (.indexAddr 5 (.t 28) (.c (.int (.i64) 2))), none⟩, (.quiet [0, 1, 4])⟩,
        ⟨6, ⟨(some 30), (.load true 5 (.t 29)), none⟩, (.quiet [0, 1, 4])⟩,
        ⟨7, ⟨(some 31), (.buildSlice [.int (.i64) 0, .int (.i64) 0, .int (.i64) 0, .int (.i64) 0, .int (.i64) 0] 1 [(0, 5, .t 30)]), none⟩, (.alloc 0)⟩,
        ⟨8, ⟨(some 32), (.append 5 40 (.t 27) (.t 31)), none⟩, (.eff)⟩,
        ⟨9, ⟨(some 4), (.move (.t 32)), none⟩, (.quiet [9])⟩] 1)
      (.seq (.region [⟨(some 33), (.move (.t 1)), none⟩,
         ⟨(some 34), (.buildSlice [.int (.i64) 0] 1 [(0, 1, .c (.int (.i64) 2))]), none⟩,
         ⟨(some 35), (.call (.c (.func 9 [] [])) [.t 33, .t 34, .c (.bool true)]), none⟩,
         ⟨(some 36), (.len (.slice) (.t 35)), none⟩,
         ⟨(some 37), (.bin (.eql) (.t 36) (.c (.int (.i64) 0))), none⟩,
         ⟨(some 38), (.move (.t 37)), none⟩,
         ⟨(some 39), (.move (.t 1)), (some (38, true))⟩,
         ⟨(some 40), (.buildSlice [.int (.i64) 0] 1 [(0, 1, .c (.int (.i64) 3))]), (some (38, true))⟩,
         ⟨(some 41), (.call (.c (.func 9 [] [])) [.t 39, .t 40, .c (.bool true)]), (some (38, true))⟩,
         ⟨(some 42), (.buildSlice [.int (.i64) 0] 1 [(0, 1, .c (.int (.i64) 1))]), (some (38, true))⟩,
         ⟨(some 43), (.call (.c (.func 30 [] [])) [.t 41, .t 42]), (some (38, true))⟩,
         ⟨(some 44), (.pick (.t 38) (.t 43) (.c (.bool false))), none⟩,
         ⟨(some 45), (.move (.t 44)), none⟩,
         ⟨(some 46), (.move (.t 3)), (some (45, true))⟩,
         ⟨(some 47), (.call (.c (.func 6 [] [])) [.t 46]), (some (45, true))⟩,
         ⟨(some 48), (.pick (.t 45) (.t 47) (.c (.bool false))), none⟩,
         ⟨(some 49), (.move (.t 48)), none⟩,
         ⟨(some 50), (.move (.t 4)), (some (49, true))⟩,
         ⟨(some 51), (.call (.c (.func 6 [] [])) [.t 50]), (some (49, true))⟩,
         ⟨(some 52), (.un (.not) (.t 51)), (some (49, true))⟩,
         ⟨(some 53), (.pick (.t 49) (.t 52) (.c (.bool false))), none⟩,
         ⟨(some 54), (.move (.t 53)), none⟩,
         ⟨(some 55), (.build [.int (.i64) 0, .int (.i64) 0, .int (.i64) 0, .int (.i64) 0, .int (.i64) 0] [(0, 1, .c (.int (.i64) 1))]), (some (54, true))⟩,
         ⟨(some 56), (.build [.int (.i64) 0, .int (.i64) 0, .int (.i64) 0, .int (.i64) 0, .int (.i64) 0] [(0, 1, .c (.int (.i64) 0))]), (some (54, true))⟩,
         ⟨(some 57), (.buildSlice [.int (.i64) 0, .int (.i64) 0, .int (.i64) 0, .int (.i64) 0, .int (.i64) 0] 2 [(0, 5, .t 55), (5, 5, .t 56)]), (some (54, true))⟩,
         ⟨(some 58), (.call (.c (.func 6 [] [])) [.t 57]), (some (54, true))⟩,
         ⟨(some 59), (.un (.not) (.t 58)), (some (54, true))⟩,
         ⟨(some 60), (.pick (.t 54) (.t 59) (.c (.bool false))), none⟩,
         ⟨(some 61), (.move (.t 60)), none⟩,
         ⟨(some 62), (.move (.t 1)), (some (61, true))⟩,
         ⟨(some 63), (.call (.c (.func 10 [] [])) [.t 62]), (some (61, true))⟩,
         ⟨(some 64), (.len (.slice) (.t 63)), (some (61, true))⟩,
         ⟨(some 65), (.bin (.eql) (.t 64) (.c (.int (.i64) 0))), (some (61, true))⟩,
         ⟨(some 66), (.pick (.t 61) (.t 65) (.c (.bool false))), none⟩,
         ⟨(some 0), (.move (.t 66)), none⟩])
       (.ret)))))))⟩
theorem ok8 : compFunc prog glb 8 p8 = some c8 := by kernel_rfl
/-- signalbox/audit.Check -/
def p9 : List Plan := []
def c9 : CFunc := ⟨30, [.cell 6 false 1],
 .seq (.region [⟨(some 6), (.new [.nilSlice]), none⟩])
 (.seq (.seq (.region [⟨(some 10), (.move (.t 0)), none⟩,
     ⟨(some 11), (.eq (.ptr) false (.t 10) (.c (.nilPtr))), none⟩])
   (.cond (.t 11) (.seq (.region [⟨none, (.store 1 (.t 6) (.c (.nilSlice))), none⟩])
     (.ret))
    (.skip)))
  (.seq (.region [⟨(some 12), (.move (.t 0)), none⟩,
     ⟨(some 13), (.move (.t 1)), none⟩,
     ⟨(some 14), (.move (.t 2)), none⟩,
     ⟨(some 15), (.build [.nilPtr, .nilSlice, .bool false] [(0, 1, .t 12), (1, 1, .t 13), (2, 1, .t 14)]), none⟩,
     ⟨(some 7), (.new [.nilPtr, .nilSlice, .bool false]), none⟩,
     ⟨none, (.store 3 (.t 7) (.t 15)), none⟩])
   (.seq (.seq (.region [⟨(some 16), (.buildSlice [.nilFunc] 6 [(0, 1, .c (.func 32 [] [])), (1, 1, .c (.func 33 [] [])), (2, 1, .c (.func 34 [] [])), (3, 1, .c (.func 35 [] [])), (4, 1, .c (.func 36 [] [])), (5, 1, .c (.func 37 [] []))]), none⟩,
       ⟨(some 17), (.call (.c (.func 31 [] [])) [.t 16]), none⟩])
     (.block 0 (.rangeF 9 0 2 (.t 17))))
    (.seq (.region [⟨(some 29), (.load false 1 (.t 6)), none⟩,
       ⟨none, (.store 1 (.t 6) (.t 29)), none⟩])
     (.ret)))))⟩
theorem ok9 : compFunc prog glb 9 p9 = some c9 := by kernel_rfl
def pr9_0 : List Plan := []
def r9_0 : RoundC := ⟨[18, 19],
 (.seq (.region [⟨(some 8), (.move (.t 18)), none⟩])
 (.region [⟨(some 9), (.move (.t 19)), none⟩])),
 (.block 1 (.seq (.region [⟨(some 20), (.move (.t 9)), none⟩,
    ⟨(some 21), (.load true 3 (.t 7)), none⟩,
    ⟨(some 22), (.call (.t 20) [.t 21]), none⟩,
    ⟨(some 23), (.un (.not) (.t 22)), none⟩])
  (.cond (.t 23) (.region [⟨(some 24), (.load false 1 (.t 6)), none⟩,
     ⟨(some 25), (.move (.t 8)), none⟩,
     ⟨(some 26), (.bin (.add) (.t 25) (.c (.int (.i64) 1))), none⟩,
     ⟨(some 27), (.buildSlice [.int (.i64) 0] 1 [(0, 1, .t 26)]), none⟩,
     ⟨(some 28), (.append 1 8 (.t 24) (.t 27)), none⟩,
     ⟨none, (.store 1 (.t 6) (.t 28)), none⟩])
   (.skip))))⟩
theorem okr9_0 : compRound prog glb 9 0 pr9_0 = some r9_0 := by kernel_rfl
/-- signalbox/audit.Deadlocks -/
def p10 : List Plan := []
def c10 : CFunc := ⟨6, [.tmp 2],
 .seq (.region [⟨(some 2), (.move (.c (.nilSlice))), none⟩])
 (.seq (.region [⟨(some 3), (.move (.t 0)), none⟩,
    ⟨(some 4), (.call (.c (.func 24 [] [])) [.t 3]), none⟩,
    ⟨(some 5), (.call (.c (.func 38 [] [])) [.t 4]), none⟩,
    ⟨(some 2), (.move (.t 5)), none⟩])
  (.ret))⟩
theorem ok10 : compFunc prog glb 10 p10 = some c10 := by kernel_rfl
/-- signalbox/signalboxlaw18.awake -/
def p11 : List Plan := []
def c11 : CFunc := ⟨218, [.tmp 0],
 .seq (.region [⟨(some 0), (.move (.c (.bool false))), none⟩])
 (.seq (.region [⟨(some 33), (.buildSlice [.int (.i64) 0] 1 [(0, 1, .c (.int (.i64) 0))]), none⟩,
    ⟨(some 34), (.buildSlice [.int (.i64) 0] 1 [(0, 1, .c (.int (.i64) 2))]), none⟩,
    ⟨(some 35), (.call (.c (.func 27 [] [])) [.t 33, .c (.int (.i64) 1), .t 34, .c (.int (.i64) 3), .c (.bool true)]), none⟩,
    ⟨(some 32), (.move (.t 35)), none⟩,
    ⟨(some 36), (.extract (.t 32) 0), none⟩,
    ⟨(some 37), (.extract (.t 32) 1), none⟩,
    ⟨(some 1), (.move (.t 36)), none⟩,
    ⟨(some 2), (.move (.t 37)), none⟩])
  (.seq (.region [⟨(some 39), (.buildSlice [.int (.i64) 0] 1 [(0, 1, .c (.int (.i64) (-1)))]), none⟩,
     ⟨(some 40), (.call (.c (.func 27 [] [])) [.t 39, .c (.int (.i64) 1), .c (.nilSlice), .c (.int (.i64) 3), .c (.bool true)]), none⟩,
     ⟨(some 38), (.move (.t 40)), none⟩,
     ⟨(some 41), (.extract (.t 38) 0), none⟩,
     ⟨(some 42), (.extract (.t 38) 1), none⟩,
     ⟨(some 3), (.move (.t 41)), none⟩,
     ⟨(some 4), (.move (.t 42)), none⟩])
   (.seq (.seq (.region [⟨(some 43), (.move (.t 2)), none⟩,
       ⟨(some 44), (.bin (.neq) (.t 43) (.c (.int (.i64) 0))), none⟩,
       ⟨(some 45), (.move (.t 44)), none⟩,
       ⟨(some 46), (.move (.t 4)), (some (45, false))⟩,
       ⟨(some 47), (.bin (.neq) (.t 46) (.c (.int (.i64) 1))), (some (45, false))⟩,
       ⟨(some 48), (.pick (.t 45) (.c (.bool true)) (.t 47)), none⟩,
       ⟨(some 49), (.move (.t 48)), none⟩,
       ⟨(some 50), (.move (.t 1)), (some (49, false))⟩,
       ⟨(some 51), (.eq (.ptr) false (.t 50) (.c (.nilPtr))), (some (49, false))⟩,
       ⟨(some 52), (.pick (.t 49) (.c (.bool true)) (.t 51)), none⟩,
       ⟨(some 53), (.move (.t 52)), none⟩,
       ⟨(some 54), (.move (.t 1)), (some (53, false))⟩,
       ⟨(some 55), (.call (.c (.func 23 [] [])) [.t 54]), (some (53, false))⟩,
       ⟨(some 56), (.eq (.ptr) false (.t 55) (.c (.nilPtr))), (some (53, false))⟩,
       ⟨(some 57), (.pick (.t 53) (.c (.bool true)) (.t 56)), none⟩,
       ⟨(some 58), (.move (.t 57)), none⟩,
       ⟨(some 59), (.move (.t 1)), (some (58, false))⟩,
       ⟨(some 60), (.call (.c (.func 24 [] [])) [.t 59]), (some (58, false))⟩,
       ⟨(some 61), (.eq (.ptr) false (.t 60) (.c (.nilPtr))), (some (58, false))⟩,
       ⟨(some 62), (.pick (.t 58) (.c (.bool true)) (.t 61)), none⟩,
       ⟨(some 63), (.move (.t 62)), none⟩,
       ⟨(some 64), (.move (.t 1)), (some (63, false))⟩,
       ⟨(some 65), (.call (.c (.func 25 [] [])) [.t 64, .c (.int (.i64) 0)]), (some (63, false))⟩,
       ⟨(some 66), (.eq (.ptr) false (.t 65) (.c (.nilPtr))), (some (63, false))⟩,
       ⟨(some 67), (.pick (.t 63) (.c (.bool true)) (.t 66)), none⟩,
       ⟨(some 68), (.move (.t 67)), none⟩,
       ⟨(some 69), (.move (.t 1)), (some (68, false))⟩,
       ⟨(some 70), (.call (.c (.func 25 [] [])) [.t 69, .c (.int (.i64) 1)]), (some (68, false))⟩,
       ⟨(some 71), (.eq (.ptr) true (.t 70) (.c (.nilPtr))), (some (68, false))⟩,
       ⟨(some 72), (.pick (.t 68) (.c (.bool true)) (.t 71)), none⟩,
       ⟨(some 73), (.move (.t 72)), none⟩,
       ⟨(some 74), (.move (.t 1)), (some (73, false))⟩,
       ⟨(some 75), (.call (.c (.func 26 [] [])) [.t 74, .c (.int (.i64) 1)]), (some (73, false))⟩,
       ⟨(some 76), (.eq (.ptr) true (.t 75) (.c (.nilPtr))), (some (73, false))⟩,
       ⟨(some 77), (.pick (.t 73) (.c (.bool true)) (.t 76)), none⟩])
     (.cond (.t 77) (.seq (.region [⟨(some 0), (.move (.c (.bool false))), none⟩])
       (.ret))
      (.skip)))
    (.seq (.region [⟨(some 79), (.move (.t 1)), none⟩,
       ⟨(some 80), (.buildSlice [.int (.i64) 0] 1 [(0, 1, .c (.int (.i64) 2))]), none⟩,
       ⟨(some 81), (.call (.c (.func 12 [] [])) [.t 79, .t 80]), none⟩,
       ⟨(some 78), (.move (.t 81)), none⟩,
       ⟨(some 82), (.extract (.t 78) 0), none⟩,
       ⟨(some 83), (.extract (.t 78) 1), none⟩,
       ⟨(some 5), (.move (.t 82)), none⟩,
       ⟨(some 6), (.move (.t 83)), none⟩])
     (.seq (.region [⟨(some 85), (.move (.t 1)), none⟩,
        ⟨(some 86), (.buildSlice [.int (.i64) 0] 1 [(0, 1, .c (.int (.i64) 2))]), none⟩,
        ⟨(some 87), (.call (.c (.func 12 [] [])) [.t 85, .t 86]), none⟩,
        ⟨(some 84), (.move (.t 87)), none⟩,
        ⟨(some 88), (.extract (.t 84) 0), none⟩,
        ⟨(some 89), (.extract (.t 84) 1), none⟩,
        ⟨(some 7), (.move (.t 88)), none⟩,
        ⟨(some 8), (.move (.t 89)), none⟩])
      (.seq (.region [⟨(some 91), (.move (.t 1)), none⟩,
         ⟨(some 92), (.buildSlice [.int (.i64) 0] 1 [(0, 1, .c (.int (.i64) 1))]), none⟩,
         ⟨(some 93), (.call (.c (.func 13 [] [])) [.t 91, .c (.int (.i64) 1), .t 92]), none⟩,
         ⟨(some 90), (.move (.t 93)), none⟩,
         ⟨(some 94), (.extract (.t 90) 0), none⟩,
         ⟨(some 95), (.extract (.t 90) 1), none⟩,
         ⟨(some 96), (.extract (.t 90) 2), none⟩,
         ⟨(some 9), (.move (.t 94)), none⟩,
         ⟨(some 10), (.move (.t 95)), none⟩,
         ⟨(some 11), (.move (.t 96)), none⟩])
       (.seq (.region [⟨(some 98), (.move (.t 1)), none⟩,
          ⟨(some 99), (.buildSlice [.int (.i64) 0] 1 [(0, 1, .c (.int (.i64) 3))]), none⟩,
          ⟨(some 100), (.call (.c (.func 13 [] [])) [.t 98, .c (.int (.i64) 1), .t 99]), none⟩,
          ⟨(some 97), (.move (.t 100)), none⟩,
          ⟨(some 101), (.extract (.t 97) 0), none⟩,
          ⟨(some 102), (.extract (.t 97) 1), none⟩,
          ⟨(some 103), (.extract (.t 97) 2), none⟩,
          ⟨(some 12), (.move (.t 101)), none⟩,
          ⟨(some 13), (.move (.t 102)), none⟩,
          ⟨(some 14), (.move (.t 103)), none⟩])
        (.seq (.region [⟨(some 105), (.move (.t 1)), none⟩,
           ⟨(some 106), (.call (.c (.func 15 [] [])) [.t 105, .c (.int (.i64) 2), .c (.int (.i64) 0)]), none⟩,
           ⟨(some 104), (.move (.t 106)), none⟩,
           ⟨(some 107), (.extract (.t 104) 0), none⟩,
           ⟨(some 108), (.extract (.t 104) 1), none⟩,
           ⟨(some 109), (.extract (.t 104) 2), none⟩,
           ⟨(some 15), (.move (.t 107)), none⟩,
           ⟨(some 16), (.move (.t 108)), none⟩,
           ⟨(some 17), (.move (.t 109)), none⟩])
         (.seq (.region [⟨(some 110), (.move (.t 1)), none⟩,
            ⟨(some 111), (.call (.c (.func 21 [] [])) [.t 110, .c (.int (.i64) 1), .c (.int (.i64) 0)]), none⟩,
            ⟨(some 18), (.move (.t 111)), none⟩])
          (.seq (.region [⟨(some 113), (.move (.t 1)), none⟩,
             ⟨(some 114), (.call (.c (.func 16 [] [])) [.t 113, .c (.int (.i64) 1), .c (.int (.i64) 0)]), none⟩,
             ⟨(some 112), (.move (.t 114)), none⟩,
             ⟨(some 115), (.extract (.t 112) 0), none⟩,
             ⟨(some 116), (.extract (.t 112) 1), none⟩,
             ⟨(some 117), (.extract (.t 112) 2), none⟩,
             ⟨(some 19), (.move (.t 115)), none⟩,
             ⟨(some 20), (.move (.t 116)), none⟩,
             ⟨(some 21), (.move (.t 117)), none⟩])
           (.seq (.region [⟨(some 119), (.move (.t 1)), none⟩,
              ⟨(some 120), (.call (.c (.func 16 [] [])) [.t 119, .c (.int (.i64) 1), .c (.int (.i64) 0)]), none⟩,
              ⟨(some 118), (.move (.t 120)), none⟩,
              ⟨(some 121), (.extract (.t 118) 0), none⟩,
              ⟨(some 122), (.extract (.t 118) 1), none⟩,
              ⟨(some 123), (.extract (.t 118) 2), none⟩,
              ⟨(some 22), (.move (.t 121)), none⟩,
              ⟨(some 23), (.move (.t 122)), none⟩,
              ⟨(some 24), (.move (.t 123)), none⟩])
            (.seq (.region [⟨(some 124), (.move (.t 1)), none⟩,
               ⟨(some 125), (.call (.c (.func 22 [] [])) [.t 124, .c (.int (.i64) 2), .c (.int (.i64) 0)]), none⟩,
               ⟨(some 25), (.move (.t 125)), none⟩])
             (.seq (.region [⟨(some 127), (.move (.t 1)), none⟩,
                ⟨(some 128), (.buildSlice [.int (.i64) 0] 1 [(0, 1, .c (.int (.i64) 1))]), none⟩,
                ⟨(some 129), (.call (.c (.func 18 [] [])) [.t 127, .c (.int (.i64) 2), .t 128]), none⟩,
                ⟨(some 126), (.move (.t 129)), none⟩,
                ⟨(some 130), (.extract (.t 126) 0), none⟩,
                ⟨(some 131), (.extract (.t 126) 1), none⟩,
                ⟨(some 132), (.extract (.t 126) 2), none⟩,
                ⟨(some 26), (.move (.t 130)), none⟩,
                ⟨(some 27), (.move (.t 131)), none⟩,
                ⟨(some 28), (.move (.t 132)), none⟩])
              (.seq (.region [⟨(some 134), (.move (.t 1)), none⟩,
                 ⟨(some 135), (.buildSlice [.int (.i64) 0] 1 [(0, 1, .c (.int (.i64) 1))]), none⟩,
                 ⟨(some 136), (.call (.c (.func 18 [] [])) [.t 134, .c (.int (.i64) 2), .t 135]), none⟩,
                 ⟨(some 133), (.move (.t 136)), none⟩,
                 ⟨(some 137), (.extract (.t 133) 0), none⟩,
                 ⟨(some 138), (.extract (.t 133) 1), none⟩,
                 ⟨(some 139), (.extract (.t 133) 2), none⟩,
                 ⟨(some 29), (.move (.t 137)), none⟩,
                 ⟨(some 30), (.move (.t 138)), none⟩,
                 ⟨(some 31), (.move (.t 139)), none⟩])
               (.seq (.region [⟨(some 140), (.move (.t 6)), none⟩,
                  ⟨(some 141), (.bin (.eql) (.t 140) (.c (.int (.i64) 0))), none⟩,
                  ⟨(some 142), (.move (.t 141)), none⟩,
                  ⟨(some 143), (.move (.t 8)), (some (142, true))⟩,
                  ⟨(some 144), (.bin (.eql) (.t 143) (.c (.int (.i64) 4))), (some (142, true))⟩,
                  ⟨(some 145), (.pick (.t 142) (.t 144) (.c (.bool false))), none⟩,
                  ⟨(some 146), (.move (.t 145)), none⟩,
                  ⟨(some 147), (.move (.t 9)), (some (146, true))⟩,
                  ⟨(some 148), (.bin (.eql) (.t 147) (.c (.int (.i64) 2))), (some (146, true))⟩,
                  ⟨(some 149), (.pick (.t 146) (.t 148) (.c (.bool false))), none⟩,
                  ⟨(some 150), (.move (.t 149)), none⟩,
                  ⟨(some 151), (.move (.t 11)), (some (150, true))⟩,
                  ⟨(some 152), (.bin (.eql) (.t 151) (.c (.int (.i64) 0))), (some (150, true))⟩,
                  ⟨(some 153), (.pick (.t 150) (.t 152) (.c (.bool false))), none⟩,
                  ⟨(some 154), (.move (.t 153)), none⟩,
                  ⟨(some 155), (.move (.t 12)), (some (154, true))⟩,
                  ⟨(some 156), (.bin (.eql) (.t 155) (.c (.int (.i64) 3))), (some (154, true))⟩,
                  ⟨(some 157), (.pick (.t 154) (.t 156) (.c (.bool false))), none⟩,
                  ⟨(some 158), (.move (.t 157)), none⟩,
                  ⟨(some 159), (.move (.t 14)), (some (158, true))⟩,
                  ⟨(some 160), (.bin (.eql) (.t 159) (.c (.int (.i64) 0))), (some (158, true))⟩,
                  ⟨(some 161), (.pick (.t 158) (.t 160) (.c (.bool false))), none⟩,
                  ⟨(some 162), (.move (.t 161)), none⟩,
                  ⟨(some 163), (.move (.t 13)), (some (162, true))⟩,
                  ⟨(some 164), (.build [.int (.i64) 0, .int (.i64) 0, .int (.i64) 0, .int (.i64) 0, .int (.i64) 0] [(1, 1, .c (.int (.i64) 4)), (2, 1, .c (.int (.i64) 3)), (3, 1, .c (.int (.i64) 35))]), (some (162, true))⟩,
                  ⟨(some 165), (.buildSlice [.int (.i64) 0, .int (.i64) 0, .int (.i64) 0, .int (.i64) 0, .int (.i64) 0] 1 [(0, 5, .t 164)]), (some (162, true))⟩,
                  ⟨(some 166), (.call (.c (.func 39 [] [])) [.t 163, .t 165]), (some (162, true))⟩,
                  ⟨(some 167), (.pick (.t 162) (.t 166) (.c (.bool false))), none⟩,
                  ⟨(some 168), (.move (.t 167)), none⟩,
                  ⟨(some 169), (.move (.t 15)), (some (168, true))⟩,
                  ⟨(some 170), (.un (.not) (.t 169)), (some (168, true))⟩,
                  ⟨(some 171), (.pick (.t 168) (.t 170) (.c (.bool false))), none⟩,
                  ⟨(some 172), (.move (.t 171)), none⟩,
                  ⟨(some 173), (.move (.t 17)), (some (172, true))⟩,
                  ⟨(some 174), (.bin (.eql) (.t 173) (.c (.int (.i64) 0))), (some (172, true))⟩,
                  ⟨(some 175), (.pick (.t 172) (.t 174) (.c (.bool false))), none⟩,
                  ⟨(some 176), (.move (.t 175)), none⟩,
                  ⟨(some 177), (.move (.t 16)), (some (176, true))⟩,
                  ⟨(some 178), (.build [.int (.i64) 0, .int (.i64) 0, .int (.i64) 0, .int (.i64) 0, .int (.i64) 0] [(1, 1, .c (.int (.i64) 2)), (2, 1, .c (.int (.i64) 2)), (3, 1, .c (.int (.i64) 1))]), (some (176, true))⟩,
                  ⟨(some 179), (.buildSlice [.int (.i64) 0, .int (.i64) 0, .int (.i64) 0, .int (.i64) 0, .int (.i64) 0] 1 [(0, 5, .t 178)]), (some (176, true))⟩,
                  ⟨(some 180), (.call (.c (.func 39 [] [])) [.t 177, .t 179]), (some (176, true))⟩,
                  ⟨(some 181), (.pick (.t 176) (.t 180) (.c (.bool false))), none⟩,
                  ⟨(some 182), (.move (.t 181)), none⟩,
                  ⟨(some 183), (.move (.t 18)), (some (182, true))⟩,
                  ⟨(some 184), (.bin (.eql) (.t 183) (.c (.int (.i64) 0))), (some (182, true))⟩,
                  ⟨(some 185), (.pick (.t 182) (.t 184) (.c (.bool false))), none⟩,
                  ⟨(some 186), (.move (.t 185)), none⟩,
                  ⟨(some 187), (.move (.t 19)), (some (186, true))⟩,
                  ⟨(some 188), (.pick (.t 186) (.t 187) (.c (.bool false))), none⟩,
                  ⟨(some 189), (.move (.t 188)), none⟩,
                  ⟨(some 190), (.move (.t 21)), (some (189, true))⟩,
                  ⟨(some 191), (.bin (.eql) (.t 190) (.c (.int (.i64) 0))), (some (189, true))⟩,
                  ⟨(some 192), (.pick (.t 189) (.t 191) (.c (.bool false))), none⟩,
                  ⟨(some 193), (.move (.t 192)), none⟩,
                  ⟨(some 194), (.move (.t 24)), (some (193, true))⟩,
                  ⟨(some 195), (.bin (.eql) (.t 194) (.c (.int (.i64) 38))), (some (193, true))⟩,
                  ⟨(some 196), (.pick (.t 193) (.t 195) (.c (.bool false))), none⟩,
                  ⟨(some 197), (.move (.t 196)), none⟩,
                  ⟨(some 198), (.move (.t 25)), (some (197, true))⟩,
                  ⟨(some 199), (.bin (.eql) (.t 198) (.c (.int (.i64) 38))), (some (197, true))⟩,
                  ⟨(some 200), (.pick (.t 197) (.t 199) (.c (.bool false))), none⟩,
                  ⟨(some 201), (.move (.t 200)), none⟩,
                  ⟨(some 202), (.move (.t 26)), (some (201, true))⟩,
                  ⟨(some 203), (.pick (.t 201) (.t 202) (.c (.bool false))), none⟩,
                  ⟨(some 204), (.move (.t 203)), none⟩,
                  ⟨(some 205), (.move (.t 28)), (some (204, true))⟩,
                  ⟨(some 206), (.bin (.eql) (.t 205) (.c (.int (.i64) 0))), (some (204, true))⟩,
                  ⟨(some 207), (.pick (.t 204) (.t 206) (.c (.bool false))), none⟩,
                  ⟨(some 208), (.move (.t 207)), none⟩,
                  ⟨(some 209), (.move (.t 27)), (some (208, true))⟩,
                  ⟨(some 210), (.build [.int (.i64) 0, .int (.i64) 0, .int (.i64) 0, .int (.i64) 0, .int (.i64) 0] [(1, 1, .c (.int (.i64) 3)), (2, 1, .c (.int (.i64) 2)), (3, 1, .c (.int (.i64) 1))]), (some (208, true))⟩,
                  ⟨(some 211), (.buildSlice [.int (.i64) 0, .int (.i64) 0, .int (.i64) 0, .int (.i64) 0, .int (.i64) 0] 1 [(0, 5, .t 210)]), (some (208, true))⟩,
                  ⟨(some 212), (.call (.c (.func 39 [] [])) [.t 209, .t 211]), (some (208, true))⟩,
                  ⟨(some 213), (.pick (.t 208) (.t 212) (.c (.bool false))), none⟩,
                  ⟨(some 214), (.move (.t 213)), none⟩,
                  ⟨(some 215), (.move (.t 31)), (some (214, true))⟩,
                  ⟨(some 216), (.bin (.eql) (.t 215) (.c (.int (.i64) 35))), (some (214, true))⟩,
                  ⟨(some 217), (.pick (.t 214) (.t 216) (.c (.bool false))), none⟩,
                  ⟨(some 0), (.move (.t 217)), none⟩])
                (.ret))))))))))))))))⟩
theorem ok11 : compFunc prog glb 11 p11 = some c11 := by kernel_rfl
/-- (*signalbox/kernel.Kernel).Start -/
def p12 : List Plan := []
def c12 : CFunc := ⟨33, [.cell 4 false 1, .tmp 5],
 .seq (.region [⟨(some 2), (.box (.t 0)), none⟩,
   ⟨(some 4), (.new [.nilSlice]), none⟩,
   ⟨(some 5), (.move (.c (.int (.i64) 0))), none⟩])
 (.seq (.block 0 (.seq (.region [⟨(some 7), (.load false 1 (.t 2)), none⟩,
      ⟨(some 8), (.eq (.ptr) false (.t 7) (.c (.nilPtr))), none⟩,
      ⟨(some 9), (.move (.t 8)), none⟩,
      ⟨(some 10), (.load false 1 (.t 2)), (some (9, false))⟩,
      ⟨(some 11), (.nilCheck (.t 10)), (some (9, false))⟩,
      ⟨(some 12), (.fieldAddr 0 (.t 11)), (some (9, false))⟩,
      ⟨(some 13), (.load false 1 (.t 12)), (some (9, false))⟩,
      ⟨(some 14), (.call (.c (.func 40 [] [])) [.t 13]), (some (9, false))⟩,
      ⟨(some 15), (.bin (.gtr) (.t 14) (.c (.int (.i64) 0))), (some (9, false))⟩,
      ⟨(some 16), (.pick (.t 9) (.c (.bool true)) (.t 15)), none⟩,
      ⟨(some 6), (.move (.t 16)), none⟩])
    (.cond (.t 6) (.seq (.region [⟨none, (.store 1 (.t 4) (.c (.nilSlice))), none⟩,
        ⟨(some 5), (.move (.c (.int (.i64) 4))), none⟩])
      (.ret))
     (.seq (.region [⟨(some 18), (.move (.t 1)), none⟩,
        ⟨(some 19), (.load false 1 (.t 2)), none⟩,
        ⟨(some 20), (.nilCheck (.t 19)), none⟩,
        ⟨(some 21), (.fieldAddr 4 (.t 20)), none⟩,
        ⟨(some 22), (.load false 1 (.t 21)), none⟩,
        ⟨(some 23), (.call (.c (.func 41 [] [])) [.t 18, .t 22]), none⟩,
        ⟨(some 24), (.un (.not) (.t 23)), none⟩,
        ⟨(some 17), (.move (.t 24)), none⟩])
      (.cond (.t 17) (.seq (.region [⟨none, (.store 1 (.t 4) (.c (.nilSlice))), none⟩,
          ⟨(some 5), (.move (.c (.int (.i64) 1))), none⟩])
        (.ret))
       (.skip))))))
  (.seq (.region [⟨(some 25), (.func 42 [] [.t 2, .t 4]), none⟩,
     ⟨none, (.defer (.t 25) []), none⟩])
   (.seq (.region [⟨(some 27), (.load false 1 (.t 2)), none⟩,
      ⟨(some 28), (.move (.t 1)), none⟩,
      ⟨(some 29), (.call (.c (.func 44 [] [])) [.t 27, .c (.int (.i64) 0), .t 28]), none⟩,
      ⟨(some 26), (.move (.t 29)), none⟩,
      ⟨(some 30), (.extract (.t 26) 0), none⟩,
      ⟨(some 31), (.extract (.t 26) 1), none⟩,
      ⟨(some 5), (.move (.t 31)), none⟩])
    (.seq (.region [⟨(some 32), (.move (.t 5)), none⟩,
       ⟨none, (.store 1 (.t 4) (.c (.nilSlice))), none⟩,
       ⟨(some 5), (.move (.t 32)), none⟩])
     (.ret)))))⟩
theorem ok12 : compFunc prog glb 12 p12 = some c12 := by kernel_rfl
/-- (*signalbox/kernel.Kernel).Fork -/
def p13 : List Plan := []
def c13 : CFunc := ⟨41, [.tmp 6, .cell 7 false 1, .tmp 8],
 .seq (.region [⟨(some 3), (.box (.t 0)), none⟩,
   ⟨(some 6), (.move (.c (.int (.i64) 0))), none⟩,
   ⟨(some 7), (.new [.nilSlice]), none⟩,
   ⟨(some 8), (.move (.c (.int (.i64) 0))), none⟩])
 (.seq (.block 0 (.seq (.region [⟨(some 10), (.load false 1 (.t 3)), none⟩,
      ⟨(some 11), (.move (.t 1)), none⟩,
      ⟨(some 12), (.call (.c (.func 45 [] [])) [.t 10, .t 11]), none⟩,
      ⟨(some 13), (.un (.not) (.t 12)), none⟩,
      ⟨(some 9), (.move (.t 13)), none⟩])
    (.cond (.t 9) (.seq (.region [⟨(some 6), (.move (.c (.int (.i64) 0))), none⟩,
        ⟨none, (.store 1 (.t 7) (.c (.nilSlice))), none⟩,
        ⟨(some 8), (.move (.c (.int (.i64) 4))), none⟩])
      (.ret))
     (.seq (.region [⟨(some 15), (.move (.t 2)), none⟩,
        ⟨(some 16), (.load false 1 (.t 3)), none⟩,
        ⟨(some 17), (.nilCheck (.t 16)), none⟩,
        ⟨(some 18), (.fieldAddr 4 (.t 17)), none⟩,
        ⟨(some 19), (.load false 1 (.t 18)), none⟩,
        ⟨(some 20), (.call (.c (.func 41 [] [])) [.t 15, .t 19]), none⟩,
        ⟨(some 21), (.un (.not) (.t 20)), none⟩,
        ⟨(some 14), (.move (.t 21)), none⟩])
      (.cond (.t 14) (.seq (.region [⟨(some 6), (.move (.c (.int (.i64) 0))), none⟩,
          ⟨none, (.store 1 (.t 7) (.c (.nilSlice))), none⟩,
          ⟨(some 8), (.move (.c (.int (.i64) 1))), none⟩])
        (.ret))
       (.seq (.region [⟨(some 23), (.load false 1 (.t 3)), none⟩,
          ⟨(some 24), (.nilCheck (.t 23)), none⟩,
          ⟨(some 25), (.fieldAddr 1 (.t 24)), none⟩,
          ⟨(some 26), (.load false 1 (.t 25)), none⟩,
          ⟨(some 27), (.move (.t 1)), none⟩,
          ⟨(some 28), (.call (.c (.func 47 [] [])) [.t 26, .t 27]), none⟩,
          ⟨(some 29), (.call (.c (.func 46 [] [])) [.t 28]), none⟩,
          ⟨(some 30), (.un (.not) (.t 29)), none⟩,
          ⟨(some 22), (.move (.t 30)), none⟩])
        (.cond (.t 22) (.seq (.region [⟨(some 6), (.move (.c (.int (.i64) 0))), none⟩,
            ⟨none, (.store 1 (.t 7) (.c (.nilSlice))), none⟩,
            ⟨(some 8), (.move (.c (.int (.i64) 37))), none⟩])
          (.ret))
         (.skip))))))))
  (.seq (.region [⟨(some 31), (.func 48 [] [.t 3, .t 7]), none⟩,
     ⟨none, (.defer (.t 31) []), none⟩])
   (.seq (.region [⟨(some 33), (.load false 1 (.t 3)), none⟩,
      ⟨(some 34), (.move (.t 1)), none⟩,
      ⟨(some 35), (.move (.t 2)), none⟩,
      ⟨(some 36), (.call (.c (.func 44 [] [])) [.t 33, .t 34, .t 35]), none⟩,
      ⟨(some 32), (.move (.t 36)), none⟩,
      ⟨(some 37), (.extract (.t 32) 0), none⟩,
      ⟨(some 38), (.extract (.t 32) 1), none⟩,
      ⟨(some 6), (.move (.t 37)), none⟩,
      ⟨(some 8), (.move (.t 38)), none⟩])
    (.seq (.region [⟨(some 39), (.move (.t 6)), none⟩,
       ⟨(some 40), (.move (.t 8)), none⟩,
       ⟨(some 6), (.move (.t 39)), none⟩,
       ⟨none, (.store 1 (.t 7) (.c (.nilSlice))), none⟩,
       ⟨(some 8), (.move (.t 40)), none⟩])
     (.ret)))))⟩
theorem ok13 : compFunc prog glb 13 p13 = some c13 := by kernel_rfl
/-- (*signalbox/kernel.Kernel).Join -/
def p14 : List Plan := []
def c14 : CFunc := ⟨22, [.tmp 4, .cell 5 false 1, .tmp 6],
 .seq (.region [⟨(some 2), (.box (.t 0)), none⟩,
   ⟨(some 4), (.move (.c (.bool false))), none⟩,
   ⟨(some 5), (.new [.nilSlice]), none⟩,
   ⟨(some 6), (.move (.c (.int (.i64) 0))), none⟩])
 (.seq (.seq (.region [⟨(some 7), (.load false 1 (.t 2)), none⟩,
     ⟨(some 8), (.move (.t 1)), none⟩,
     ⟨(some 9), (.call (.c (.func 45 [] [])) [.t 7, .t 8]), none⟩,
     ⟨(some 10), (.un (.not) (.t 9)), none⟩])
   (.cond (.t 10) (.seq (.region [⟨(some 4), (.move (.c (.bool false))), none⟩,
       ⟨none, (.store 1 (.t 5) (.c (.nilSlice))), none⟩,
       ⟨(some 6), (.move (.c (.int (.i64) 4))), none⟩])
     (.ret))
    (.skip)))
  (.seq (.region [⟨(some 11), (.func 49 [] [.t 2, .t 5]), none⟩,
     ⟨none, (.defer (.t 11) []), none⟩])
   (.seq (.seq (.region [⟨(some 12), (.load false 1 (.t 2)), none⟩,
       ⟨(some 13), (.nilCheck (.t 12)), none⟩,
       ⟨(some 14), (.fieldAddr 0 (.t 13)), none⟩,
       ⟨(some 15), (.load false 1 (.t 14)), none⟩,
       ⟨(some 16), (.move (.t 1)), none⟩,
       ⟨(some 17), (.call (.c (.func 50 [] [])) [.t 15, .t 16]), none⟩,
       ⟨(some 18), (.un (.not) (.t 17)), none⟩])
     (.cond (.t 18) (.seq (.region [⟨(some 19), (.load false 1 (.t 2)), none⟩,
         ⟨(some 20), (.move (.t 1)), none⟩,
         ⟨(some 21), (.call (.c (.func 51 [] [])) [.t 19, .c (.int (.i64) 2), .t 20, .c (.int (.i64) 5), .c (.int (.i64) 0)]), none⟩])
       (.seq (.region [⟨(some 4), (.move (.c (.bool false))), none⟩,
          ⟨none, (.store 1 (.t 5) (.c (.nilSlice))), none⟩,
          ⟨(some 6), (.move (.c (.int (.i64) 0))), none⟩])
        (.ret)))
      (.skip)))
    (.seq (.region [⟨(some 4), (.move (.c (.bool true))), none⟩,
       ⟨none, (.store 1 (.t 5) (.c (.nilSlice))), none⟩,
       ⟨(some 6), (.move (.c (.int (.i64) 0))), none⟩])
     (.ret)))))⟩
theorem ok14 : compFunc prog glb 14 p14 = some c14 := by kernel_rfl
/-- (*signalbox/kernel.Kernel).P -/
def p15 : List Plan := []
def c15 : CFunc := ⟨34, [.tmp 6, .cell 7 false 1, .tmp 8],
 .seq (.region [⟨(some 3), (.box (.t 0)), none⟩,
   ⟨(some 6), (.move (.c (.bool false))), none⟩,
   ⟨(some 7), (.new [.nilSlice]), none⟩,
   ⟨(some 8), (.move (.c (.int (.i64) 0))), none⟩])
 (.seq (.block 0 (.seq (.region [⟨(some 10), (.load false 1 (.t 3)), none⟩,
      ⟨(some 11), (.move (.t 1)), none⟩,
      ⟨(some 12), (.call (.c (.func 45 [] [])) [.t 10, .t 11]), none⟩,
      ⟨(some 13), (.un (.not) (.t 12)), none⟩,
      ⟨(some 9), (.move (.t 13)), none⟩])
    (.cond (.t 9) (.seq (.region [⟨(some 6), (.move (.c (.bool false))), none⟩,
        ⟨none, (.store 1 (.t 7) (.c (.nilSlice))), none⟩,
        ⟨(some 8), (.move (.c (.int (.i64) 4))), none⟩])
      (.ret))
     (.seq (.region [⟨(some 15), (.load false 1 (.t 3)), none⟩,
        ⟨(some 16), (.move (.t 2)), none⟩,
        ⟨(some 17), (.call (.c (.func 25 [] [])) [.t 15, .t 16]), none⟩,
        ⟨(some 18), (.eq (.ptr) false (.t 17) (.c (.nilPtr))), none⟩,
        ⟨(some 14), (.move (.t 18)), none⟩])
      (.cond (.t 14) (.seq (.region [⟨(some 6), (.move (.c (.bool false))), none⟩,
          ⟨none, (.store 1 (.t 7) (.c (.nilSlice))), none⟩,
          ⟨(some 8), (.move (.c (.int (.i64) 3))), none⟩])
        (.ret))
       (.skip))))))
  (.seq (.region [⟨(some 19), (.func 52 [] [.t 3, .t 7]), none⟩,
     ⟨none, (.defer (.t 19) []), none⟩])
   (.seq (.seq (.region [⟨(some 20), (.load false 1 (.t 3)), none⟩,
       ⟨(some 21), (.nilCheck (.t 20)), none⟩,
       ⟨(some 22), (.fieldAddr 2 (.t 21)), none⟩,
       ⟨(some 23), (.load false 1 (.t 22)), none⟩,
       ⟨(some 24), (.move (.t 2)), none⟩,
       ⟨(some 25), (.indexAddr 1 (.t 23) (.t 24)), none⟩,
       ⟨(some 26), (.load false 1 (.t 25)), none⟩,
       ⟨(some 27), (.move (.t 1)), none⟩,
       ⟨(some 28), (.call (.c (.func 53 [] [])) [.t 26, .t 27]), none⟩,
       ⟨(some 29), (.un (.not) (.t 28)), none⟩])
     (.cond (.t 29) (.seq (.region [⟨(some 30), (.load false 1 (.t 3)), none⟩,
         ⟨(some 31), (.move (.t 1)), none⟩,
         ⟨(some 32), (.move (.t 2)), none⟩,
         ⟨(some 33), (.call (.c (.func 54 [] [])) [.t 30, .t 31, .c (.int (.i64) 1), .t 32]), none⟩])
       (.seq (.region [⟨(some 6), (.move (.c (.bool false))), none⟩,
          ⟨none, (.store 1 (.t 7) (.c (.nilSlice))), none⟩,
          ⟨(some 8), (.move (.c (.int (.i64) 0))), none⟩])
        (.ret)))
      (.skip)))
    (.seq (.region [⟨(some 6), (.move (.c (.bool true))), none⟩,
       ⟨none, (.store 1 (.t 7) (.c (.nilSlice))), none⟩,
       ⟨(some 8), (.move (.c (.int (.i64) 0))), none⟩])
     (.ret)))))⟩
theorem ok15 : compFunc prog glb 15 p15 = some c15 := by kernel_rfl
/-- (*signalbox/kernel.Kernel).Enter -/
def p16 : List Plan := []
def c16 : CFunc := ⟨45, [.tmp 6, .cell 7 false 1, .tmp 8],
 .seq (.region [⟨(some 3), (.box (.t 0)), none⟩,
   ⟨(some 6), (.move (.c (.bool false))), none⟩,
   ⟨(some 7), (.new [.nilSlice]), none⟩,
   ⟨(some 8), (.move (.c (.int (.i64) 0))), none⟩])
 (.seq (.block 0 (.seq (.region [⟨(some 10), (.load false 1 (.t 3)), none⟩,
      ⟨(some 11), (.move (.t 1)), none⟩,
      ⟨(some 12), (.call (.c (.func 45 [] [])) [.t 10, .t 11]), none⟩,
      ⟨(some 13), (.un (.not) (.t 12)), none⟩,
      ⟨(some 9), (.move (.t 13)), none⟩])
    (.cond (.t 9) (.seq (.region [⟨(some 6), (.move (.c (.bool false))), none⟩,
        ⟨none, (.store 1 (.t 7) (.c (.nilSlice))), none⟩,
        ⟨(some 8), (.move (.c (.int (.i64) 4))), none⟩])
      (.ret))
     (.seq (.region [⟨(some 15), (.load false 1 (.t 3)), none⟩,
        ⟨(some 16), (.move (.t 2)), none⟩,
        ⟨(some 17), (.call (.c (.func 26 [] [])) [.t 15, .t 16]), none⟩,
        ⟨(some 18), (.eq (.ptr) false (.t 17) (.c (.nilPtr))), none⟩,
        ⟨(some 14), (.move (.t 18)), none⟩])
      (.cond (.t 14) (.seq (.region [⟨(some 6), (.move (.c (.bool false))), none⟩,
          ⟨none, (.store 1 (.t 7) (.c (.nilSlice))), none⟩,
          ⟨(some 8), (.move (.c (.int (.i64) 3))), none⟩])
        (.ret))
       (.seq (.region [⟨(some 20), (.load false 1 (.t 3)), none⟩,
          ⟨(some 21), (.nilCheck (.t 20)), none⟩,
          ⟨(some 22), (.fieldAddr 3 (.t 21)), none⟩,
          ⟨(some 23), (.load false 1 (.t 22)), none⟩,
          ⟨(some 24), (.move (.t 2)), none⟩,
          ⟨(some 25), (.indexAddr 1 (.t 23) (.t 24)), none⟩,
          ⟨(some 26), (.load false 1 (.t 25)), none⟩,
          ⟨(some 27), (.call (.c (.func 55 [] [])) [.t 26]), none⟩,
          ⟨(some 28), (.move (.t 1)), none⟩,
          ⟨(some 29), (.bin (.eql) (.t 27) (.t 28)), none⟩,
          ⟨(some 19), (.move (.t 29)), none⟩])
        (.cond (.t 19) (.seq (.region [⟨(some 6), (.move (.c (.bool false))), none⟩,
            ⟨none, (.store 1 (.t 7) (.c (.nilSlice))), none⟩,
            ⟨(some 8), (.move (.c (.int (.i64) 38))), none⟩])
          (.ret))
         (.skip))))))))
  (.seq (.region [⟨(some 30), (.func 56 [] [.t 3, .t 7]), none⟩,
     ⟨none, (.defer (.t 30) []), none⟩])
   (.seq (.seq (.region [⟨(some 31), (.load false 1 (.t 3)), none⟩,
       ⟨(some 32), (.nilCheck (.t 31)), none⟩,
       ⟨(some 33), (.fieldAddr 3 (.t 32)), none⟩,
       ⟨(some 34), (.load false 1 (.t 33)), none⟩,
       ⟨(some 35), (.move (.t 2)), none⟩,
       ⟨(some 36), (.indexAddr 1 (.t 34) (.t 35)), none⟩,
       ⟨(some 37), (.load false 1 (.t 36)), none⟩,
       ⟨(some 38), (.move (.t 1)), none⟩,
       ⟨(some 39), (.call (.c (.func 57 [] [])) [.t 37, .t 38]), none⟩,
       ⟨(some 40), (.un (.not) (.t 39)), none⟩])
     (.cond (.t 40) (.seq (.region [⟨(some 41), (.load false 1 (.t 3)), none⟩,
         ⟨(some 42), (.move (.t 1)), none⟩,
         ⟨(some 43), (.move (.t 2)), none⟩,
         ⟨(some 44), (.call (.c (.func 54 [] [])) [.t 41, .t 42, .c (.int (.i64) 2), .t 43]), none⟩])
       (.seq (.region [⟨(some 6), (.move (.c (.bool false))), none⟩,
          ⟨none, (.store 1 (.t 7) (.c (.nilSlice))), none⟩,
          ⟨(some 8), (.move (.c (.int (.i64) 0))), none⟩])
        (.ret)))
      (.skip)))
    (.seq (.region [⟨(some 6), (.move (.c (.bool true))), none⟩,
       ⟨none, (.store 1 (.t 7) (.c (.nilSlice))), none⟩,
       ⟨(some 8), (.move (.c (.int (.i64) 0))), none⟩])
     (.ret)))))⟩
theorem ok16 : compFunc prog glb 16 p16 = some c16 := by kernel_rfl
/-- (*signalbox/kernel.Kernel).Await -/
def p17 : List Plan := []
def c17 : CFunc := ⟨49, [.tmp 8, .cell 9 false 1, .tmp 10],
 .seq (.region [⟨(some 4), (.box (.t 0)), none⟩,
   ⟨(some 8), (.move (.c (.bool false))), none⟩,
   ⟨(some 9), (.new [.nilSlice]), none⟩,
   ⟨(some 10), (.move (.c (.int (.i64) 0))), none⟩])
 (.seq (.seq (.region [⟨(some 14), (.load false 1 (.t 4)), none⟩,
     ⟨(some 15), (.move (.t 1)), none⟩,
     ⟨(some 16), (.move (.t 2)), none⟩,
     ⟨(some 17), (.call (.c (.func 58 [] [])) [.t 14, .t 15, .t 16]), none⟩,
     ⟨(some 11), (.move (.t 17)), none⟩])
   (.seq (.region [⟨(some 18), (.move (.t 11)), none⟩,
      ⟨(some 19), (.bin (.neq) (.t 18) (.c (.int (.i64) 0))), none⟩,
      ⟨(some 20), (.move (.t 19)), none⟩,
      ⟨(some 21), (.move (.t 3)), (some (20, false))⟩,
      ⟨(some 22), (.pick (.t 20) (.c (.bool true)) (.t 21)), none⟩])
    (.cond (.t 22) (.seq (.region [⟨(some 23), (.move (.t 11)), none⟩,
        ⟨(some 24), (.bin (.eql) (.t 23) (.c (.int (.i64) 0))), none⟩,
        ⟨(some 25), (.move (.t 11)), none⟩,
        ⟨(some 8), (.move (.t 24)), none⟩,
        ⟨none, (.store 1 (.t 9) (.c (.nilSlice))), none⟩,
        ⟨(some 10), (.move (.t 25)), none⟩])
      (.ret))
     (.skip))))
  (.seq (.region [⟨(some 26), (.func 59 [] [.t 4, .t 9]), none⟩,
     ⟨none, (.defer (.t 26) []), none⟩])
   (.seq (.region [⟨(some 28), (.load false 1 (.t 4)), none⟩,
      ⟨(some 29), (.nilCheck (.t 28)), none⟩,
      ⟨(some 30), (.fieldAddr 3 (.t 29)), none⟩,
      ⟨(some 31), (.load false 1 (.t 30)), none⟩,
      ⟨(some 32), (.move (.t 2)), none⟩,
      ⟨(some 33), (.indexAddr 1 (.t 31) (.t 32)), none⟩,
      ⟨(some 34), (.load false 1 (.t 33)), none⟩,
      ⟨(some 35), (.move (.t 1)), none⟩,
      ⟨(some 36), (.call (.c (.func 60 [] [])) [.t 34, .t 35]), none⟩,
      ⟨(some 27), (.move (.t 36)), none⟩,
      ⟨(some 37), (.extract (.t 27) 0), none⟩,
      ⟨(some 38), (.extract (.t 27) 1), none⟩,
      ⟨(some 12), (.move (.t 37)), none⟩,
      ⟨(some 13), (.move (.t 38)), none⟩])
    (.seq (.region [⟨(some 39), (.load false 1 (.t 4)), none⟩,
       ⟨(some 40), (.move (.t 1)), none⟩,
       ⟨(some 41), (.move (.t 2)), none⟩,
       ⟨(some 42), (.call (.c (.func 54 [] [])) [.t 39, .t 40, .c (.int (.i64) 3), .t 41]), none⟩])
     (.seq (.region [⟨(some 43), (.load false 1 (.t 4)), none⟩,
        ⟨(some 44), (.nilCheck (.t 43)), none⟩,
        ⟨(some 45), (.fieldAddr 0 (.t 44)), none⟩,
        ⟨(some 46), (.load false 1 (.t 45)), none⟩,
        ⟨(some 47), (.move (.t 12)), none⟩,
        ⟨(some 48), (.call (.c (.func 61 [] [])) [.t 46, .t 47]), none⟩])
      (.seq (.region [⟨(some 8), (.move (.c (.bool false))), none⟩,
         ⟨none, (.store 1 (.t 9) (.c (.nilSlice))), none⟩,
         ⟨(some 10), (.move (.c (.int (.i64) 0))), none⟩])
       (.ret)))))))⟩
theorem ok17 : compFunc prog glb 17 p17 = some c17 := by kernel_rfl
/-- (*signalbox/kernel.Kernel).Request -/
def p18 : List Plan := [⟨[(2, .quiet [0]), (3, .eff), (1, .quiet [0, 2]), (0, .quiet [0, 2]), (4, .eff)], 0, [0, 0, 0, 4, 15]⟩, ⟨[(2, .quiet [0]), (3, .eff), (1, .quiet [0, 2]), (0, .quiet [0, 2]), (4, .eff)], 0, [0, 0, 0, 4, 15]⟩]
def c18 : CFunc := ⟨42, [.tmp 6, .cell 7 false 1, .tmp 8],
 .seq (.region [⟨(some 3), (.box (.t 0)), none⟩,
   ⟨(some 6), (.move (.c (.bool false))), none⟩,
   ⟨(some 7), (.new [.nilSlice]), none⟩,
   ⟨(some 8), (.move (.c (.int (.i64) 0))), none⟩])
 (.seq (.seq (.region [⟨(some 10), (.load false 1 (.t 3)), none⟩,
     ⟨(some 11), (.move (.t 1)), none⟩,
     ⟨(some 12), (.call (.c (.func 45 [] [])) [.t 10, .t 11]), none⟩,
     ⟨(some 13), (.un (.not) (.t 12)), none⟩])
   (.cond (.t 13) (.seq (.region [⟨(some 6), (.move (.c (.bool false))), none⟩,
       ⟨none, (.store 1 (.t 7) (.c (.nilSlice))), none⟩,
       ⟨(some 8), (.move (.c (.int (.i64) 4))), none⟩])
     (.ret))
    (.skip)))
  (.seq (.region [⟨(some 15), (.load false 1 (.t 3)), none⟩,
     ⟨(some 16), (.nilCheck (.t 15)), none⟩,
     ⟨(some 17), (.fieldAddr 1 (.t 16)), none⟩,
     ⟨(some 18), (.load false 1 (.t 17)), none⟩,
     ⟨(some 19), (.move (.t 1)), none⟩,
     ⟨(some 20), (.move (.t 2)), none⟩,
     ⟨(some 21), (.call (.c (.func 62 [] [])) [.t 18, .t 19, .t 20]), none⟩,
     ⟨(some 14), (.move (.t 21)), none⟩,
     ⟨(some 22), (.extract (.t 14) 0), none⟩,
     ⟨(some 23), (.extract (.t 14) 1), none⟩,
     ⟨(some 9), (.move (.t 22)), none⟩,
     ⟨(some 8), (.move (.t 23)), none⟩])
   (.seq (.seq (.region [⟨(some 24), (.move (.t 8)), none⟩,
       ⟨(some 25), (.bin (.neq) (.t 24) (.c (.int (.i64) 0))), none⟩])
     (.cond (.t 25) (.seq (.region [⟨(some 26), (.move (.t 8)), none⟩,
         ⟨(some 6), (.move (.c (.bool false))), none⟩,
         ⟨none, (.store 1 (.t 7) (.c (.nilSlice))), none⟩,
         ⟨(some 8), (.move (.t 26)), none⟩])
       (.ret))
      (.skip)))
    (.seq (.region [⟨(some 27), (.func 63 [] [.t 3, .t 7]), none⟩,
       ⟨none, (.defer (.t 27) []), none⟩])
     (.seq (.seq (.region [⟨(some 28), (.move (.t 9)), none⟩,
         ⟨(some 29), (.move (.t 1)), none⟩,
         ⟨(some 30), (.call (.c (.func 64 [] [])) [.t 28, .t 29]), none⟩,
         ⟨(some 31), (.un (.not) (.t 30)), none⟩])
       (.cond (.t 31) (.seq (.draw [⟨2, ⟨(some 34), (.move (.t 2)), none⟩, (.quiet [0])⟩,
           ⟨3, ⟨(some 35), (.call (.c (.func 65 [] [])) [.t 34]), none⟩, (.eff)⟩,
           ⟨1, ⟨(some 33), (.move (.t 1)), none⟩, (.quiet [0, 2])⟩,
           ⟨0, ⟨(some 32), (.load false 1 (.t 3)), none⟩, (.quiet [0, 2])⟩,
           ⟨4, ⟨(some 36), (.call (.c (.func 54 [] [])) [.t 32, .t 33, .c (.int (.i64) 4), .t 35]), none⟩, (.eff)⟩] 0)
         (.seq (.region [⟨(some 6), (.move (.c (.bool false))), none⟩,
            ⟨none, (.store 1 (.t 7) (.c (.nilSlice))), none⟩,
            ⟨(some 8), (.move (.c (.int (.i64) 0))), none⟩])
          (.ret)))
        (.skip)))
      (.seq (.draw [⟨2, ⟨(some 39), (.move (.t 2)), none⟩, (.quiet [0])⟩,
         ⟨3, ⟨(some 40), (.call (.c (.func 65 [] [])) [.t 39]), none⟩, (.eff)⟩,
         ⟨1, ⟨(some 38), (.move (.t 1)), none⟩, (.quiet [0, 2])⟩,
         ⟨0, ⟨(some 37), (.load false 1 (.t 3)), none⟩, (.quiet [0, 2])⟩,
         ⟨4, ⟨(some 41), (.call (.c (.func 51 [] [])) [.t 37, .c (.int (.i64) 3), .t 38, .t 40, .c (.int (.i64) 0)]), none⟩, (.eff)⟩] 0)
       (.seq (.region [⟨(some 6), (.move (.c (.bool true))), none⟩,
          ⟨none, (.store 1 (.t 7) (.c (.nilSlice))), none⟩,
          ⟨(some 8), (.move (.c (.int (.i64) 0))), none⟩])
        (.ret))))))))⟩
theorem ok18 : compFunc prog glb 18 p18 = some c18 := by kernel_rfl
/-- (*signalbox/kernel.Kernel).Release -/
def p19 : List Plan := [⟨[(1, .eff), (0, .quiet [0, 1]), (2, .eff)], 0, [0, 0, 3]⟩]
def c19 : CFunc := ⟨35, [.cell 6 false 1, .cell 7 false 1],
 .seq (.region [⟨(some 3), (.box (.t 0)), none⟩,
   ⟨(some 6), (.new [.nilSlice]), none⟩,
   ⟨(some 7), (.new [.int (.i64) 0]), none⟩])
 (.seq (.seq (.region [⟨(some 10), (.load false 1 (.t 3)), none⟩,
     ⟨(some 11), (.move (.t 1)), none⟩,
     ⟨(some 12), (.call (.c (.func 45 [] [])) [.t 10, .t 11]), none⟩,
     ⟨(some 13), (.un (.not) (.t 12)), none⟩])
   (.cond (.t 13) (.seq (.region [⟨none, (.store 1 (.t 6) (.c (.nilSlice))), none⟩,
       ⟨none, (.store 1 (.t 7) (.c (.int (.i64) 4))), none⟩])
     (.ret))
    (.skip)))
  (.seq (.region [⟨(some 14), (.func 66 [] [.t 7, .t 3, .t 6]), none⟩,
     ⟨none, (.defer (.t 14) []), none⟩])
   (.seq (.region [⟨(some 15), (.load false 1 (.t 3)), none⟩,
      ⟨(some 16), (.nilCheck (.t 15)), none⟩,
      ⟨(some 17), (.fieldAddr 1 (.t 16)), none⟩,
      ⟨(some 18), (.load false 1 (.t 17)), none⟩,
      ⟨(some 19), (.call (.c (.func 67 [] [])) [.t 18]), none⟩,
      ⟨(some 8), (.move (.t 19)), none⟩])
    (.seq (.region [⟨(some 21), (.load false 1 (.t 3)), none⟩,
       ⟨(some 22), (.nilCheck (.t 21)), none⟩,
       ⟨(some 23), (.fieldAddr 1 (.t 22)), none⟩,
       ⟨(some 24), (.load false 1 (.t 23)), none⟩,
       ⟨(some 25), (.move (.t 1)), none⟩,
       ⟨(some 26), (.move (.t 2)), none⟩,
       ⟨(some 27), (.call (.c (.func 68 [] [])) [.t 24, .t 25, .t 26]), none⟩,
       ⟨(some 20), (.move (.t 27)), none⟩,
       ⟨(some 28), (.extract (.t 20) 0), none⟩,
       ⟨(some 29), (.extract (.t 20) 1), none⟩,
       ⟨(some 9), (.move (.t 28)), none⟩,
       ⟨none, (.store 1 (.t 7) (.t 29)), none⟩])
     (.seq (.region [⟨(some 30), (.load false 1 (.t 3)), none⟩,
        ⟨(some 31), (.move (.t 8)), none⟩,
        ⟨(some 32), (.move (.t 9)), none⟩,
        ⟨(some 33), (.call (.c (.func 69 [] [])) [.t 30, .t 31, .t 32]), none⟩])
      (.seq (.draw [⟨1, ⟨none, (.store 1 (.t 6) (.c (.nilSlice))), none⟩, (.eff)⟩,
         ⟨0, ⟨(some 34), (.load false 1 (.t 7)), none⟩, (.quiet [0, 1])⟩,
         ⟨2, ⟨none, (.store 1 (.t 7) (.t 34)), none⟩, (.eff)⟩] 0)
       (.ret)))))))⟩
theorem ok19 : compFunc prog glb 19 p19 = some c19 := by kernel_rfl
/-- (*signalbox/kernel.Kernel).End -/
def p20 : List Plan := [⟨[(1, .eff), (0, .quiet [0, 1]), (2, .eff)], 0, [0, 0, 3]⟩]
def c20 : CFunc := ⟨81, [.cell 6 false 1, .cell 7 false 1],
 .seq (.region [⟨(some 3), (.box (.t 0)), none⟩,
   ⟨(some 6), (.new [.nilSlice]), none⟩,
   ⟨(some 7), (.new [.bool false]), none⟩])
 (.seq (.seq (.region [⟨(some 15), (.load false 1 (.t 3)), none⟩,
     ⟨(some 16), (.move (.t 1)), none⟩,
     ⟨(some 17), (.call (.c (.func 45 [] [])) [.t 15, .t 16]), none⟩,
     ⟨(some 18), (.un (.not) (.t 17)), none⟩])
   (.cond (.t 18) (.seq (.region [⟨none, (.store 1 (.t 6) (.c (.nilSlice))), none⟩,
       ⟨none, (.store 1 (.t 7) (.c (.bool false))), none⟩])
     (.ret))
    (.skip)))
  (.seq (.region [⟨(some 19), (.func 70 [] [.t 7, .t 3, .t 6]), none⟩,
     ⟨none, (.defer (.t 19) []), none⟩])
   (.seq (.seq (.region [⟨(some 20), (.move (.t 2)), none⟩,
       ⟨(some 21), (.bin (.eql) (.t 20) (.c (.int (.i64) 0))), none⟩])
     (.cond (.t 21) (.region [⟨(some 22), (.load false 1 (.t 3)), none⟩,
        ⟨(some 23), (.move (.t 1)), none⟩,
        ⟨(some 24), (.call (.c (.func 51 [] [])) [.t 22, .c (.int (.i64) 5), .t 23, .c (.int (.i64) 0), .c (.int (.i64) 0)]), none⟩])
      (.region [⟨(some 25), (.load false 1 (.t 3)), none⟩,
        ⟨(some 26), (.move (.t 1)), none⟩,
        ⟨(some 27), (.move (.t 2)), none⟩,
        ⟨(some 28), (.call (.c (.func 51 [] [])) [.t 25, .c (.int (.i64) 4), .t 26, .t 27, .c (.int (.i64) 0)]), none⟩])))
    (.seq (.seq (.region [⟨(some 29), (.load false 1 (.t 3)), none⟩,
        ⟨(some 30), (.nilCheck (.t 29)), none⟩,
        ⟨(some 31), (.fieldAddr 3 (.t 30)), none⟩,
        ⟨(some 32), (.load false 1 (.t 31)), none⟩,
        ⟨(some 33), (.len (.slice) (.t 32)), none⟩,
        ⟨(some 34), (.move (.c (.int (.i64) 0))), none⟩])
      (.block 0 (.loop (.seq (.region [⟨(some 35), (.bin (.lss) (.t 34) (.t 33)), none⟩])
         (.seq (.cond (.t 35) (.skip)
           (.exit 0))
          (.seq (.block 1 (.seq (.region [⟨(some 36), (.indexAddr 1 (.t 32) (.t 34)), none⟩,
               ⟨(some 37), (.load false 1 (.t 36)), none⟩,
               ⟨(some 9), (.move (.t 37)), none⟩])
             (.seq (.region [⟨(some 39), (.move (.t 9)), none⟩,
                ⟨(some 40), (.move (.t 1)), none⟩,
                ⟨(some 41), (.call (.c (.func 71 [] [])) [.t 39, .t 40]), none⟩,
                ⟨(some 38), (.move (.t 41)), none⟩,
                ⟨(some 42), (.extract (.t 38) 0), none⟩,
                ⟨(some 43), (.extract (.t 38) 1), none⟩,
                ⟨(some 10), (.move (.t 42)), none⟩,
                ⟨(some 11), (.move (.t 43)), none⟩])
              (.seq (.region [⟨(some 44), (.move (.t 11)), none⟩])
               (.cond (.t 44) (.region [⟨(some 45), (.load false 1 (.t 3)), none⟩,
                  ⟨(some 46), (.nilCheck (.t 45)), none⟩,
                  ⟨(some 47), (.fieldAddr 0 (.t 46)), none⟩,
                  ⟨(some 48), (.load false 1 (.t 47)), none⟩,
                  ⟨(some 49), (.move (.t 10)), none⟩,
                  ⟨(some 50), (.call (.c (.func 61 [] [])) [.t 48, .t 49]), none⟩])
                (.skip))))))
           (.region [⟨(some 51), (.bin (.add) (.t 34) (.c (.int (.i64) 1))), none⟩,
             ⟨(some 34), (.move (.t 51)), none⟩])))))))
     (.seq (.region [⟨(some 52), (.load false 1 (.t 3)), none⟩,
        ⟨(some 53), (.nilCheck (.t 52)), none⟩,
        ⟨(some 54), (.fieldAddr 1 (.t 53)), none⟩,
        ⟨(some 55), (.load false 1 (.t 54)), none⟩,
        ⟨(some 56), (.call (.c (.func 67 [] [])) [.t 55]), none⟩,
        ⟨(some 12), (.move (.t 56)), none⟩])
      (.seq (.region [⟨(some 58), (.load false 1 (.t 3)), none⟩,
         ⟨(some 59), (.nilCheck (.t 58)), none⟩,
         ⟨(some 60), (.fieldAddr 1 (.t 59)), none⟩,
         ⟨(some 61), (.load false 1 (.t 60)), none⟩,
         ⟨(some 62), (.move (.t 1)), none⟩,
         ⟨(some 63), (.call (.c (.func 72 [] [])) [.t 61, .t 62]), none⟩,
         ⟨(some 57), (.move (.t 63)), none⟩,
         ⟨(some 64), (.extract (.t 57) 0), none⟩,
         ⟨(some 65), (.extract (.t 57) 1), none⟩,
         ⟨(some 13), (.move (.t 64)), none⟩,
         ⟨(some 14), (.move (.t 65)), none⟩])
       (.seq (.region [⟨(some 66), (.load false 1 (.t 3)), none⟩,
          ⟨(some 67), (.move (.t 12)), none⟩,
          ⟨(some 68), (.move (.t 13)), none⟩,
          ⟨(some 69), (.call (.c (.func 69 [] [])) [.t 66, .t 67, .t 68]), none⟩])
        (.seq (.region [⟨(some 71), (.load false 1 (.t 3)), none⟩,
           ⟨(some 72), (.nilCheck (.t 71)), none⟩,
           ⟨(some 73), (.fieldAddr 0 (.t 72)), none⟩,
           ⟨(some 74), (.load false 1 (.t 73)), none⟩,
           ⟨(some 75), (.move (.t 1)), none⟩,
           ⟨(some 76), (.move (.t 2)), none⟩,
           ⟨(some 77), (.call (.c (.func 73 [] [])) [.t 74, .t 75, .t 76]), none⟩,
           ⟨(some 70), (.move (.t 77)), none⟩,
           ⟨(some 78), (.extract (.t 70) 0), none⟩,
           ⟨(some 79), (.extract (.t 70) 1), none⟩,
           ⟨none, (.store 1 (.t 7) (.t 79)), none⟩])
         (.seq (.draw [⟨1, ⟨none, (.store 1 (.t 6) (.c (.nilSlice))), none⟩, (.eff)⟩,
            ⟨0, ⟨(some 80), (.load false 1 (.t 7)), none⟩, (.quiet [0, 1])⟩,
            ⟨2, ⟨none, (.store 1 (.t 7) (.t 80)), none⟩, (.eff)⟩] 0)
          (.ret))))))))))⟩
theorem ok20 : compFunc prog glb 20 p20 = some c20 := by kernel_rfl
/-- (*signalbox/kernel.Kernel).V -/
def p21 : List Plan := [⟨[(8, .quiet [0]), (4, .quiet [0]), (5, .quiet [0]), (6, .quiet [0]), (7, .quiet [0]), (9, .quiet [0]), (10, .quiet [0]), (11, .eff), (0, .quiet [0, 8]), (1, .quiet [0, 8]), (2, .quiet [0, 8]), (3, .quiet [0, 8]), (12, .eff)], 0, [0, 1, 3, 7, 0, 16, 48, 112, 0, 496, 1008, 2032, 4095]⟩]
def c21 : CFunc := ⟨30, [.tmp 6],
 .seq (.region [⟨(some 6), (.move (.c (.int (.i64) 0))), none⟩])
 (.seq (.block 0 (.seq (.region [⟨(some 8), (.move (.t 0)), none⟩,
      ⟨(some 9), (.move (.t 1)), none⟩,
      ⟨(some 10), (.call (.c (.func 45 [] [])) [.t 8, .t 9]), none⟩,
      ⟨(some 11), (.un (.not) (.t 10)), none⟩,
      ⟨(some 7), (.move (.t 11)), none⟩])
    (.cond (.t 7) (.seq (.region [⟨(some 6), (.move (.c (.int (.i64) 4))), none⟩])
      (.ret))
     (.seq (.region [⟨(some 13), (.move (.t 0)), none⟩,
        ⟨(some 14), (.move (.t 2)), none⟩,
        ⟨(some 15), (.call (.c (.func 25 [] [])) [.t 13, .t 14]), none⟩,
        ⟨(some 16), (.eq (.ptr) false (.t 15) (.c (.nilPtr))), none⟩,
        ⟨(some 12), (.move (.t 16)), none⟩])
      (.cond (.t 12) (.seq (.region [⟨(some 6), (.move (.c (.int (.i64) 3))), none⟩])
        (.ret))
       (.skip))))))
  (.seq (.draw [⟨8, ⟨(some 25), (.move (.t 2)), none⟩, (.quiet [0])⟩,
     ⟨4, ⟨(some 21), (.move (.t 0)), none⟩, (.quiet [0])⟩,
     ⟨5, ⟨(some 22), (.nilCheck (.t 21)), none⟩, (.quiet [0])⟩,
     ⟨6, ⟨(some 23), (.fieldAddr 2 (.t 22)), none⟩, (.quiet [0])⟩,
     ⟨7, ⟨(some 24), (.load false 1 (.t 23)), none⟩, (.quiet [0])⟩,
     ⟨9, ⟨(some 26), (.indexAddr 1 (.t 24) (.t 25)), none⟩, (.quiet [0])⟩,
     ⟨10, ⟨(some 27), (.load false 1 (.t 26)), none⟩, (.quiet [0])⟩,
     ⟨11, ⟨(some 28), (.call (.c (.func 74 [] [])) [.t 27]), none⟩, (.eff)⟩,
     ⟨0, ⟨(some 17), (.move (.t 0)), none⟩, (.quiet [0, 8])⟩,
     ⟨1, ⟨(some 18), (.nilCheck (.t 17)), none⟩, (.quiet [0, 8])⟩,
     ⟨2, ⟨(some 19), (.fieldAddr 0 (.t 18)), none⟩, (.quiet [0, 8])⟩,
     ⟨3, ⟨(some 20), (.load false 1 (.t 19)), none⟩, (.quiet [0, 8])⟩,
     ⟨12, ⟨(some 29), (.call (.c (.func 61 [] [])) [.t 20, .t 28]), none⟩, (.eff)⟩] 0)
   (.seq (.region [⟨(some 6), (.move (.c (.int (.i64) 0))), none⟩])
    (.ret))))⟩
theorem ok21 : compFunc prog glb 21 p21 = some c21 := by kernel_rfl
/-- (*signalbox/kernel.Kernel).Leave -/
def p22 : List Plan := []
def c22 : CFunc := ⟨35, [.tmp 6],
 .seq (.region [⟨(some 6), (.move (.c (.int (.i64) 0))), none⟩])
 (.seq (.region [⟨(some 10), (.move (.t 0)), none⟩,
    ⟨(some 11), (.move (.t 1)), none⟩,
    ⟨(some 12), (.move (.t 2)), none⟩,
    ⟨(some 13), (.call (.c (.func 58 [] [])) [.t 10, .t 11, .t 12]), none⟩,
    ⟨(some 7), (.move (.t 13)), none⟩])
  (.seq (.seq (.region [⟨(some 14), (.move (.t 7)), none⟩,
      ⟨(some 15), (.bin (.eql) (.t 14) (.c (.int (.i64) 0))), none⟩])
    (.cond (.t 15) (.seq (.region [⟨(some 17), (.move (.t 0)), none⟩,
        ⟨(some 18), (.nilCheck (.t 17)), none⟩,
        ⟨(some 19), (.fieldAddr 3 (.t 18)), none⟩,
        ⟨(some 20), (.load false 1 (.t 19)), none⟩,
        ⟨(some 21), (.move (.t 2)), none⟩,
        ⟨(some 22), (.indexAddr 1 (.t 20) (.t 21)), none⟩,
        ⟨(some 23), (.load false 1 (.t 22)), none⟩,
        ⟨(some 24), (.move (.t 1)), none⟩,
        ⟨(some 25), (.call (.c (.func 71 [] [])) [.t 23, .t 24]), none⟩,
        ⟨(some 16), (.move (.t 25)), none⟩,
        ⟨(some 26), (.extract (.t 16) 0), none⟩,
        ⟨(some 27), (.extract (.t 16) 1), none⟩,
        ⟨(some 8), (.move (.t 26)), none⟩,
        ⟨(some 9), (.move (.t 27)), none⟩])
      (.region [⟨(some 28), (.move (.t 0)), none⟩,
        ⟨(some 29), (.nilCheck (.t 28)), none⟩,
        ⟨(some 30), (.fieldAddr 0 (.t 29)), none⟩,
        ⟨(some 31), (.load false 1 (.t 30)), none⟩,
        ⟨(some 32), (.move (.t 8)), none⟩,
        ⟨(some 33), (.call (.c (.func 61 [] [])) [.t 31, .t 32]), none⟩]))
     (.skip)))
   (.seq (.region [⟨(some 34), (.move (.t 7)), none⟩,
      ⟨(some 6), (.move (.t 34)), none⟩])
    (.ret))))⟩
theorem ok22 : compFunc prog glb 22 p22 = some c22 := by kernel_rfl
/-- (*signalbox/kernel.Kernel).Procs -/
def p23 : List Plan := []
def c23 : CFunc := ⟨9, [.tmp 2],
 .seq (.region [⟨(some 2), (.move (.c (.nilPtr))), none⟩])
 (.seq (.seq (.region [⟨(some 3), (.move (.t 0)), none⟩,
     ⟨(some 4), (.eq (.ptr) false (.t 3) (.c (.nilPtr))), none⟩])
   (.cond (.t 4) (.seq (.region [⟨(some 2), (.move (.c (.nilPtr))), none⟩])
     (.ret))
    (.skip)))
  (.seq (.region [⟨(some 5), (.move (.t 0)), none⟩,
     ⟨(some 6), (.nilCheck (.t 5)), none⟩,
     ⟨(some 7), (.fieldAddr 0 (.t 6)), none⟩,
     ⟨(some 8), (.load false 1 (.t 7)), none⟩,
     ⟨(some 2), (.move (.t 8)), none⟩])
   (.ret)))⟩
theorem ok23 : compFunc prog glb 23 p23 = some c23 := by kernel_rfl
/-- (*signalbox/kernel.Kernel).Alloc -/
def p24 : List Plan := []
def c24 : CFunc := ⟨9, [.tmp 2],
 .seq (.region [⟨(some 2), (.move (.c (.nilPtr))), none⟩])
 (.seq (.seq (.region [⟨(some 3), (.move (.t 0)), none⟩,
     ⟨(some 4), (.eq (.ptr) false (.t 3) (.c (.nilPtr))), none⟩])
   (.cond (.t 4) (.seq (.region [⟨(some 2), (.move (.c (.nilPtr))), none⟩])
     (.ret))
    (.skip)))
  (.seq (.region [⟨(some 5), (.move (.t 0)), none⟩,
     ⟨(some 6), (.nilCheck (.t 5)), none⟩,
     ⟨(some 7), (.fieldAddr 1 (.t 6)), none⟩,
     ⟨(some 8), (.load false 1 (.t 7)), none⟩,
     ⟨(some 2), (.move (.t 8)), none⟩])
   (.ret)))⟩
theorem ok24 : compFunc prog glb 24 p24 = some c24 := by kernel_rfl
/-- (*signalbox/kernel.Kernel).Sema -/
def p25 : List Plan := []
def c25 : CFunc := ⟨27, [.tmp 4],
 .seq (.region [⟨(some 4), (.move (.c (.nilPtr))), none⟩])
 (.seq (.seq (.region [⟨(some 5), (.move (.t 0)), none⟩,
     ⟨(some 6), (.eq (.ptr) false (.t 5) (.c (.nilPtr))), none⟩,
     ⟨(some 7), (.move (.t 6)), none⟩,
     ⟨(some 8), (.move (.t 1)), (some (7, false))⟩,
     ⟨(some 9), (.bin (.lss) (.t 8) (.c (.int (.i64) 0))), (some (7, false))⟩,
     ⟨(some 10), (.pick (.t 7) (.c (.bool true)) (.t 9)), none⟩,
     ⟨(some 11), (.move (.t 10)), none⟩,
     ⟨(some 12), (.move (.t 1)), (some (11, false))⟩,
     ⟨(some 13), (.move (.t 0)), (some (11, false))⟩,
     ⟨(some 14), (.nilCheck (.t 13)), (some (11, false))⟩,
     ⟨(some 15), (.fieldAddr 2 (.t 14)), (some (11, false))⟩,
     ⟨(some 16), (.load false 1 (.t 15)), (some (11, false))⟩,
     ⟨(some 17), (.len (.slice) (.t 16)), (some (11, false))⟩,
     ⟨(some 18), (.bin (.geq) (.t 12) (.t 17)), (some (11, false))⟩,
     ⟨(some 19), (.pick (.t 11) (.c (.bool true)) (.t 18)), none⟩])
   (.cond (.t 19) (.seq (.region [⟨(some 4), (.move (.c (.nilPtr))), none⟩])
     (.ret))
    (.skip)))
  (.seq (.region [⟨(some 20), (.move (.t 0)), none⟩,
     ⟨(some 21), (.nilCheck (.t 20)), none⟩,
     ⟨(some 22), (.fieldAddr 2 (.t 21)), none⟩,
     ⟨(some 23), (.load false 1 (.t 22)), none⟩,
     ⟨(some 24), (.move (.t 1)), none⟩,
     ⟨(some 25), (.indexAddr 1 (.t 23) (.t 24)), none⟩,
     ⟨(some 26), (.load false 1 (.t 25)), none⟩,
     ⟨(some 4), (.move (.t 26)), none⟩])
   (.ret)))⟩
theorem ok25 : compFunc prog glb 25 p25 = some c25 := by kernel_rfl
/-- (*signalbox/kernel.Kernel).Region -/
def p26 : List Plan := []
def c26 : CFunc := ⟨27, [.tmp 4],
 .seq (.region [⟨(some 4), (.move (.c (.nilPtr))), none⟩])
 (.seq (.seq (.region [⟨(some 5), (.move (.t 0)), none⟩,
     ⟨(some 6), (.eq (.ptr) false (.t 5) (.c (.nilPtr))), none⟩,
     ⟨(some 7), (.move (.t 6)), none⟩,
     ⟨(some 8), (.move (.t 1)), (some (7, false))⟩,
     ⟨(some 9), (.bin (.lss) (.t 8) (.c (.int (.i64) 0))), (some (7, false))⟩,
     ⟨(some 10), (.pick (.t 7) (.c (.bool true)) (.t 9)), none⟩,
     ⟨(some 11), (.move (.t 10)), none⟩,
     ⟨(some 12), (.move (.t 1)), (some (11, false))⟩,
     ⟨(some 13), (.move (.t 0)), (some (11, false))⟩,
     ⟨(some 14), (.nilCheck (.t 13)), (some (11, false))⟩,
     ⟨(some 15), (.fieldAddr 3 (.t 14)), (some (11, false))⟩,
     ⟨(some 16), (.load false 1 (.t 15)), (some (11, false))⟩,
     ⟨(some 17), (.len (.slice) (.t 16)), (some (11, false))⟩,
     ⟨(some 18), (.bin (.geq) (.t 12) (.t 17)), (some (11, false))⟩,
     ⟨(some 19), (.pick (.t 11) (.c (.bool true)) (.t 18)), none⟩])
   (.cond (.t 19) (.seq (.region [⟨(some 4), (.move (.c (.nilPtr))), none⟩])
     (.ret))
    (.skip)))
  (.seq (.region [⟨(some 20), (.move (.t 0)), none⟩,
     ⟨(some 21), (.nilCheck (.t 20)), none⟩,
     ⟨(some 22), (.fieldAddr 3 (.t 21)), none⟩,
     ⟨(some 23), (.load false 1 (.t 22)), none⟩,
     ⟨(some 24), (.move (.t 1)), none⟩,
     ⟨(some 25), (.indexAddr 1 (.t 23) (.t 24)), none⟩,
     ⟨(some 26), (.load false 1 (.t 25)), none⟩,
     ⟨(some 4), (.move (.t 26)), none⟩])
   (.ret)))⟩
theorem ok26 : compFunc prog glb 26 p26 = some c26 := by kernel_rfl
/-- signalbox/kernel.New -/
def p27 : List Plan := [⟨[(5, .eff), (6, .eff), (1, .quiet [0, 1, 2]), (2, .quiet [0, 1, 2]), (3, .quiet [0, 1, 2]), (4, .quiet [0, 1, 2]), (7, .eff), (0, .quiet [0, 1, 2, 7]), (8, .quiet [7]), (9, .quiet [7]), (10, .eff)], 0, [0, 0, 2, 6, 14, 0, 32, 126, 255, 511, 1023]⟩]
def c27 : CFunc := ⟨96, [.tmp 10, .tmp 11],
 .seq (.region [⟨(some 10), (.move (.c (.nilPtr))), none⟩,
   ⟨(some 11), (.move (.c (.int (.i64) 0))), none⟩])
 (.seq (.region [⟨(some 22), (.move (.t 3)), none⟩,
    ⟨(some 23), (.call (.c (.func 75 [] [])) [.t 22]), none⟩,
    ⟨(some 21), (.move (.t 23)), none⟩,
    ⟨(some 24), (.extract (.t 21) 0), none⟩,
    ⟨(some 25), (.extract (.t 21) 1), none⟩,
    ⟨(some 12), (.move (.t 24)), none⟩,
    ⟨(some 13), (.move (.t 25)), none⟩])
  (.seq (.region [⟨(some 27), (.move (.t 2)), none⟩,
     ⟨(some 28), (.move (.t 4)), none⟩,
     ⟨(some 29), (.call (.c (.func 76 [] [])) [.t 27, .t 28]), none⟩,
     ⟨(some 26), (.move (.t 29)), none⟩,
     ⟨(some 30), (.extract (.t 26) 0), none⟩,
     ⟨(some 31), (.extract (.t 26) 1), none⟩,
     ⟨(some 14), (.move (.t 30)), none⟩,
     ⟨(some 15), (.move (.t 31)), none⟩])
   (.seq (.seq (.region [⟨(some 32), (.move (.t 13)), none⟩,
       ⟨(some 33), (.bin (.neq) (.t 32) (.c (.int (.i64) 0))), none⟩,
       ⟨(some 34), (.move (.t 33)), none⟩,
       ⟨(some 35), (.move (.t 15)), (some (34, false))⟩,
       ⟨(some 36), (.bin (.neq) (.t 35) (.c (.int (.i64) 0))), (some (34, false))⟩,
       ⟨(some 37), (.pick (.t 34) (.c (.bool true)) (.t 36)), none⟩,
       ⟨(some 38), (.move (.t 37)), none⟩,
       ⟨(some 39), (.move (.t 0)), (some (38, false))⟩,
       ⟨(some 40), (.len (.slice) (.t 39)), (some (38, false))⟩,
       ⟨(some 41), (.bin (.gtr) (.t 40) (.c (.int (.i64) 8))), (some (38, false))⟩,
       ⟨(some 42), (.pick (.t 38) (.c (.bool true)) (.t 41)), none⟩,
       ⟨(some 43), (.move (.t 42)), none⟩,
       ⟨(some 44), (.move (.t 1)), (some (43, false))⟩,
       ⟨(some 45), (.bin (.lss) (.t 44) (.c (.int (.i64) 0))), (some (43, false))⟩,
       ⟨(some 46), (.pick (.t 43) (.c (.bool true)) (.t 45)), none⟩,
       ⟨(some 47), (.move (.t 46)), none⟩,
       ⟨(some 48), (.move (.t 1)), (some (47, false))⟩,
       ⟨(some 49), (.bin (.gtr) (.t 48) (.c (.int (.i64) 16))), (some (47, false))⟩,
       ⟨(some 50), (.pick (.t 47) (.c (.bool true)) (.t 49)), none⟩])
     (.cond (.t 50) (.seq (.region [⟨(some 10), (.move (.c (.nilPtr))), none⟩,
         ⟨(some 11), (.move (.c (.int (.i64) 1))), none⟩])
       (.ret))
      (.skip)))
    (.seq (.region [⟨(some 51), (.move (.t 12)), none⟩,
       ⟨(some 52), (.move (.t 14)), none⟩,
       ⟨(some 53), (.move (.t 2)), none⟩,
       ⟨(some 54), (.len (.slice) (.t 53)), none⟩,
       ⟨(some 55), (.build [.nilPtr, .nilPtr, .nilSlice, .nilSlice, .int (.i64) 0, .nilSlice] [(0, 1, .t 51), (1, 1, .t 52), (4, 1, .t 54)]), none⟩,
       ⟨(some 56), (.box (.t 55)), none⟩,
       ⟨(some 16), (.move (.t 56)), none⟩])
     (.seq (.seq (.region [⟨(some 57), (.move (.t 0)), none⟩,
         ⟨(some 58), (.len (.slice) (.t 57)), none⟩,
         ⟨(some 59), (.move (.c (.int (.i64) 0))), none⟩])
       (.block 0 (.loop (.seq (.region [⟨(some 60), (.bin (.lss) (.t 59) (.t 58)), none⟩])
          (.seq (.cond (.t 60) (.skip)
            (.exit 0))
           (.seq (.block 1 (.seq (.region [⟨(some 61), (.indexAddr 1 (.t 57) (.t 59)), none⟩,
                ⟨(some 62), (.load false 1 (.t 61)), none⟩,
                ⟨(some 18), (.move (.t 62)), none⟩])
              (.seq (.region [⟨(some 64), (.move (.t 18)), none⟩,
                 ⟨(some 65), (.call (.c (.func 77 [] [])) [.t 64]), none⟩,
                 ⟨(some 63), (.move (.t 65)), none⟩,
                 ⟨(some 66), (.extract (.t 63) 0), none⟩,
                 ⟨(some 67), (.extract (.t 63) 1), none⟩,
                 ⟨(some 19), (.move (.t 66)), none⟩,
                 ⟨(some 20), (.move (.t 67)), none⟩])
               (.seq (.seq (.region [⟨(some 68), (.move (.t 20)), none⟩,
                   ⟨(some 69), (.bin (.neq) (.t 68) (.c (.int (.i64) 0))), none⟩])
                 (.cond (.t 69) (.seq (.region [⟨(some 10), (.move (.c (.nilPtr))), none⟩,
                     ⟨(some 11), (.move (.c (.int (.i64) 1))), none⟩])
                   (.ret))
                  (.skip)))
                (.region [⟨(some 70), (.move (.t 16)), none⟩,
                  ⟨(some 71), (.move (.t 16)), none⟩,
                  ⟨(some 72), (.nilCheck (.t 71)), none⟩,
                  ⟨(some 73), (.fieldAddr 2 (.t 72)), none⟩,
                  ⟨(some 74), (.load false 1 (.t 73)), none⟩,
                  ⟨(some 75), (.move (.t 19)), none⟩,
                  ⟨(some 76), (.buildSlice [.nilPtr] 1 [(0, 1, .t 75)]), none⟩,
                  ⟨(some 77), (.append 1 8 (.t 74) (.t 76)), none⟩,
                  ⟨(some 78), (.nilCheck (.t 70)), none⟩,
                  ⟨(some 79), (.fieldAddr 2 (.t 78)), none⟩,
                  ⟨none, (.store 1 (.t 79) (.t 77)), none⟩])))))
            (.region [⟨(some 80), (.bin (.add) (.t 59) (.c (.int (.i64) 1))), none⟩,
              ⟨(some 59), (.move (.t 80)), none⟩])))))))
      (.seq (.seq (.region [⟨(some 81), (.move (.t 1)), none⟩,
          ⟨(some 82), (.move (.c (.int (.i64) 0))), none⟩])
        (.block 2 (.loop (.seq (.region [⟨(some 83), (.bin (.lss) (.t 82) (.t 81)), none⟩])
           (.seq (.cond (.t 83) (.skip)
             (.exit 2))
            (.seq (.block 3 (.draw [⟨5, ⟨(some 89), (.call (.c (.func 78 [] [])) []), none⟩, (.eff)⟩,
                ⟨6, ⟨(some 90), (.buildSlice [.nilPtr] 1 [(0, 1, .t 89)]), none⟩, (.eff)⟩,
                ⟨1, ⟨(some 85), (.move (.t 16)), none⟩, (.quiet [0, 1, 2])⟩,
                ⟨2, ⟨(some 86), (.nilCheck (.t 85)), none⟩, (.quiet [0, 1, 2])⟩,
                ⟨3, ⟨(some 87), (.fieldAddr 3 (.t 86)), none⟩, (.quiet [0, 1, 2])⟩,
                ⟨4, ⟨(some 88), (.load false 1 (.t 87)), none⟩, (.quiet [0, 1, 2])⟩,
                ⟨7, ⟨(some 91), (.append 1 8 (.t 88) (.t 90)), none⟩, (.eff)⟩,
                ⟨0, ⟨(some 84), (.move (.t 16)), none⟩, (.quiet [0, 1, 2, 7])⟩,
                ⟨8, ⟨(some 92), (.nilCheck (.t 84)), none⟩, (.quiet [7])⟩,
                ⟨9, ⟨(some 93), (.fieldAddr 3 (.t 92)), none⟩, (.quiet [7])⟩,
                ⟨10, ⟨none, (.store 1 (.t 93) (.t 91)), none⟩, (.eff)⟩] 0))
             (.region [⟨(some 94), (.bin (.add) (.t 82) (.c (.int (.i64) 1))), none⟩,
               ⟨(some 82), (.move (.t 94)), none⟩])))))))
       (.seq (.region [⟨(some 95), (.move (.t 16)), none⟩,
          ⟨(some 10), (.move (.t 95)), none⟩,
          ⟨(some 11), (.move (.c (.int (.i64) 0))), none⟩])
        (.ret))))))))⟩
theorem ok27 : compFunc prog glb 27 p27 = some c27 := by kernel_rfl
/-- signalbox/signalboxref14.New -/
def p28 : List Plan := []
def c28 : CFunc := ⟨96, [.tmp 10, .tmp 11],
 .seq (.region [⟨(some 10), (.move (.c (.nilPtr))), none⟩,
   ⟨(some 11), (.move (.c (.int (.i64) 0))), none⟩])
 (.seq (.seq (.region [⟨(some 21), (.move (.t 0)), none⟩,
     ⟨(some 22), (.len (.slice) (.t 21)), none⟩,
     ⟨(some 23), (.bin (.gtr) (.t 22) (.c (.int (.i64) 8))), none⟩,
     ⟨(some 24), (.move (.t 23)), none⟩,
     ⟨(some 25), (.move (.t 1)), (some (24, false))⟩,
     ⟨(some 26), (.bin (.lss) (.t 25) (.c (.int (.i64) 0))), (some (24, false))⟩,
     ⟨(some 27), (.pick (.t 24) (.c (.bool true)) (.t 26)), none⟩,
     ⟨(some 28), (.move (.t 27)), none⟩,
     ⟨(some 29), (.move (.t 1)), (some (28, false))⟩,
     ⟨(some 30), (.bin (.gtr) (.t 29) (.c (.int (.i64) 16))), (some (28, false))⟩,
     ⟨(some 31), (.pick (.t 28) (.c (.bool true)) (.t 30)), none⟩])
   (.cond (.t 31) (.seq (.region [⟨(some 10), (.move (.c (.nilPtr))), none⟩,
       ⟨(some 11), (.move (.c (.int (.i64) 1))), none⟩])
     (.ret))
    (.skip)))
  (.seq (.region [⟨(some 33), (.move (.t 3)), none⟩,
     ⟨(some 34), (.call (.c (.func 79 [] [])) [.t 33]), none⟩,
     ⟨(some 32), (.move (.t 34)), none⟩,
     ⟨(some 35), (.extract (.t 32) 0), none⟩,
     ⟨(some 36), (.extract (.t 32) 1), none⟩,
     ⟨(some 12), (.move (.t 35)), none⟩,
     ⟨(some 13), (.move (.t 36)), none⟩])
   (.seq (.region [⟨(some 38), (.move (.t 2)), none⟩,
      ⟨(some 39), (.move (.t 4)), none⟩,
      ⟨(some 40), (.call (.c (.func 80 [] [])) [.t 38, .t 39]), none⟩,
      ⟨(some 37), (.move (.t 40)), none⟩,
      ⟨(some 41), (.extract (.t 37) 0), none⟩,
      ⟨(some 42), (.extract (.t 37) 1), none⟩,
      ⟨(some 14), (.move (.t 41)), none⟩,
      ⟨(some 15), (.move (.t 42)), none⟩])
    (.seq (.seq (.region [⟨(some 43), (.move (.t 13)), none⟩,
        ⟨(some 44), (.bin (.neq) (.t 43) (.c (.int (.i64) 0))), none⟩,
        ⟨(some 45), (.move (.t 44)), none⟩,
        ⟨(some 46), (.move (.t 15)), (some (45, false))⟩,
        ⟨(some 47), (.bin (.neq) (.t 46) (.c (.int (.i64) 0))), (some (45, false))⟩,
        ⟨(some 48), (.pick (.t 45) (.c (.bool true)) (.t 47)), none⟩])
      (.cond (.t 48) (.seq (.region [⟨(some 10), (.move (.c (.nilPtr))), none⟩,
          ⟨(some 11), (.move (.c (.int (.i64) 1))), none⟩])
        (.ret))
       (.skip)))
     (.seq (.region [⟨(some 49), (.move (.t 12)), none⟩,
        ⟨(some 50), (.move (.t 14)), none⟩,
        ⟨(some 51), (.build [.nilPtr, .nilPtr, .nilSlice, .nilSlice] [(0, 1, .t 49), (1, 1, .t 50)]), none⟩,
        ⟨(some 52), (.box (.t 51)), none⟩,
        ⟨(some 16), (.move (.t 52)), none⟩])
      (.seq (.seq (.region [⟨(some 17), (.move (.c (.int (.i64) 0))), none⟩])
        (.block 0 (.loop (.seq (.seq (.region [⟨(some 53), (.move (.t 17)), none⟩,
              ⟨(some 54), (.move (.t 0)), none⟩,
              ⟨(some 55), (.len (.slice) (.t 54)), none⟩,
              ⟨(some 56), (.bin (.lss) (.t 53) (.t 55)), none⟩])
            (.cond (.t 56) (.skip)
             (.exit 0)))
           (.seq (.block 1 (.seq (.region [⟨(some 60), (.move (.t 0)), none⟩,
                ⟨(some 61), (.move (.t 17)), none⟩,
                ⟨(some 62), (.indexAddr 1 (.t 60) (.t 61)), none⟩,
                ⟨(some 63), (.load false 1 (.t 62)), none⟩,
                ⟨(some 64), (.call (.c (.func 81 [] [])) [.t 63]), none⟩,
                ⟨(some 59), (.move (.t 64)), none⟩,
                ⟨(some 65), (.extract (.t 59) 0), none⟩,
                ⟨(some 66), (.extract (.t 59) 1), none⟩,
                ⟨(some 18), (.move (.t 65)), none⟩,
                ⟨(some 19), (.move (.t 66)), none⟩])
              (.seq (.seq (.region [⟨(some 67), (.move (.t 19)), none⟩,
                  ⟨(some 68), (.bin (.neq) (.t 67) (.c (.int (.i64) 0))), none⟩])
                (.cond (.t 68) (.seq (.region [⟨(some 10), (.move (.c (.nilPtr))), none⟩,
                    ⟨(some 11), (.move (.c (.int (.i64) 1))), none⟩])
                  (.ret))
                 (.skip)))
               (.region [⟨(some 69), (.move (.t 16)), none⟩,
                 ⟨(some 70), (.move (.t 16)), none⟩,
                 ⟨(some 71), (.nilCheck (.t 70)), none⟩,
                 ⟨(some 72), (.fieldAddr 2 (.t 71)), none⟩,
                 ⟨(some 73), (.load false 1 (.t 72)), none⟩,
                 ⟨(some 74), (.move (.t 18)), none⟩,
                 ⟨(some 75), (.buildSlice [.nilPtr] 1 [(0, 1, .t 74)]), none⟩,
                 ⟨(some 76), (.append 1 8 (.t 73) (.t 75)), none⟩,
                 ⟨(some 77), (.nilCheck (.t 69)), none⟩,
                 ⟨(some 78), (.fieldAddr 2 (.t 77)), none⟩,
                 ⟨none, (.store 1 (.t 78) (.t 76)), none⟩]))))
            (.region [⟨(some 57), (.move (.t 17)), none⟩,
              ⟨(some 58), (.bin (.add) (.t 57) (.c (.int (.i64) 1))), none⟩,
              ⟨(some 17), (.move (.t 58)), none⟩]))))))
       (.seq (.seq (.region [⟨(some 20), (.move (.c (.int (.i64) 0))), none⟩])
         (.block 2 (.loop (.seq (.seq (.region [⟨(some 79), (.move (.t 20)), none⟩,
               ⟨(some 80), (.move (.t 1)), none⟩,
               ⟨(some 81), (.bin (.lss) (.t 79) (.t 80)), none⟩])
             (.cond (.t 81) (.skip)
              (.exit 2)))
            (.seq (.block 3 (.region [⟨(some 84), (.move (.t 16)), none⟩,
                ⟨(some 85), (.move (.t 16)), none⟩,
                ⟨(some 86), (.nilCheck (.t 85)), none⟩,
                ⟨(some 87), (.fieldAddr 3 (.t 86)), none⟩,
                ⟨(some 88), (.load false 1 (.t 87)), none⟩,
                ⟨(some 89), (.build [.int (.i64) 0, .nilSlice, .nilSlice] []), none⟩,
                ⟨(some 90), (.box (.t 89)), none⟩,
                ⟨(some 91), (.buildSlice [.nilPtr] 1 [(0, 1, .t 90)]), none⟩,
                ⟨(some 92), (.append 1 8 (.t 88) (.t 91)), none⟩,
                ⟨(some 93), (.nilCheck (.t 84)), none⟩,
                ⟨(some 94), (.fieldAddr 3 (.t 93)), none⟩,
                ⟨none, (.store 1 (.t 94) (.t 92)), none⟩]))
             (.region [⟨(some 82), (.move (.t 20)), none⟩,
               ⟨(some 83), (.bin (.add) (.t 82) (.c (.int (.i64) 1))), none⟩,
               ⟨(some 20), (.move (.t 83)), none⟩]))))))
        (.seq (.region [⟨(some 95), (.move (.t 16)), none⟩,
           ⟨(some 10), (.move (.t 95)), none⟩,
           ⟨(some 11), (.move (.c (.int (.i64) 0))), none⟩])
         (.ret)))))))))⟩
theorem ok28 : compFunc prog glb 28 p28 = some c28 := by kernel_rfl
/-- signalbox/audit.follows -/
def p29 : List Plan := []
def c29 : CFunc := ⟨27, [.tmp 4],
 .seq (.region [⟨(some 2), (.box (.t 0)), none⟩,
   ⟨(some 3), (.box (.t 1)), none⟩,
   ⟨(some 4), (.move (.c (.bool false))), none⟩])
 (.seq (.seq (.region [⟨(some 5), (.fieldAddr 1 (.t 2)), none⟩,
     ⟨(some 6), (.load false 1 (.t 5)), none⟩])
   (.block 0 (.seq (.seq (.region [⟨(some 8), (.bin (.eql) (.t 6) (.c (.int (.i64) 5))), none⟩,
        ⟨(some 7), (.move (.t 8)), none⟩])
      (.cond (.t 7) (.skip)
       (.region [⟨(some 9), (.bin (.eql) (.t 6) (.c (.int (.i64) 4))), none⟩,
         ⟨(some 7), (.move (.t 9)), none⟩])))
     (.cond (.t 7) (.seq (.region [⟨(some 4), (.move (.c (.bool false))), none⟩])
       (.ret))
      (.seq (.region [⟨(some 11), (.bin (.eql) (.t 6) (.c (.int (.i64) 2))), none⟩,
         ⟨(some 10), (.move (.t 11)), none⟩])
       (.cond (.t 10) (.seq (.region [⟨(some 12), (.fieldAddr 3 (.t 2)), none⟩,
           ⟨(some 13), (.load false 1 (.t 12)), none⟩,
           ⟨(some 14), (.bin (.neq) (.t 13) (.c (.int (.i64) 4))), none⟩,
           ⟨(some 15), (.move (.t 14)), none⟩,
           ⟨(some 16), (.fieldAddr 1 (.t 3)), (some (15, false))⟩,
           ⟨(some 17), (.load false 1 (.t 16)), (some (15, false))⟩,
           ⟨(some 18), (.bin (.eql) (.t 17) (.c (.int (.i64) 3))), (some (15, false))⟩,
           ⟨(some 19), (.move (.t 18)), (some (15, false))⟩,
           ⟨(some 20), (.fieldAddr 3 (.t 3)), (some (19, true))⟩,
           ⟨(some 21), (.load false 1 (.t 20)), (some (19, true))⟩,
           ⟨(some 22), (.fieldAddr 4 (.t 2)), (some (19, true))⟩,
           ⟨(some 23), (.load false 1 (.t 22)), (some (19, true))⟩,
           ⟨(some 24), (.bin (.eql) (.t 21) (.t 23)), (some (19, true))⟩,
           ⟨(some 25), (.pick (.t 19) (.t 24) (.c (.bool false))), (some (15, false))⟩,
           ⟨(some 26), (.pick (.t 15) (.c (.bool true)) (.t 25)), none⟩,
           ⟨(some 4), (.move (.t 26)), none⟩])
         (.ret))
        (.skip)))))))
  (.seq (.region [⟨(some 4), (.move (.c (.bool true))), none⟩])
   (.ret)))⟩
theorem ok29 : compFunc prog glb 29 p29 = some c29 := by kernel_rfl
/-- signalbox/signalboxref1.Ints -/
def p30 : List Plan := [⟨[(5, .quiet [0]), (4, .quiet [0]), (6, .quiet [0]), (7, .quiet [0]), (1, .quiet [0]), (0, .quiet [0]), (2, .quiet [0]), (3, .quiet [0]), (8, .quiet [0])], 0, [0, 0, 3, 7, 0, 0, 48, 112, 255]⟩]
def c30 : CFunc := ⟨26, [.tmp 4],
 .seq (.region [⟨(some 4), (.move (.c (.bool false))), none⟩])
 (.seq (.seq (.region [⟨(some 6), (.move (.t 0)), none⟩,
     ⟨(some 7), (.len (.slice) (.t 6)), none⟩,
     ⟨(some 8), (.move (.t 1)), none⟩,
     ⟨(some 9), (.len (.slice) (.t 8)), none⟩,
     ⟨(some 10), (.bin (.neq) (.t 7) (.t 9)), none⟩])
   (.cond (.t 10) (.seq (.region [⟨(some 4), (.move (.c (.bool false))), none⟩])
     (.ret))
    (.skip)))
  (.seq (.seq (.region [⟨(some 5), (.move (.c (.int (.i64) 0))), none⟩])
    (.block 0 (.loop (.seq (.seq (.region [⟨(some 11), (.move (.t 5)), none⟩,
          ⟨(some 12), (.move (.t 0)), none⟩,
          ⟨(some 13), (.len (.slice) (.t 12)), none⟩,
          ⟨(some 14), (.bin (.lss) (.t 11) (.t 13)), none⟩])
        (.cond (.t 14) (.skip)
         (.exit 0)))
       (.seq (.block 1 (.seq (.draw [⟨5, ⟨(some 22), (.move (.t 5)), none⟩, (.quiet [0])⟩,
            ⟨4, ⟨(some 21), (.move (.t 1)), none⟩, (.quiet [0])⟩,
            ⟨6, ⟨(some 23), (.indexAddr 1 (.t 21) (.t 22)), none⟩, (.quiet [0])⟩,
            ⟨7, ⟨(some 24), (.load false 1 (.t 23)), none⟩, (.quiet [0])⟩,
            ⟨1, ⟨(some 18), (.move (.t 5)), none⟩, (.quiet [0])⟩,
            ⟨0, ⟨(some 17), (.move (.t 0)), none⟩, (.quiet [0])⟩,
            ⟨2, ⟨(some 19), (.indexAddr 1 (.t 17) (.t 18)), none⟩, (.quiet [0])⟩,
            ⟨3, ⟨(some 20), (.load false 1 (.t 19)), none⟩, (.quiet [0])⟩,
            ⟨8, ⟨(some 25), (.bin (.neq) (.t 20) (.t 24)), none⟩, (.quiet [0])⟩] 0)
          (.cond (.t 25) (.seq (.region [⟨(some 4), (.move (.c (.bool false))), none⟩])
            (.ret))
           (.skip))))
        (.region [⟨(some 15), (.move (.t 5)), none⟩,
          ⟨(some 16), (.bin (.add) (.t 15) (.c (.int (.i64) 1))), none⟩,
          ⟨(some 5), (.move (.t 16)), none⟩]))))))
   (.seq (.region [⟨(some 4), (.move (.c (.bool true))), none⟩])
    (.ret))))⟩
theorem ok30 : compFunc prog glb 30 p30 = some c30 := by kernel_rfl
/-- slices.All[[]func(l signalbox/audit.look) bool,func(l signalbox/audit.look) bool] -/
def p31 : List Plan := []
def c31 : CFunc := ⟨4, [.tmp 2],
 .seq (.region [⟨(some 1), (.box (.t 0)), none⟩,
   ⟨(some 2), (.move (.c (.nilFunc))), none⟩])
 (.seq (.region [⟨(some 3), (.func 82 [] [.t 1]), none⟩,
    ⟨(some 2), (.move (.t 3)), none⟩])
  (.ret))⟩
theorem ok31 : compFunc prog glb 31 p31 = some c31 := by kernel_rfl
/-- (signalbox/audit.look).sums -/
def p32 : List Plan := []
def c32 : CFunc := ⟨43, [.tmp 2],
 .seq (.region [⟨(some 1), (.box (.t 0)), none⟩,
   ⟨(some 2), (.move (.c (.bool false))), none⟩])
 (.seq (.region [⟨(some 9), (.fieldAddr 0 (.t 1)), none⟩,
    ⟨(some 10), (.load false 1 (.t 9)), none⟩,
    ⟨(some 11), (.call (.c (.func 24 [] [])) [.t 10]), none⟩,
    ⟨(some 3), (.move (.t 11)), none⟩])
  (.seq (.region [⟨(some 12), (.move (.t 3)), none⟩,
     ⟨(some 13), (.call (.c (.func 83 [] [])) [.t 12]), none⟩,
     ⟨(some 4), (.move (.t 13)), none⟩])
   (.seq (.seq (.region [⟨(some 14), (.move (.t 3)), none⟩,
       ⟨(some 15), (.call (.c (.func 84 [] [])) [.t 14]), none⟩,
       ⟨(some 16), (.len (.slice) (.t 15)), none⟩,
       ⟨(some 17), (.move (.c (.int (.i64) 0))), none⟩])
     (.block 0 (.loop (.seq (.region [⟨(some 18), (.bin (.lss) (.t 17) (.t 16)), none⟩])
        (.seq (.cond (.t 18) (.skip)
          (.exit 0))
         (.seq (.block 1 (.seq (.region [⟨(some 19), (.indexAddr 1 (.t 15) (.t 17)), none⟩,
              ⟨(some 20), (.load false 1 (.t 19)), none⟩,
              ⟨(some 6), (.move (.t 20)), none⟩])
            (.seq (.region [⟨(some 21), (.move (.t 3)), none⟩,
               ⟨(some 22), (.move (.t 6)), none⟩,
               ⟨(some 23), (.call (.c (.func 47 [] [])) [.t 21, .t 22]), none⟩,
               ⟨(some 24), (.len (.slice) (.t 23)), none⟩,
               ⟨(some 25), (.move (.c (.int (.i64) 0))), none⟩])
             (.block 2 (.loop (.seq (.region [⟨(some 26), (.bin (.lss) (.t 25) (.t 24)), none⟩])
                (.seq (.cond (.t 26) (.skip)
                  (.exit 2))
                 (.seq (.block 3 (.seq (.region [⟨(some 27), (.move (.t 25)), none⟩,
                      ⟨(some 28), (.indexAddr 1 (.t 23) (.t 25)), none⟩,
                      ⟨(some 29), (.load false 1 (.t 28)), none⟩,
                      ⟨(some 7), (.move (.t 27)), none⟩,
                      ⟨(some 8), (.move (.t 29)), none⟩])
                    (.region [⟨(some 30), (.move (.t 4)), none⟩,
                      ⟨(some 31), (.move (.t 7)), none⟩,
                      ⟨(some 32), (.indexAddr 1 (.t 30) (.t 31)), none⟩,
                      ⟨(some 33), (.load false 1 (.t 32)), none⟩,
                      ⟨(some 34), (.move (.t 8)), none⟩,
                      ⟨(some 35), (.bin (.add) (.t 33) (.t 34)), none⟩,
                      ⟨(some 36), (.indexAddr 1 (.t 30) (.t 31)), none⟩,
                      ⟨none, (.store 1 (.t 36) (.t 35)), none⟩])))
                  (.region [⟨(some 37), (.bin (.add) (.t 25) (.c (.int (.i64) 1))), none⟩,
                    ⟨(some 25), (.move (.t 37)), none⟩])))))))))
          (.region [⟨(some 38), (.bin (.add) (.t 17) (.c (.int (.i64) 1))), none⟩,
            ⟨(some 17), (.move (.t 38)), none⟩])))))))
    (.seq (.region [⟨(some 39), (.move (.t 4)), none⟩,
       ⟨(some 40), (.fieldAddr 1 (.t 1)), none⟩,
       ⟨(some 41), (.load false 1 (.t 40)), none⟩,
       ⟨(some 42), (.call (.c (.func 85 [] [])) [.t 39, .t 41]), none⟩,
       ⟨(some 2), (.move (.t 42)), none⟩])
     (.ret)))))⟩
theorem ok32 : compFunc prog glb 32 p32 = some c32 := by kernel_rfl
/-- (signalbox/audit.look).fits -/
def p33 : List Plan := []
def c33 : CFunc := ⟨17, [.tmp 2],
 .seq (.region [⟨(some 1), (.box (.t 0)), none⟩,
   ⟨(some 2), (.move (.c (.bool false))), none⟩])
 (.seq (.region [⟨(some 4), (.fieldAddr 0 (.t 1)), none⟩,
    ⟨(some 5), (.load false 1 (.t 4)), none⟩,
    ⟨(some 6), (.call (.c (.func 24 [] [])) [.t 5]), none⟩,
    ⟨(some 3), (.new [.nilPtr]), none⟩,
    ⟨none, (.store 1 (.t 3) (.t 6)), none⟩])
  (.seq (.region [⟨(some 7), (.fieldAddr 2 (.t 1)), none⟩,
     ⟨(some 8), (.load false 1 (.t 7)), none⟩,
     ⟨(some 9), (.un (.not) (.t 8)), none⟩,
     ⟨(some 10), (.move (.t 9)), none⟩,
     ⟨(some 11), (.load false 1 (.t 3)), (some (10, false))⟩,
     ⟨(some 12), (.call (.c (.func 84 [] [])) [.t 11]), (some (10, false))⟩,
     ⟨(some 13), (.func 87 [] [.t 3]), (some (10, false))⟩,
     ⟨(some 14), (.call (.c (.func 86 [] [])) [.t 12, .t 13]), (some (10, false))⟩,
     ⟨(some 15), (.un (.not) (.t 14)), (some (10, false))⟩,
     ⟨(some 16), (.pick (.t 10) (.c (.bool true)) (.t 15)), none⟩,
     ⟨(some 2), (.move (.t 16)), none⟩])
   (.ret)))⟩
theorem ok33 : compFunc prog glb 33 p33 = some c33 := by kernel_rfl
/-- (signalbox/audit.look).safe -/
def p34 : List Plan := []
def c34 : CFunc := ⟨12, [.tmp 2],
 .seq (.region [⟨(some 1), (.box (.t 0)), none⟩,
   ⟨(some 2), (.move (.c (.bool false))), none⟩])
 (.seq (.region [⟨(some 3), (.fieldAddr 2 (.t 1)), none⟩,
    ⟨(some 4), (.load false 1 (.t 3)), none⟩,
    ⟨(some 5), (.un (.not) (.t 4)), none⟩,
    ⟨(some 6), (.move (.t 5)), none⟩,
    ⟨(some 7), (.fieldAddr 0 (.t 1)), (some (6, false))⟩,
    ⟨(some 8), (.load false 1 (.t 7)), (some (6, false))⟩,
    ⟨(some 9), (.call (.c (.func 24 [] [])) [.t 8]), (some (6, false))⟩,
    ⟨(some 10), (.call (.c (.func 90 [] [])) [.t 9]), (some (6, false))⟩,
    ⟨(some 11), (.pick (.t 6) (.c (.bool true)) (.t 10)), none⟩,
    ⟨(some 2), (.move (.t 11)), none⟩])
  (.ret))⟩
theorem ok34 : compFunc prog glb 34 p34 = some c34 := by kernel_rfl
/-- (signalbox/audit.look).counts -/
def p35 : List Plan := []
def c35 : CFunc := ⟨34, [.cell 2 false 1],
 .seq (.region [⟨(some 1), (.box (.t 0)), none⟩,
   ⟨(some 2), (.new [.bool false]), none⟩])
 (.seq (.seq (.region [⟨(some 5), (.load true 3 (.t 1)), none⟩,
     ⟨(some 6), (.call (.c (.func 91 [] [])) [.t 5]), none⟩])
   (.block 0 (.rangeF 35 0 1 (.t 6))))
  (.seq (.region [⟨none, (.store 1 (.t 2) (.c (.bool true))), none⟩])
   (.ret)))⟩
theorem ok35 : compFunc prog glb 35 p35 = some c35 := by kernel_rfl
def pr35_0 : List Plan := []
def r35_0 : RoundC := ⟨[7],
 (.region [⟨(some 3), (.move (.t 7)), none⟩]),
 (.block 1 (.seq (.region [⟨(some 8), (.move (.t 3)), none⟩,
    ⟨(some 9), (.call (.c (.func 92 [] [])) [.t 8]), none⟩,
    ⟨(some 4), (.move (.t 9)), none⟩])
  (.seq (.region [⟨(some 10), (.move (.t 4)), none⟩,
     ⟨(some 11), (.move (.t 3)), none⟩,
     ⟨(some 12), (.call (.c (.func 93 [] [])) [.t 11]), none⟩,
     ⟨(some 13), (.move (.t 3)), none⟩,
     ⟨(some 14), (.call (.c (.func 94 [] [])) [.t 13]), none⟩,
     ⟨(some 15), (.bin (.add) (.t 12) (.t 14)), none⟩,
     ⟨(some 16), (.move (.t 3)), none⟩,
     ⟨(some 17), (.call (.c (.func 95 [] [])) [.t 16]), none⟩,
     ⟨(some 18), (.bin (.sub) (.t 15) (.t 17)), none⟩,
     ⟨(some 19), (.bin (.neq) (.t 10) (.t 18)), none⟩,
     ⟨(some 20), (.move (.t 19)), none⟩,
     ⟨(some 21), (.move (.t 4)), (some (20, false))⟩,
     ⟨(some 22), (.bin (.lss) (.t 21) (.c (.int (.i64) 0))), (some (20, false))⟩,
     ⟨(some 23), (.pick (.t 20) (.c (.bool true)) (.t 22)), none⟩,
     ⟨(some 24), (.move (.t 23)), none⟩,
     ⟨(some 25), (.move (.t 4)), (some (24, false))⟩,
     ⟨(some 26), (.bin (.gtr) (.t 25) (.c (.int (.i64) 0))), (some (24, false))⟩,
     ⟨(some 27), (.move (.t 26)), (some (24, false))⟩,
     ⟨(some 28), (.move (.t 3)), (some (27, true))⟩,
     ⟨(some 29), (.call (.c (.func 96 [] [])) [.t 28]), (some (27, true))⟩,
     ⟨(some 30), (.len (.slice) (.t 29)), (some (27, true))⟩,
     ⟨(some 31), (.bin (.gtr) (.t 30) (.c (.int (.i64) 0))), (some (27, true))⟩,
     ⟨(some 32), (.pick (.t 27) (.t 31) (.c (.bool false))), (some (24, false))⟩,
     ⟨(some 33), (.pick (.t 24) (.c (.bool true)) (.t 32)), none⟩])
   (.cond (.t 33) (.seq (.region [⟨none, (.store 1 (.t 2) (.c (.bool false))), none⟩])
     (.ret))
    (.skip)))))⟩
theorem okr35_0 : compRound prog glb 35 0 pr35_0 = some r35_0 := by kernel_rfl
/-- (signalbox/audit.look).alone -/
def p36 : List Plan := []
def c36 : CFunc := ⟨63, [.cell 2 false 1],
 .seq (.region [⟨(some 1), (.box (.t 0)), none⟩,
   ⟨(some 2), (.new [.bool false]), none⟩])
 (.seq (.seq (.region [⟨(some 8), (.load true 3 (.t 1)), none⟩,
     ⟨(some 9), (.call (.c (.func 97 [] [])) [.t 8]), none⟩])
   (.block 0 (.rangeF 36 0 1 (.t 9))))
  (.seq (.region [⟨none, (.store 1 (.t 2) (.c (.bool true))), none⟩])
   (.ret)))⟩
theorem ok36 : compFunc prog glb 36 p36 = some c36 := by kernel_rfl
def pr36_0 : List Plan := []
def r36_0 : RoundC := ⟨[10],
 (.region [⟨(some 3), (.move (.t 10)), none⟩]),
 (.block 1 (.seq (.region [⟨(some 11), (.move (.t 3)), none⟩,
    ⟨(some 12), (.call (.c (.func 55 [] [])) [.t 11]), none⟩,
    ⟨(some 4), (.move (.t 12)), none⟩])
  (.seq (.seq (.region [⟨(some 13), (.move (.t 4)), none⟩,
      ⟨(some 14), (.bin (.eql) (.t 13) (.c (.int (.i64) 0))), none⟩,
      ⟨(some 15), (.move (.t 14)), none⟩,
      ⟨(some 16), (.move (.t 3)), (some (15, true))⟩,
      ⟨(some 17), (.call (.c (.func 98 [] [])) [.t 16]), (some (15, true))⟩,
      ⟨(some 18), (.len (.slice) (.t 17)), (some (15, true))⟩,
      ⟨(some 19), (.bin (.gtr) (.t 18) (.c (.int (.i64) 0))), (some (15, true))⟩,
      ⟨(some 20), (.pick (.t 15) (.t 19) (.c (.bool false))), none⟩,
      ⟨(some 21), (.move (.t 20)), none⟩,
      ⟨(some 22), (.move (.t 4)), (some (21, false))⟩,
      ⟨(some 23), (.bin (.neq) (.t 22) (.c (.int (.i64) 0))), (some (21, false))⟩,
      ⟨(some 24), (.move (.t 23)), (some (21, false))⟩,
      ⟨(some 25), (.load true 3 (.t 1)), (some (24, true))⟩,
      ⟨(some 26), (.move (.t 4)), (some (24, true))⟩,
      ⟨(some 27), (.call (.c (.func 99 [] [])) [.t 25, .t 26]), (some (24, true))⟩,
      ⟨(some 28), (.un (.not) (.t 27)), (some (24, true))⟩,
      ⟨(some 29), (.pick (.t 24) (.t 28) (.c (.bool false))), (some (21, false))⟩,
      ⟨(some 30), (.move (.t 29)), (some (21, false))⟩,
      ⟨(some 31), (.load true 3 (.t 1)), (some (30, true))⟩,
      ⟨(some 32), (.move (.t 4)), (some (30, true))⟩,
      ⟨(some 33), (.call (.c (.func 100 [] [])) [.t 31, .t 32]), (some (30, true))⟩,
      ⟨(some 34), (.un (.not) (.t 33)), (some (30, true))⟩,
      ⟨(some 35), (.pick (.t 30) (.t 34) (.c (.bool false))), (some (21, false))⟩,
      ⟨(some 36), (.pick (.t 21) (.c (.bool true)) (.t 35)), none⟩])
    (.cond (.t 36) (.seq (.region [⟨none, (.store 1 (.t 2) (.c (.bool false))), none⟩])
      (.ret))
     (.skip)))
   (.seq (.region [⟨(some 37), (.newMap), none⟩,
      ⟨(some 38), (.move (.t 4)), none⟩,
      ⟨none, (.mapUpdate (.one (.int)) (.t 37) (.t 38) (.c (.bool true))), none⟩,
      ⟨(some 39), (.move (.t 37)), none⟩,
      ⟨(some 5), (.move (.t 39)), none⟩])
    (.seq (.region [⟨(some 40), (.move (.t 3)), none⟩,
       ⟨(some 41), (.call (.c (.func 98 [] [])) [.t 40]), none⟩,
       ⟨(some 42), (.move (.t 3)), none⟩,
       ⟨(some 43), (.call (.c (.func 102 [] [])) [.t 42]), none⟩,
       ⟨(some 44), (.buildSlice [.nilSlice] 2 [(0, 1, .t 41), (1, 1, .t 43)]), none⟩,
       ⟨(some 45), (.call (.c (.func 101 [] [])) [.t 44]), none⟩,
       ⟨(some 46), (.len (.slice) (.t 45)), none⟩,
       ⟨(some 47), (.move (.c (.int (.i64) 0))), none⟩])
     (.block 2 (.loop (.seq (.region [⟨(some 48), (.bin (.lss) (.t 47) (.t 46)), none⟩])
        (.seq (.cond (.t 48) (.skip)
          (.exit 2))
         (.seq (.block 3 (.seq (.region [⟨(some 49), (.indexAddr 1 (.t 45) (.t 47)), none⟩,
              ⟨(some 50), (.load false 1 (.t 49)), none⟩,
              ⟨(some 7), (.move (.t 50)), none⟩])
            (.seq (.seq (.region [⟨(some 51), (.move (.t 5)), none⟩,
                ⟨(some 52), (.move (.t 7)), none⟩,
                ⟨(some 53), (.lookup (.one (.int)) (.bool false) false (.t 51) (.t 52)), none⟩,
                ⟨(some 54), (.move (.t 53)), none⟩,
                ⟨(some 55), (.load true 3 (.t 1)), (some (54, false))⟩,
                ⟨(some 56), (.move (.t 7)), (some (54, false))⟩,
                ⟨(some 57), (.call (.c (.func 99 [] [])) [.t 55, .t 56]), (some (54, false))⟩,
                ⟨(some 58), (.un (.not) (.t 57)), (some (54, false))⟩,
                ⟨(some 59), (.pick (.t 54) (.c (.bool true)) (.t 58)), none⟩])
              (.cond (.t 59) (.seq (.region [⟨none, (.store 1 (.t 2) (.c (.bool false))), none⟩])
                (.ret))
               (.skip)))
             (.region [⟨(some 60), (.move (.t 5)), none⟩,
               ⟨(some 61), (.move (.t 7)), none⟩,
               ⟨none, (.mapUpdate (.one (.int)) (.t 60) (.t 61) (.c (.bool true))), none⟩]))))
          (.region [⟨(some 62), (.bin (.add) (.t 47) (.c (.int (.i64) 1))), none⟩,
            ⟨(some 47), (.move (.t 62)), none⟩])))))))))))⟩
theorem okr36_0 : compRound prog glb 36 0 pr36_0 = some r36_0 := by kernel_rfl
/-- (signalbox/audit.look).places -/
def p37 : List Plan := [⟨[(0, .quiet [0]), (1, .eff), (2, .quiet [0, 2]), (3, .eff), (4, .quiet [4]), (5, .quiet [4]), (6, .quiet [4]), (7, .eff), (8, .quiet [4, 8]), (9, .quiet [4, 8]), (10, .eff), (11, .quiet [11]), (12, .quiet [11]), (13, .quiet [11])], 0, [0, 1, 0, 7, 15, 31, 63, 127, 63, 319, 1023, 2047, 4095, 8191]⟩]
def c37 : CFunc := ⟨20, [.tmp 2],
 .seq (.region [⟨(some 1), (.box (.t 0)), none⟩,
   ⟨(some 2), (.move (.c (.bool false))), none⟩])
 (.seq (.region [⟨(some 4), (.fieldAddr 0 (.t 1)), none⟩,
    ⟨(some 5), (.load false 1 (.t 4)), none⟩,
    ⟨(some 6), (.call (.c (.func 23 [] [])) [.t 5]), none⟩,
    ⟨(some 3), (.move (.t 6)), none⟩])
  (.seq (.draw [⟨0, ⟨(some 7), (.move (.t 3)), none⟩, (.quiet [0])⟩,
     ⟨1, ⟨(some 8), (.call (.c (.func 103 [] [])) [.t 7]), none⟩, (.eff)⟩,
     ⟨2, ⟨(some 9), (.func 104 [] [.t 1]), none⟩, (.quiet [0, 2])⟩,
     ⟨3, ⟨(some 10), (.call (.c (.func 86 [] [])) [.t 8, .t 9]), none⟩, (.eff)⟩,
     ⟨4, ⟨(some 11), (.un (.not) (.t 10)), none⟩, (.quiet [4])⟩,
     ⟨5, ⟨(some 12), (.move (.t 11)), none⟩, (.quiet [4])⟩,
     ⟨6, ⟨(some 13), (.move (.t 3)), (some (12, true))⟩, (.quiet [4])⟩,
     ⟨7, ⟨(some 14), (.call (.c (.func 106 [] [])) [.t 13]), (some (12, true))⟩, (.eff)⟩,
     ⟨8, ⟨(some 15), (.load true 3 (.t 1)), (some (12, true))⟩, (.quiet [4, 8])⟩,
     ⟨9, ⟨(some 16), (.func 107 [.t 15] []), (some (12, true))⟩, (.quiet [4, 8])⟩,
     ⟨10, ⟨(some 17), (.call (.c (.func 86 [] [])) [.t 14, .t 16]), (some (12, true))⟩, (.eff)⟩,
     ⟨11, ⟨(some 18), (.un (.not) (.t 17)), (some (12, true))⟩, (.quiet [11])⟩,
     ⟨12, ⟨(some 19), (.pick (.t 12) (.t 18) (.c (.bool false))), none⟩, (.quiet [11])⟩,
     ⟨13, ⟨(some 2), (.move (.t 19)), none⟩, (.quiet [11])⟩] 0)
   (.ret)))⟩
theorem ok37 : compFunc prog glb 37 p37 = some c37 := by kernel_rfl
/-- (*signalbox/alloc.Alloc).Stuck -/
def p38 : List Plan := [⟨[(2, .quiet [0]), (1, .quiet [0]), (3, .eff), (4, .eff), (0, .quiet [0, 3, 4]), (5, .eff), (7, .quiet [0, 3, 4, 6]), (8, .quiet [0, 3, 4, 6]), (9, .quiet [0, 3, 4, 6]), (10, .quiet [0, 3, 4, 6]), (11, .quiet [0, 3, 4, 6]), (12, .eff), (13, .eff), (6, .quiet [0, 3, 4, 6, 12, 13]), (14, .eff), (15, .quiet [15]), (16, .quiet [15])], 0, [0, 0, 0, 6, 14, 31, 0, 0, 128, 384, 896, 1920, 4031, 8127, 16383, 32767, 65535]⟩, ⟨[(4, .quiet [0]), (5, .eff), (0, .quiet [0, 2]), (1, .quiet [0, 2]), (2, .quiet [0, 2]), (3, .quiet [0, 2]), (6, .eff), (7, .quiet [7])], 0, [0, 1, 3, 7, 0, 16, 63, 127]⟩]
def c38 : CFunc := ⟨80, [.tmp 2],
 .seq (.region [⟨(some 2), (.move (.c (.nilSlice))), none⟩])
 (.seq (.seq (.region [⟨(some 11), (.move (.t 0)), none⟩,
     ⟨(some 12), (.eq (.ptr) false (.t 11) (.c (.nilPtr))), none⟩])
   (.cond (.t 12) (.seq (.region [⟨(some 2), (.move (.c (.nilSlice))), none⟩])
     (.ret))
    (.skip)))
  (.seq (.region [⟨(some 13), (.move (.t 0)), none⟩,
     ⟨(some 14), (.call (.c (.func 84 [] [])) [.t 13]), none⟩,
     ⟨(some 3), (.move (.t 14)), none⟩])
   (.seq (.region [⟨(some 4), (.move (.c (.nilSlice))), none⟩,
      ⟨(some 5), (.move (.c (.nilSlice))), none⟩])
    (.seq (.seq (.region [⟨(some 15), (.move (.t 3)), none⟩,
        ⟨(some 16), (.len (.slice) (.t 15)), none⟩,
        ⟨(some 17), (.move (.c (.int (.i64) 0))), none⟩])
      (.block 0 (.loop (.seq (.region [⟨(some 18), (.bin (.lss) (.t 17) (.t 16)), none⟩])
         (.seq (.cond (.t 18) (.skip)
           (.exit 0))
          (.seq (.block 1 (.seq (.region [⟨(some 19), (.indexAddr 1 (.t 15) (.t 17)), none⟩,
               ⟨(some 20), (.load false 1 (.t 19)), none⟩,
               ⟨(some 7), (.move (.t 20)), none⟩])
             (.seq (.draw [⟨2, ⟨(some 23), (.move (.t 7)), none⟩, (.quiet [0])⟩,
                ⟨1, ⟨(some 22), (.move (.t 0)), none⟩, (.quiet [0])⟩,
                ⟨3, ⟨(some 24), (.call (.c (.func 47 [] [])) [.t 22, .t 23]), none⟩, (.eff)⟩,
                ⟨4, ⟨(some 25), (.buildSlice [.nilSlice] 1 [(0, 1, .t 24)]), none⟩, (.eff)⟩,
                ⟨0, ⟨(some 21), (.move (.t 4)), none⟩, (.quiet [0, 3, 4])⟩,
                ⟨5, ⟨(some 26), (.append 1 24 (.t 21) (.t 25)), none⟩, (.eff)⟩,
                ⟨7, ⟨(some 28), (.move (.t 0)), none⟩, (.quiet [0, 3, 4, 6])⟩,
                ⟨8, ⟨(some 29), (.nilCheck (.t 28)), none⟩, (.quiet [0, 3, 4, 6])⟩,
                ⟨9, ⟨(some 30), (.fieldAddr 0 (.t 29)), none⟩, (.quiet [0, 3, 4, 6])⟩,
                ⟨10, ⟨(some 31), (.load false 1 (.t 30)), none⟩, (.quiet [0, 3, 4, 6])⟩,
                ⟨11, ⟨(some 32), (.len (.slice) (.t 31)), none⟩, (.quiet [0, 3, 4, 6])⟩,
                ⟨12, ⟨(some 33), (.call (.c (.func 108 [] [])) [.t 32]), none⟩, (.eff)⟩,
                ⟨13, ⟨(some 34), (.buildSlice [.nilSlice] 1 [(0, 1, .t 33)]), none⟩, (.eff)⟩,
                ⟨6, ⟨(some 27), (.move (.t 5)), none⟩, (.quiet [0, 3, 4, 6, 12, 13])⟩,
                ⟨14, ⟨(some 35), (.append 1 24 (.t 27) (.t 34)), none⟩, (.eff)⟩,
                ⟨15, ⟨(some 4), (.move (.t 26)), none⟩, (.quiet [15])⟩,
                ⟨16, ⟨(some 5), (.move (.t 35)), none⟩, (.quiet [15])⟩] 0)
              (.seq (.draw [⟨4, ⟨(some 40), (.move (.t 7)), none⟩, (.quiet [0])⟩,
                 ⟨5, ⟨(some 41), (.call (.c (.func 110 [] [])) [.t 40]), none⟩, (.eff)⟩,
                 ⟨0, ⟨(some 36), (.move (.t 0)), none⟩, (.quiet [0, 2])⟩,
                 ⟨1, ⟨(some 37), (.nilCheck (.t 36)), none⟩, (.quiet [0, 2])⟩,
                 ⟨2, ⟨(some 38), (.fieldAddr 8 (.t 37)), none⟩, (.quiet [0, 2])⟩,
                 ⟨3, ⟨(some 39), (.load false 1 (.t 38)), none⟩, (.quiet [0, 2])⟩,
                 ⟨6, ⟨(some 42), (.call (.c (.func 109 [] [])) [.t 39, .t 41]), none⟩, (.eff)⟩,
                 ⟨7, ⟨(some 8), (.move (.t 42)), none⟩, (.quiet [7])⟩] 0)
               (.seq (.region [⟨(some 43), (.move (.t 8)), none⟩,
                  ⟨(some 44), (.bin (.geq) (.t 43) (.c (.int (.i64) 0))), none⟩])
                (.cond (.t 44) (.region [⟨(some 45), (.move (.t 5)), none⟩,
                   ⟨(some 46), (.move (.t 5)), none⟩,
                   ⟨(some 47), (.len (.slice) (.t 46)), none⟩,
                   ⟨(some 48), (.bin (.sub) (.t 47) (.c (.int (.i64) 1))), none⟩,
                   ⟨(some 49), (.move (.t 0)), none⟩,
                   ⟨(some 50), (.nilCheck (.t 49)), none⟩,
                   ⟨(some 51), (.fieldAddr 8 (.t 50)), none⟩,
                   ⟨(some 52), (.load false 1 (.t 51)), none⟩,
                   ⟨(some 53), (.move (.t 8)), none⟩,
                   ⟨(some 54), (.indexAddr 2 (.t 52) (.t 53)), none⟩,
                   ⟨(some 55), (.fieldAddr 1 (.t 54)), none⟩,
                   ⟨(some 56), (.load false 1 (.t 55)), none⟩,
                   ⟨(some 57), (.indexAddr 1 (.t 45) (.t 48)), none⟩,
                   ⟨none, (.store 1 (.t 57) (.t 56)), none⟩])
                 (.skip)))))))
           (.region [⟨(some 58), (.bin (.add) (.t 17) (.c (.int (.i64) 1))), none⟩,
             ⟨(some 17), (.move (.t 58)), none⟩])))))))
     (.seq (.seq (.region [⟨(some 59), (.move (.t 0)), none⟩,
         ⟨(some 60), (.nilCheck (.t 59)), none⟩,
         ⟨(some 61), (.fieldAddr 5 (.t 60)), none⟩,
         ⟨(some 62), (.load false 1 (.t 61)), none⟩,
         ⟨(some 63), (.move (.t 4)), none⟩,
         ⟨(some 64), (.move (.t 5)), none⟩,
         ⟨(some 65), (.call (.c (.func 111 [] [])) [.t 62, .t 63, .t 64]), none⟩,
         ⟨(some 66), (.len (.slice) (.t 65)), none⟩,
         ⟨(some 67), (.move (.c (.int (.i64) 0))), none⟩])
       (.block 2 (.loop (.seq (.region [⟨(some 68), (.bin (.lss) (.t 67) (.t 66)), none⟩])
          (.seq (.cond (.t 68) (.skip)
            (.exit 2))
           (.seq (.block 3 (.seq (.region [⟨(some 69), (.indexAddr 1 (.t 65) (.t 67)), none⟩,
                ⟨(some 70), (.load false 1 (.t 69)), none⟩,
                ⟨(some 10), (.move (.t 70)), none⟩])
              (.region [⟨(some 71), (.move (.t 2)), none⟩,
                ⟨(some 72), (.move (.t 3)), none⟩,
                ⟨(some 73), (.move (.t 10)), none⟩,
                ⟨(some 74), (.indexAddr 1 (.t 72) (.t 73)), none⟩,
                ⟨(some 75), (.load false 1 (.t 74)), none⟩,
                ⟨(some 76), (.buildSlice [.int (.i64) 0] 1 [(0, 1, .t 75)]), none⟩,
                ⟨(some 77), (.append 1 8 (.t 71) (.t 76)), none⟩,
                ⟨(some 2), (.move (.t 77)), none⟩])))
            (.region [⟨(some 78), (.bin (.add) (.t 67) (.c (.int (.i64) 1))), none⟩,
              ⟨(some 67), (.move (.t 78)), none⟩])))))))
      (.seq (.region [⟨(some 79), (.move (.t 2)), none⟩,
         ⟨(some 2), (.move (.t 79)), none⟩])
       (.ret)))))))⟩
theorem ok38 : compFunc prog glb 38 p38 = some c38 := by kernel_rfl
/-- signalbox/signalboxref1.Events -/
def p39 : List Plan := []
def c39 : CFunc := ⟨15, [.tmp 4],
 .seq (.region [⟨(some 4), (.move (.c (.bool false))), none⟩])
 (.seq (.region [⟨(some 5), (.move (.t 0)), none⟩,
    ⟨(some 6), (.len (.slice) (.t 5)), none⟩,
    ⟨(some 7), (.move (.t 1)), none⟩,
    ⟨(some 8), (.len (.slice) (.t 7)), none⟩,
    ⟨(some 9), (.bin (.eql) (.t 6) (.t 8)), none⟩,
    ⟨(some 10), (.move (.t 9)), none⟩,
    ⟨(some 11), (.move (.t 0)), (some (10, true))⟩,
    ⟨(some 12), (.move (.t 1)), (some (10, true))⟩,
    ⟨(some 13), (.call (.c (.func 112 [] [])) [.t 11, .t 12]), (some (10, true))⟩,
    ⟨(some 14), (.pick (.t 10) (.t 13) (.c (.bool false))), none⟩,
    ⟨(some 4), (.move (.t 14)), none⟩])
  (.ret))⟩
theorem ok39 : compFunc prog glb 39 p39 = some c39 := by kernel_rfl
/-- (*signalbox/procs.Table).Count -/
def p40 : List Plan := []
def c40 : CFunc := ⟨9, [.tmp 2],
 .seq (.region [⟨(some 2), (.move (.c (.int (.i64) 0))), none⟩])
 (.seq (.seq (.region [⟨(some 3), (.move (.t 0)), none⟩,
     ⟨(some 4), (.eq (.ptr) false (.t 3) (.c (.nilPtr))), none⟩])
   (.cond (.t 4) (.seq (.region [⟨(some 2), (.move (.c (.int (.i64) 0))), none⟩])
     (.ret))
    (.skip)))
  (.seq (.region [⟨(some 5), (.move (.t 0)), none⟩,
     ⟨(some 6), (.nilCheck (.t 5)), none⟩,
     ⟨(some 7), (.fieldAddr 1 (.t 6)), none⟩,
     ⟨(some 8), (.call (.c (.func 113 [] [])) [.t 7]), none⟩,
     ⟨(some 2), (.move (.t 8)), none⟩])
   (.ret)))⟩
theorem ok40 : compFunc prog glb 40 p40 = some c40 := by kernel_rfl
/-- signalbox/units.Is -/
def p41 : List Plan := []
def c41 : CFunc := ⟨13, [.tmp 4],
 .seq (.region [⟨(some 4), (.move (.c (.bool false))), none⟩])
 (.seq (.region [⟨(some 5), (.move (.t 0)), none⟩,
    ⟨(some 6), (.len (.slice) (.t 5)), none⟩,
    ⟨(some 7), (.move (.t 1)), none⟩,
    ⟨(some 8), (.bin (.eql) (.t 6) (.t 7)), none⟩,
    ⟨(some 9), (.move (.t 8)), none⟩,
    ⟨(some 10), (.move (.t 0)), (some (9, true))⟩,
    ⟨(some 11), (.call (.c (.func 114 [] [])) [.t 10]), (some (9, true))⟩,
    ⟨(some 12), (.pick (.t 9) (.t 11) (.c (.bool false))), none⟩,
    ⟨(some 4), (.move (.t 12)), none⟩])
  (.ret))⟩
theorem ok41 : compFunc prog glb 41 p41 = some c41 := by kernel_rfl
/-- (*signalbox/kernel.Kernel).Start$1 -/
def p42 : List Plan := []
def c42 : CFunc := ⟨4, [],
 .region [⟨(some 2), (.load false 1 (.t 0)), none⟩,
  ⟨(some 3), (.call (.c (.func 43 [] [])) [.t 2]), none⟩,
  ⟨none, (.store 1 (.t 1) (.t 3)), none⟩]⟩
theorem ok42 : compFunc prog glb 42 p42 = some c42 := by kernel_rfl
/-- (*signalbox/kernel.Kernel).told -/
def p43 : List Plan := []
def c43 : CFunc := ⟨12, [.tmp 2],
 .seq (.region [⟨(some 2), (.move (.c (.nilSlice))), none⟩])
 (.seq (.region [⟨(some 4), (.move (.t 0)), none⟩,
    ⟨(some 5), (.nilCheck (.t 4)), none⟩,
    ⟨(some 6), (.fieldAddr 5 (.t 5)), none⟩,
    ⟨(some 7), (.load false 1 (.t 6)), none⟩,
    ⟨(some 3), (.move (.t 7)), none⟩])
  (.seq (.region [⟨(some 8), (.move (.t 0)), none⟩,
     ⟨(some 9), (.nilCheck (.t 8)), none⟩,
     ⟨(some 10), (.fieldAddr 5 (.t 9)), none⟩,
     ⟨none, (.store 1 (.t 10) (.c (.nilSlice))), none⟩])
   (.seq (.region [⟨(some 11), (.move (.t 3)), none⟩,
      ⟨(some 2), (.move (.t 11)), none⟩])
    (.ret))))⟩
theorem ok43 : compFunc prog glb 43 p43 = some c43 := by kernel_rfl
/-- (*signalbox/kernel.Kernel).spawn -/
def p44 : List Plan := []
def c44 : CFunc := ⟨44, [.tmp 6, .tmp 7],
 .seq (.region [⟨(some 6), (.move (.c (.int (.i64) 0))), none⟩,
   ⟨(some 7), (.move (.c (.int (.i64) 0))), none⟩])
 (.seq (.region [⟨(some 12), (.move (.t 0)), none⟩,
    ⟨(some 13), (.nilCheck (.t 12)), none⟩,
    ⟨(some 14), (.fieldAddr 0 (.t 13)), none⟩,
    ⟨(some 15), (.load false 1 (.t 14)), none⟩,
    ⟨(some 16), (.move (.t 1)), none⟩,
    ⟨(some 17), (.call (.c (.func 115 [] [])) [.t 15, .t 16]), none⟩,
    ⟨(some 11), (.move (.t 17)), none⟩,
    ⟨(some 18), (.extract (.t 11) 0), none⟩,
    ⟨(some 19), (.extract (.t 11) 1), none⟩,
    ⟨(some 8), (.move (.t 18)), none⟩,
    ⟨(some 9), (.move (.t 19)), none⟩])
  (.seq (.seq (.region [⟨(some 20), (.move (.t 9)), none⟩,
      ⟨(some 21), (.bin (.neq) (.t 20) (.c (.int (.i64) 0))), none⟩])
    (.cond (.t 21) (.seq (.region [⟨(some 22), (.move (.t 9)), none⟩,
        ⟨(some 6), (.move (.c (.int (.i64) 0))), none⟩,
        ⟨(some 7), (.move (.t 22)), none⟩])
      (.ret))
     (.skip)))
   (.seq (.seq (.region [⟨(some 23), (.move (.t 0)), none⟩,
       ⟨(some 24), (.nilCheck (.t 23)), none⟩,
       ⟨(some 25), (.fieldAddr 1 (.t 24)), none⟩,
       ⟨(some 26), (.load false 1 (.t 25)), none⟩,
       ⟨(some 27), (.move (.t 8)), none⟩,
       ⟨(some 28), (.move (.t 2)), none⟩,
       ⟨(some 29), (.call (.c (.func 116 [] [])) [.t 26, .t 27, .t 28]), none⟩,
       ⟨(some 10), (.move (.t 29)), none⟩])
     (.seq (.region [⟨(some 30), (.move (.t 10)), none⟩,
        ⟨(some 31), (.bin (.neq) (.t 30) (.c (.int (.i64) 0))), none⟩])
      (.cond (.t 31) (.seq (.region [⟨(some 32), (.move (.t 0)), none⟩,
          ⟨(some 33), (.nilCheck (.t 32)), none⟩,
          ⟨(some 34), (.fieldAddr 0 (.t 33)), none⟩,
          ⟨(some 35), (.load false 1 (.t 34)), none⟩,
          ⟨(some 36), (.move (.t 8)), none⟩,
          ⟨(some 37), (.move (.t 10)), none⟩,
          ⟨(some 38), (.call (.c (.func 117 [] [])) [.t 35, .t 36, .t 37]), none⟩])
        (.region [⟨(some 39), (.move (.t 0)), none⟩,
          ⟨(some 40), (.move (.t 8)), none⟩,
          ⟨(some 41), (.move (.t 10)), none⟩,
          ⟨(some 42), (.call (.c (.func 51 [] [])) [.t 39, .c (.int (.i64) 4), .t 40, .t 41, .c (.int (.i64) 0)]), none⟩]))
       (.skip))))
    (.seq (.region [⟨(some 43), (.move (.t 8)), none⟩,
       ⟨(some 6), (.move (.t 43)), none⟩,
       ⟨(some 7), (.move (.c (.int (.i64) 0))), none⟩])
     (.ret)))))⟩
theorem ok44 : compFunc prog glb 44 p44 = some c44 := by kernel_rfl
/-- (*signalbox/kernel.Kernel).ready -/
def p45 : List Plan := []
def c45 : CFunc := ⟨10, [.tmp 4],
 .seq (.region [⟨(some 4), (.move (.c (.bool false))), none⟩])
 (.seq (.region [⟨(some 5), (.move (.t 0)), none⟩,
    ⟨(some 6), (.call (.c (.func 23 [] [])) [.t 5]), none⟩,
    ⟨(some 7), (.move (.t 1)), none⟩,
    ⟨(some 8), (.call (.c (.func 118 [] [])) [.t 6, .t 7]), none⟩,
    ⟨(some 9), (.bin (.eql) (.t 8) (.c (.int (.i64) 1))), none⟩,
    ⟨(some 4), (.move (.t 9)), none⟩])
  (.ret))⟩
theorem ok45 : compFunc prog glb 45 p45 = some c45 := by kernel_rfl
/-- signalbox/units.None -/
def p46 : List Plan := []
def c46 : CFunc := ⟨14, [.tmp 2],
 .seq (.region [⟨(some 2), (.move (.c (.bool false))), none⟩])
 (.seq (.seq (.region [⟨(some 5), (.move (.t 0)), none⟩,
     ⟨(some 6), (.len (.slice) (.t 5)), none⟩,
     ⟨(some 7), (.move (.c (.int (.i64) 0))), none⟩])
   (.block 0 (.loop (.seq (.region [⟨(some 8), (.bin (.lss) (.t 7) (.t 6)), none⟩])
      (.seq (.cond (.t 8) (.skip)
        (.exit 0))
       (.seq (.block 1 (.seq (.region [⟨(some 9), (.indexAddr 1 (.t 5) (.t 7)), none⟩,
            ⟨(some 10), (.load false 1 (.t 9)), none⟩,
            ⟨(some 4), (.move (.t 10)), none⟩])
          (.seq (.region [⟨(some 11), (.move (.t 4)), none⟩,
             ⟨(some 12), (.bin (.neq) (.t 11) (.c (.int (.i64) 0))), none⟩])
           (.cond (.t 12) (.seq (.region [⟨(some 2), (.move (.c (.bool false))), none⟩])
             (.ret))
            (.skip)))))
        (.region [⟨(some 13), (.bin (.add) (.t 7) (.c (.int (.i64) 1))), none⟩,
          ⟨(some 7), (.move (.t 13)), none⟩])))))))
  (.seq (.region [⟨(some 2), (.move (.c (.bool true))), none⟩])
   (.ret)))⟩
theorem ok46 : compFunc prog glb 46 p46 = some c46 := by kernel_rfl
/-- (*signalbox/alloc.Alloc).Held -/
def p47 : List Plan := []
def c47 : CFunc := ⟨31, [.tmp 4],
 .seq (.region [⟨(some 4), (.move (.c (.nilSlice))), none⟩])
 (.seq (.seq (.region [⟨(some 6), (.move (.t 0)), none⟩,
     ⟨(some 7), (.move (.t 1)), none⟩,
     ⟨(some 8), (.call (.c (.func 119 [] [])) [.t 6, .t 7]), none⟩,
     ⟨(some 9), (.un (.not) (.t 8)), none⟩])
   (.cond (.t 9) (.seq (.region [⟨(some 4), (.move (.c (.nilSlice))), none⟩])
     (.ret))
    (.skip)))
  (.seq (.seq (.region [⟨(some 10), (.move (.t 0)), none⟩,
      ⟨(some 11), (.nilCheck (.t 10)), none⟩,
      ⟨(some 12), (.fieldAddr 0 (.t 11)), none⟩,
      ⟨(some 13), (.load false 1 (.t 12)), none⟩,
      ⟨(some 14), (.len (.slice) (.t 13)), none⟩,
      ⟨(some 15), (.move (.c (.int (.i64) 0))), none⟩])
    (.block 0 (.loop (.seq (.region [⟨(some 16), (.bin (.lss) (.t 15) (.t 14)), none⟩])
       (.seq (.cond (.t 16) (.skip)
         (.exit 0))
        (.seq (.block 1 (.seq (.region [⟨(some 17), (.move (.t 15)), none⟩,
             ⟨(some 5), (.move (.t 17)), none⟩])
           (.region [⟨(some 18), (.move (.t 4)), none⟩,
             ⟨(some 19), (.move (.t 0)), none⟩,
             ⟨(some 20), (.nilCheck (.t 19)), none⟩,
             ⟨(some 21), (.fieldAddr 6 (.t 20)), none⟩,
             ⟨(some 22), (.load false 1 (.t 21)), none⟩,
             ⟨(some 23), (.move (.t 1)), none⟩,
             ⟨(some 24), (.move (.t 5)), none⟩,
             ⟨(some 25), (.build [.int (.i64) 0, .int (.i64) 0] [(0, 1, .t 23), (1, 1, .t 24)]), none⟩,
             ⟨(some 26), (.lookup (.flat [.int, .int]) (.int (.i64) 0) false (.t 22) (.t 25)), none⟩,
             ⟨(some 27), (.buildSlice [.int (.i64) 0] 1 [(0, 1, .t 26)]), none⟩,
             ⟨(some 28), (.append 1 8 (.t 18) (.t 27)), none⟩,
             ⟨(some 4), (.move (.t 28)), none⟩])))
         (.region [⟨(some 29), (.bin (.add) (.t 15) (.c (.int (.i64) 1))), none⟩,
           ⟨(some 15), (.move (.t 29)), none⟩])))))))
   (.seq (.region [⟨(some 30), (.move (.t 4)), none⟩,
      ⟨(some 4), (.move (.t 30)), none⟩])
    (.ret))))⟩
theorem ok47 : compFunc prog glb 47 p47 = some c47 := by kernel_rfl
/-- (*signalbox/kernel.Kernel).Fork$1 -/
def p48 : List Plan := []
def c48 : CFunc := ⟨4, [],
 .region [⟨(some 2), (.load false 1 (.t 0)), none⟩,
  ⟨(some 3), (.call (.c (.func 43 [] [])) [.t 2]), none⟩,
  ⟨none, (.store 1 (.t 1) (.t 3)), none⟩]⟩
theorem ok48 : compFunc prog glb 48 p48 = some c48 := by kernel_rfl
/-- (*signalbox/kernel.Kernel).Join$1 -/
def p49 : List Plan := []
def c49 : CFunc := ⟨4, [],
 .region [⟨(some 2), (.load false 1 (.t 0)), none⟩,
  ⟨(some 3), (.call (.c (.func 43 [] [])) [.t 2]), none⟩,
  ⟨none, (.store 1 (.t 1) (.t 3)), none⟩]⟩
theorem ok49 : compFunc prog glb 49 p49 = some c49 := by kernel_rfl
/-- signalbox/join.Join -/
def p50 : List Plan := []
def c50 : CFunc := ⟨13, [.tmp 4],
 .seq (.region [⟨(some 4), (.move (.c (.bool false))), none⟩])
 (.seq (.seq (.region [⟨(some 5), (.move (.t 0)), none⟩,
     ⟨(some 6), (.move (.t 1)), none⟩,
     ⟨(some 7), (.call (.c (.func 120 [] [])) [.t 5, .t 6]), none⟩,
     ⟨(some 8), (.bin (.eql) (.t 7) (.c (.int (.i64) 0))), none⟩])
   (.cond (.t 8) (.seq (.region [⟨(some 4), (.move (.c (.bool true))), none⟩])
     (.ret))
    (.skip)))
  (.seq (.region [⟨(some 9), (.move (.t 0)), none⟩,
     ⟨(some 10), (.move (.t 1)), none⟩,
     ⟨(some 11), (.build [.int (.i64) 0, .int (.i64) 0] [(0, 1, .c (.int (.i64) 5))]), none⟩,
     ⟨(some 12), (.call (.c (.func 121 [] [])) [.t 9, .t 10, .t 11]), none⟩])
   (.seq (.region [⟨(some 4), (.move (.c (.bool false))), none⟩])
    (.ret))))⟩
theorem ok50 : compFunc prog glb 50 p50 = some c50 := by kernel_rfl
/-- (*signalbox/kernel.Kernel).tell -/
def p51 : List Plan := []
def c51 : CFunc := ⟨24, [],
 .region [⟨(some 10), (.move (.t 0)), none⟩,
  ⟨(some 11), (.move (.t 0)), none⟩,
  ⟨(some 12), (.nilCheck (.t 11)), none⟩,
  ⟨(some 13), (.fieldAddr 5 (.t 12)), none⟩,
  ⟨(some 14), (.load false 1 (.t 13)), none⟩,
  ⟨(some 15), (.move (.t 1)), none⟩,
  ⟨(some 16), (.move (.t 2)), none⟩,
  ⟨(some 17), (.move (.t 3)), none⟩,
  ⟨(some 18), (.move (.t 4)), none⟩,
  ⟨(some 19), (.build [.int (.i64) 0, .int (.i64) 0, .int (.i64) 0, .int (.i64) 0, .int (.i64) 0] [(1, 1, .t 15), (2, 1, .t 16), (3, 1, .t 17), (4, 1, .t 18)]), none⟩,
  ⟨(some 20), (.buildSlice [.int (.i64) 0, .int (.i64) 0, .int (.i64) 0, .int (.i64) 0, .int (.i64) 0] 1 [(0, 5, .t 19)]), none⟩,
  ⟨(some 21), (.append 5 40 (.t 14) (.t 20)), none⟩,
  ⟨(some 22), (.nilCheck (.t 10)), none⟩,
  ⟨(some 23), (.fieldAddr 5 (.t 22)), none⟩,
  ⟨none, (.store 1 (.t 23) (.t 21)), none⟩]⟩
theorem ok51 : compFunc prog glb 51 p51 = some c51 := by kernel_rfl
/-- (*signalbox/kernel.Kernel).P$1 -/
def p52 : List Plan := []
def c52 : CFunc := ⟨4, [],
 .region [⟨(some 2), (.load false 1 (.t 0)), none⟩,
  ⟨(some 3), (.call (.c (.func 43 [] [])) [.t 2]), none⟩,
  ⟨none, (.store 1 (.t 1) (.t 3)), none⟩]⟩
theorem ok52 : compFunc prog glb 52 p52 = some c52 := by kernel_rfl
/-- (*signalbox/sema.Sema).P -/
def p53 : List Plan := []
def c53 : CFunc := ⟨39, [.tmp 4],
 .seq (.region [⟨(some 4), (.move (.c (.bool false))), none⟩])
 (.seq (.block 0 (.seq (.region [⟨(some 6), (.move (.t 0)), none⟩,
      ⟨(some 7), (.eq (.ptr) false (.t 6) (.c (.nilPtr))), none⟩,
      ⟨(some 8), (.move (.t 7)), none⟩,
      ⟨(some 9), (.move (.t 1)), (some (8, false))⟩,
      ⟨(some 10), (.bin (.lss) (.t 9) (.c (.int (.i64) 1))), (some (8, false))⟩,
      ⟨(some 11), (.pick (.t 8) (.c (.bool true)) (.t 10)), none⟩,
      ⟨(some 5), (.move (.t 11)), none⟩])
    (.cond (.t 5) (.seq (.region [⟨(some 4), (.move (.c (.bool false))), none⟩])
      (.ret))
     (.seq (.region [⟨(some 13), (.move (.t 0)), none⟩,
        ⟨(some 14), (.nilCheck (.t 13)), none⟩,
        ⟨(some 15), (.fieldAddr 0 (.t 14)), none⟩,
        ⟨(some 16), (.call (.c (.func 113 [] [])) [.t 15]), none⟩,
        ⟨(some 17), (.bin (.gtr) (.t 16) (.c (.int (.i64) 0))), none⟩,
        ⟨(some 12), (.move (.t 17)), none⟩])
      (.cond (.t 12) (.seq (.region [⟨(some 18), (.move (.t 0)), none⟩,
          ⟨(some 19), (.nilCheck (.t 18)), none⟩,
          ⟨(some 20), (.fieldAddr 0 (.t 19)), none⟩,
          ⟨(some 21), (.call (.c (.func 122 [] [])) [.t 20, .c (.int (.i64) (-1))]), none⟩])
        (.seq (.region [⟨(some 22), (.move (.t 0)), none⟩,
           ⟨(some 23), (.nilCheck (.t 22)), none⟩,
           ⟨(some 24), (.fieldAddr 2 (.t 23)), none⟩,
           ⟨(some 25), (.load false 1 (.t 24)), none⟩,
           ⟨(some 26), (.bin (.add) (.t 25) (.c (.int (.i64) 1))), none⟩,
           ⟨(some 27), (.nilCheck (.t 22)), none⟩,
           ⟨(some 28), (.fieldAddr 2 (.t 27)), none⟩,
           ⟨none, (.store 1 (.t 28) (.t 26)), none⟩])
         (.seq (.region [⟨(some 4), (.move (.c (.bool true))), none⟩])
          (.ret))))
       (.skip))))))
  (.seq (.region [⟨(some 29), (.move (.t 0)), none⟩,
     ⟨(some 30), (.move (.t 0)), none⟩,
     ⟨(some 31), (.nilCheck (.t 30)), none⟩,
     ⟨(some 32), (.fieldAddr 4 (.t 31)), none⟩,
     ⟨(some 33), (.load false 1 (.t 32)), none⟩,
     ⟨(some 34), (.move (.t 1)), none⟩,
     ⟨(some 35), (.buildSlice [.int (.i64) 0] 1 [(0, 1, .t 34)]), none⟩,
     ⟨(some 36), (.append 1 8 (.t 33) (.t 35)), none⟩,
     ⟨(some 37), (.nilCheck (.t 29)), none⟩,
     ⟨(some 38), (.fieldAddr 4 (.t 37)), none⟩,
     ⟨none, (.store 1 (.t 38) (.t 36)), none⟩])
   (.seq (.region [⟨(some 4), (.move (.c (.bool false))), none⟩])
    (.ret))))⟩
theorem ok53 : compFunc prog glb 53 p53 = some c53 := by kernel_rfl
/-- (*signalbox/kernel.Kernel).block -/
def p54 : List Plan := []
def c54 : CFunc := ⟨22, [],
 .seq (.region [⟨(some 8), (.move (.t 0)), none⟩,
   ⟨(some 9), (.nilCheck (.t 8)), none⟩,
   ⟨(some 10), (.fieldAddr 0 (.t 9)), none⟩,
   ⟨(some 11), (.load false 1 (.t 10)), none⟩,
   ⟨(some 12), (.move (.t 1)), none⟩,
   ⟨(some 13), (.move (.t 2)), none⟩,
   ⟨(some 14), (.move (.t 3)), none⟩,
   ⟨(some 15), (.build [.int (.i64) 0, .int (.i64) 0] [(0, 1, .t 13), (1, 1, .t 14)]), none⟩,
   ⟨(some 16), (.call (.c (.func 121 [] [])) [.t 11, .t 12, .t 15]), none⟩])
 (.region [⟨(some 17), (.move (.t 0)), none⟩,
   ⟨(some 18), (.move (.t 1)), none⟩,
   ⟨(some 19), (.move (.t 2)), none⟩,
   ⟨(some 20), (.move (.t 3)), none⟩,
   ⟨(some 21), (.call (.c (.func 51 [] [])) [.t 17, .c (.int (.i64) 2), .t 18, .t 19, .t 20]), none⟩])⟩
theorem ok54 : compFunc prog glb 54 p54 = some c54 := by kernel_rfl
/-- (*signalbox/region.Region).Occupant -/
def p55 : List Plan := []
def c55 : CFunc := ⟨9, [.tmp 2],
 .seq (.region [⟨(some 2), (.move (.c (.int (.i64) 0))), none⟩])
 (.seq (.seq (.region [⟨(some 3), (.move (.t 0)), none⟩,
     ⟨(some 4), (.eq (.ptr) false (.t 3) (.c (.nilPtr))), none⟩])
   (.cond (.t 4) (.seq (.region [⟨(some 2), (.move (.c (.int (.i64) 0))), none⟩])
     (.ret))
    (.skip)))
  (.seq (.region [⟨(some 5), (.move (.t 0)), none⟩,
     ⟨(some 6), (.nilCheck (.t 5)), none⟩,
     ⟨(some 7), (.fieldAddr 0 (.t 6)), none⟩,
     ⟨(some 8), (.load false 1 (.t 7)), none⟩,
     ⟨(some 2), (.move (.t 8)), none⟩])
   (.ret)))⟩
theorem ok55 : compFunc prog glb 55 p55 = some c55 := by kernel_rfl
/-- (*signalbox/kernel.Kernel).Enter$1 -/
def p56 : List Plan := []
def c56 : CFunc := ⟨4, [],
 .region [⟨(some 2), (.load false 1 (.t 0)), none⟩,
  ⟨(some 3), (.call (.c (.func 43 [] [])) [.t 2]), none⟩,
  ⟨none, (.store 1 (.t 1) (.t 3)), none⟩]⟩
theorem ok56 : compFunc prog glb 56 p56 = some c56 := by kernel_rfl
/-- (*signalbox/region.Region).Enter -/
def p57 : List Plan := []
def c57 : CFunc := ⟨26, [.tmp 4],
 .seq (.region [⟨(some 4), (.move (.c (.bool false))), none⟩])
 (.seq (.seq (.region [⟨(some 5), (.move (.t 0)), none⟩,
     ⟨(some 6), (.eq (.ptr) false (.t 5) (.c (.nilPtr))), none⟩,
     ⟨(some 7), (.move (.t 6)), none⟩,
     ⟨(some 8), (.move (.t 1)), (some (7, false))⟩,
     ⟨(some 9), (.bin (.lss) (.t 8) (.c (.int (.i64) 1))), (some (7, false))⟩,
     ⟨(some 10), (.pick (.t 7) (.c (.bool true)) (.t 9)), none⟩])
   (.cond (.t 10) (.seq (.region [⟨(some 4), (.move (.c (.bool false))), none⟩])
     (.ret))
    (.skip)))
  (.seq (.seq (.region [⟨(some 11), (.move (.t 0)), none⟩,
      ⟨(some 12), (.nilCheck (.t 11)), none⟩,
      ⟨(some 13), (.fieldAddr 0 (.t 12)), none⟩,
      ⟨(some 14), (.load false 1 (.t 13)), none⟩,
      ⟨(some 15), (.bin (.neq) (.t 14) (.c (.int (.i64) 0))), none⟩])
    (.cond (.t 15) (.seq (.region [⟨(some 16), (.move (.t 0)), none⟩,
        ⟨(some 17), (.nilCheck (.t 16)), none⟩,
        ⟨(some 18), (.fieldAddr 1 (.t 17)), none⟩,
        ⟨(some 19), (.move (.t 1)), none⟩,
        ⟨(some 20), (.buildSlice [.int (.i64) 0] 1 [(0, 1, .t 19)]), none⟩,
        ⟨(some 21), (.call (.c (.func 123 [] [])) [.t 18, .t 20]), none⟩])
      (.seq (.region [⟨(some 4), (.move (.c (.bool false))), none⟩])
       (.ret)))
     (.skip)))
   (.seq (.region [⟨(some 22), (.move (.t 0)), none⟩,
      ⟨(some 23), (.move (.t 1)), none⟩,
      ⟨(some 24), (.nilCheck (.t 22)), none⟩,
      ⟨(some 25), (.fieldAddr 0 (.t 24)), none⟩,
      ⟨none, (.store 1 (.t 25) (.t 23)), none⟩])
    (.seq (.region [⟨(some 4), (.move (.c (.bool true))), none⟩])
     (.ret)))))⟩
theorem ok57 : compFunc prog glb 57 p57 = some c57 := by kernel_rfl
/-- (*signalbox/kernel.Kernel).inside -/
def p58 : List Plan := []
def c58 : CFunc := ⟨28, [.tmp 6],
 .seq (.region [⟨(some 6), (.move (.c (.int (.i64) 0))), none⟩])
 (.seq (.block 0 (.seq (.region [⟨(some 8), (.move (.t 0)), none⟩,
      ⟨(some 9), (.move (.t 1)), none⟩,
      ⟨(some 10), (.call (.c (.func 45 [] [])) [.t 8, .t 9]), none⟩,
      ⟨(some 11), (.un (.not) (.t 10)), none⟩,
      ⟨(some 7), (.move (.t 11)), none⟩])
    (.cond (.t 7) (.seq (.region [⟨(some 6), (.move (.c (.int (.i64) 4))), none⟩])
      (.ret))
     (.seq (.region [⟨(some 13), (.move (.t 0)), none⟩,
        ⟨(some 14), (.move (.t 2)), none⟩,
        ⟨(some 15), (.call (.c (.func 26 [] [])) [.t 13, .t 14]), none⟩,
        ⟨(some 16), (.eq (.ptr) false (.t 15) (.c (.nilPtr))), none⟩,
        ⟨(some 12), (.move (.t 16)), none⟩])
      (.cond (.t 12) (.seq (.region [⟨(some 6), (.move (.c (.int (.i64) 3))), none⟩])
        (.ret))
       (.seq (.region [⟨(some 18), (.move (.t 0)), none⟩,
          ⟨(some 19), (.nilCheck (.t 18)), none⟩,
          ⟨(some 20), (.fieldAddr 3 (.t 19)), none⟩,
          ⟨(some 21), (.load false 1 (.t 20)), none⟩,
          ⟨(some 22), (.move (.t 2)), none⟩,
          ⟨(some 23), (.indexAddr 1 (.t 21) (.t 22)), none⟩,
          ⟨(some 24), (.load false 1 (.t 23)), none⟩,
          ⟨(some 25), (.call (.c (.func 55 [] [])) [.t 24]), none⟩,
          ⟨(some 26), (.move (.t 1)), none⟩,
          ⟨(some 27), (.bin (.neq) (.t 25) (.t 26)), none⟩,
          ⟨(some 17), (.move (.t 27)), none⟩])
        (.cond (.t 17) (.seq (.region [⟨(some 6), (.move (.c (.int (.i64) 38))), none⟩])
          (.ret))
         (.skip))))))))
  (.seq (.region [⟨(some 6), (.move (.c (.int (.i64) 0))), none⟩])
   (.ret)))⟩
theorem ok58 : compFunc prog glb 58 p58 = some c58 := by kernel_rfl
/-- (*signalbox/kernel.Kernel).Await$1 -/
def p59 : List Plan := []
def c59 : CFunc := ⟨4, [],
 .region [⟨(some 2), (.load false 1 (.t 0)), none⟩,
  ⟨(some 3), (.call (.c (.func 43 [] [])) [.t 2]), none⟩,
  ⟨none, (.store 1 (.t 1) (.t 3)), none⟩]⟩
theorem ok59 : compFunc prog glb 59 p59 = some c59 := by kernel_rfl
/-- (*signalbox/region.Region).Fail -/
def p60 : List Plan := []
def c60 : CFunc := ⟨20, [.tmp 4, .tmp 5],
 .seq (.region [⟨(some 4), (.move (.c (.int (.i64) 0))), none⟩,
   ⟨(some 5), (.move (.c (.bool false))), none⟩])
 (.seq (.seq (.region [⟨(some 6), (.move (.t 0)), none⟩,
     ⟨(some 7), (.move (.t 1)), none⟩,
     ⟨(some 8), (.call (.c (.func 124 [] [])) [.t 6, .t 7]), none⟩,
     ⟨(some 9), (.un (.not) (.t 8)), none⟩])
   (.cond (.t 9) (.seq (.region [⟨(some 4), (.move (.c (.int (.i64) 0))), none⟩,
       ⟨(some 5), (.move (.c (.bool false))), none⟩])
     (.ret))
    (.skip)))
  (.seq (.region [⟨(some 10), (.move (.t 0)), none⟩,
     ⟨(some 11), (.nilCheck (.t 10)), none⟩,
     ⟨(some 12), (.fieldAddr 2 (.t 11)), none⟩,
     ⟨(some 13), (.move (.t 1)), none⟩,
     ⟨(some 14), (.buildSlice [.int (.i64) 0] 1 [(0, 1, .t 13)]), none⟩,
     ⟨(some 15), (.call (.c (.func 123 [] [])) [.t 12, .t 14]), none⟩])
   (.seq (.region [⟨(some 16), (.move (.t 0)), none⟩,
      ⟨(some 17), (.call (.c (.func 125 [] [])) [.t 16]), none⟩,
      ⟨(some 18), (.extract (.t 17) 0), none⟩,
      ⟨(some 19), (.extract (.t 17) 1), none⟩,
      ⟨(some 4), (.move (.t 18)), none⟩,
      ⟨(some 5), (.move (.t 19)), none⟩])
    (.ret))))⟩
theorem ok60 : compFunc prog glb 60 p60 = some c60 := by kernel_rfl
/-- (*signalbox/procs.Table).Wake -/
def p61 : List Plan := []
def c61 : CFunc := ⟨24, [.tmp 4],
 .seq (.region [⟨(some 4), (.move (.c (.bool false))), none⟩])
 (.seq (.seq (.region [⟨(some 6), (.move (.t 0)), none⟩,
     ⟨(some 7), (.move (.t 1)), none⟩,
     ⟨(some 8), (.call (.c (.func 118 [] [])) [.t 6, .t 7]), none⟩,
     ⟨(some 9), (.bin (.neq) (.t 8) (.c (.int (.i64) 2))), none⟩])
   (.cond (.t 9) (.seq (.region [⟨(some 4), (.move (.c (.bool false))), none⟩])
     (.ret))
    (.skip)))
  (.seq (.region [⟨(some 10), (.move (.t 0)), none⟩,
     ⟨(some 11), (.nilCheck (.t 10)), none⟩,
     ⟨(some 12), (.fieldAddr 2 (.t 11)), none⟩,
     ⟨(some 13), (.load false 1 (.t 12)), none⟩,
     ⟨(some 14), (.move (.t 1)), none⟩,
     ⟨(some 15), (.bin (.sub) (.t 14) (.c (.int (.i64) 1))), none⟩,
     ⟨(some 16), (.indexAddr 5 (.t 13) (.t 15)), none⟩,
     ⟨(some 5), (.move (.t 16)), none⟩])
   (.seq (.region [⟨(some 17), (.move (.t 5)), none⟩,
      ⟨(some 18), (.move (.t 5)), none⟩,
      ⟨(some 19), (.build [.int (.i64) 0, .int (.i64) 0] []), none⟩,
      ⟨(some 20), (.nilCheck (.t 17)), none⟩,
      ⟨(some 21), (.fieldAddr 0 (.t 20)), none⟩,
      ⟨none, (.store 1 (.t 21) (.c (.int (.i64) 1))), none⟩,
      ⟨(some 22), (.nilCheck (.t 18)), none⟩,
      ⟨(some 23), (.fieldAddr 2 (.t 22)), none⟩,
      ⟨none, (.store 2 (.t 23) (.t 19)), none⟩])
    (.seq (.region [⟨(some 4), (.move (.c (.bool true))), none⟩])
     (.ret)))))⟩
theorem ok61 : compFunc prog glb 61 p61 = some c61 := by kernel_rfl
/-- (*signalbox/alloc.Alloc).Ask -/
def p62 : List Plan := [⟨[(4, .quiet [0]), (5, .eff), (0, .quiet [0, 2]), (1, .quiet [0, 2]), (2, .quiet [0, 2]), (3, .quiet [0, 2]), (6, .eff), (7, .quiet [7])], 0, [0, 1, 3, 7, 0, 16, 63, 127]⟩, ⟨[(13, .quiet [0]), (9, .quiet [0]), (8, .quiet [0]), (10, .quiet [0]), (11, .quiet [0]), (5, .quiet [0]), (4, .quiet [0]), (6, .quiet [0]), (0, .quiet [0]), (1, .quiet [0]), (2, .quiet [0]), (3, .quiet [0]), (7, .quiet [0]), (12, .quiet [0]), (14, .quiet [0])], 0, [0, 1, 3, 7, 0, 0, 48, 127, 0, 0, 768, 1792, 4095, 0, 16383]⟩, ⟨[(6, .quiet [0]), (7, .eff), (5, .quiet [0, 2]), (8, .quiet [2]), (9, .eff), (1, .quiet [0, 2, 5]), (2, .quiet [0, 2, 5]), (3, .quiet [0, 2, 5]), (4, .quiet [0, 2, 5]), (10, .eff), (0, .quiet [0, 2, 5, 10]), (11, .quiet [10]), (12, .quiet [10]), (13, .eff)], 0, [0, 0, 2, 6, 14, 0, 0, 64, 224, 480, 1022, 2047, 4095, 8191]⟩]
def c62 : CFunc := ⟨75, [.tmp 6, .tmp 7],
 .seq (.region [⟨(some 6), (.move (.c (.nilSlice))), none⟩,
   ⟨(some 7), (.move (.c (.int (.i64) 0))), none⟩])
 (.seq (.block 0 (.seq (.region [⟨(some 11), (.move (.t 0)), none⟩,
      ⟨(some 12), (.move (.t 1)), none⟩,
      ⟨(some 13), (.call (.c (.func 119 [] [])) [.t 11, .t 12]), none⟩,
      ⟨(some 14), (.un (.not) (.t 13)), none⟩,
      ⟨(some 10), (.move (.t 14)), none⟩])
    (.cond (.t 10) (.seq (.region [⟨(some 6), (.move (.c (.nilSlice))), none⟩,
        ⟨(some 7), (.move (.c (.int (.i64) 3))), none⟩])
      (.ret))
     (.seq (.region [⟨(some 16), (.move (.t 0)), none⟩,
        ⟨(some 17), (.move (.t 2)), none⟩,
        ⟨(some 18), (.call (.c (.func 126 [] [])) [.t 16, .t 17]), none⟩,
        ⟨(some 19), (.un (.not) (.t 18)), none⟩,
        ⟨(some 15), (.move (.t 19)), none⟩])
      (.cond (.t 15) (.seq (.region [⟨(some 6), (.move (.c (.nilSlice))), none⟩,
          ⟨(some 7), (.move (.c (.int (.i64) 1))), none⟩])
        (.ret))
       (.seq (.draw [⟨4, ⟨(some 25), (.move (.t 1)), none⟩, (.quiet [0])⟩,
          ⟨5, ⟨(some 26), (.call (.c (.func 110 [] [])) [.t 25]), none⟩, (.eff)⟩,
          ⟨0, ⟨(some 21), (.move (.t 0)), none⟩, (.quiet [0, 2])⟩,
          ⟨1, ⟨(some 22), (.nilCheck (.t 21)), none⟩, (.quiet [0, 2])⟩,
          ⟨2, ⟨(some 23), (.fieldAddr 8 (.t 22)), none⟩, (.quiet [0, 2])⟩,
          ⟨3, ⟨(some 24), (.load false 1 (.t 23)), none⟩, (.quiet [0, 2])⟩,
          ⟨6, ⟨(some 27), (.call (.c (.func 127 [] [])) [.t 24, .t 26]), none⟩, (.eff)⟩,
          ⟨7, ⟨(some 20), (.move (.t 27)), none⟩, (.quiet [7])⟩] 0)
        (.cond (.t 20) (.seq (.region [⟨(some 6), (.move (.c (.nilSlice))), none⟩,
            ⟨(some 7), (.move (.c (.int (.i64) 4))), none⟩])
          (.ret))
         (.skip))))))))
  (.seq (.seq (.region [⟨(some 28), (.move (.t 0)), none⟩,
      ⟨(some 29), (.nilCheck (.t 28)), none⟩,
      ⟨(some 30), (.fieldAddr 1 (.t 29)), none⟩,
      ⟨(some 31), (.load false 1 (.t 30)), none⟩])
    (.cond (.t 31) (.seq (.region [⟨(some 32), (.move (.t 0)), none⟩,
        ⟨(some 33), (.nilCheck (.t 32)), none⟩,
        ⟨(some 34), (.fieldAddr 7 (.t 33)), none⟩,
        ⟨(some 35), (.load false 1 (.t 34)), none⟩,
        ⟨(some 36), (.move (.t 1)), none⟩,
        ⟨(some 37), (.lookup (.one (.int)) (.nilSlice) false (.t 35) (.t 36)), none⟩,
        ⟨(some 38), (.len (.slice) (.t 37)), none⟩,
        ⟨(some 39), (.move (.c (.int (.i64) 0))), none⟩])
      (.block 1 (.loop (.seq (.region [⟨(some 40), (.bin (.lss) (.t 39) (.t 38)), none⟩])
         (.seq (.cond (.t 40) (.skip)
           (.exit 1))
          (.seq (.block 2 (.seq (.region [⟨(some 41), (.move (.t 39)), none⟩,
               ⟨(some 42), (.indexAddr 1 (.t 37) (.t 39)), none⟩,
               ⟨(some 43), (.load false 1 (.t 42)), none⟩,
               ⟨(some 8), (.move (.t 41)), none⟩,
               ⟨(some 9), (.move (.t 43)), none⟩])
             (.seq (.draw [⟨13, ⟨(some 57), (.move (.t 9)), none⟩, (.quiet [0])⟩,
                ⟨9, ⟨(some 53), (.move (.t 8)), none⟩, (.quiet [0])⟩,
                ⟨8, ⟨(some 52), (.move (.t 2)), none⟩, (.quiet [0])⟩,
                ⟨10, ⟨(some 54), (.indexAddr 1 (.t 52) (.t 53)), none⟩, (.quiet [0])⟩,
                ⟨11, ⟨(some 55), (.load false 1 (.t 54)), none⟩, (.quiet [0])⟩,
                ⟨5, ⟨(some 49), (.move (.t 8)), none⟩, (.quiet [0])⟩,
                ⟨4, ⟨(some 48), (.move (.t 1)), none⟩, (.quiet [0])⟩,
                ⟨6, ⟨(some 50), (.build [.int (.i64) 0, .int (.i64) 0] [(0, 1, .t 48), (1, 1, .t 49)]), none⟩, (.quiet [0])⟩,
                ⟨0, ⟨(some 44), (.move (.t 0)), none⟩, (.quiet [0])⟩,
                ⟨1, ⟨(some 45), (.nilCheck (.t 44)), none⟩, (.quiet [0])⟩,
                ⟨2, ⟨(some 46), (.fieldAddr 6 (.t 45)), none⟩, (.quiet [0])⟩,
                ⟨3, ⟨(some 47), (.load false 1 (.t 46)), none⟩, (.quiet [0])⟩,
                ⟨7, ⟨(some 51), (.lookup (.flat [.int, .int]) (.int (.i64) 0) false (.t 47) (.t 50)), none⟩, (.quiet [0])⟩,
                ⟨12, ⟨(some 56), (.bin (.add) (.t 51) (.t 55)), none⟩, (.quiet [0])⟩,
                ⟨14, ⟨(some 58), (.bin (.gtr) (.t 56) (.t 57)), none⟩, (.quiet [0])⟩] 0)
              (.cond (.t 58) (.seq (.region [⟨(some 6), (.move (.c (.nilSlice))), none⟩,
                  ⟨(some 7), (.move (.c (.int (.i64) 35))), none⟩])
                (.ret))
               (.skip)))))
           (.region [⟨(some 59), (.bin (.add) (.t 39) (.c (.int (.i64) 1))), none⟩,
             ⟨(some 39), (.move (.t 59)), none⟩])))))))
     (.skip)))
   (.seq (.draw [⟨6, ⟨(some 66), (.move (.t 2)), none⟩, (.quiet [0])⟩,
      ⟨7, ⟨(some 67), (.call (.c (.func 128 [] [])) [.t 66]), none⟩, (.eff)⟩,
      ⟨5, ⟨(some 65), (.move (.t 1)), none⟩, (.quiet [0, 2])⟩,
      ⟨8, ⟨(some 68), (.build [.int (.i64) 0, .nilSlice] [(0, 1, .t 65), (1, 1, .t 67)]), none⟩, (.quiet [2])⟩,
      ⟨9, ⟨(some 69), (.buildSlice [.int (.i64) 0, .nilSlice] 1 [(0, 2, .t 68)]), none⟩, (.eff)⟩,
      ⟨1, ⟨(some 61), (.move (.t 0)), none⟩, (.quiet [0, 2, 5])⟩,
      ⟨2, ⟨(some 62), (.nilCheck (.t 61)), none⟩, (.quiet [0, 2, 5])⟩,
      ⟨3, ⟨(some 63), (.fieldAddr 8 (.t 62)), none⟩, (.quiet [0, 2, 5])⟩,
      ⟨4, ⟨(some 64), (.load false 1 (.t 63)), none⟩, (.quiet [0, 2, 5])⟩,
      ⟨10, ⟨(some 70), (.append 2 32 (.t 64) (.t 69)), none⟩, (.eff)⟩,
      ⟨0, ⟨(some 60), (.move (.t 0)), none⟩, (.quiet [0, 2, 5, 10])⟩,
      ⟨11, ⟨(some 71), (.nilCheck (.t 60)), none⟩, (.quiet [10])⟩,
      ⟨12, ⟨(some 72), (.fieldAddr 8 (.t 71)), none⟩, (.quiet [10])⟩,
      ⟨13, ⟨none, (.store 1 (.t 72) (.t 70)), none⟩, (.eff)⟩] 0)
    (.seq (.region [⟨(some 73), (.move (.t 0)), none⟩,
       ⟨(some 74), (.call (.c (.func 129 [] [])) [.t 73]), none⟩,
       ⟨(some 6), (.move (.t 74)), none⟩,
       ⟨(some 7), (.move (.c (.int (.i64) 0))), none⟩])
     (.ret)))))⟩
theorem ok62 : compFunc prog glb 62 p62 = some c62 := by kernel_rfl
/-- (*signalbox/kernel.Kernel).Request$1 -/
def p63 : List Plan := []
def c63 : CFunc := ⟨4, [],
 .region [⟨(some 2), (.load false 1 (.t 0)), none⟩,
  ⟨(some 3), (.call (.c (.func 43 [] [])) [.t 2]), none⟩,
  ⟨none, (.store 1 (.t 1) (.t 3)), none⟩]⟩
theorem ok63 : compFunc prog glb 63 p63 = some c63 := by kernel_rfl
/-- slices.Contains[[]int,int] -/
def p64 : List Plan := []
def c64 : CFunc := ⟨9, [.tmp 4],
 .seq (.region [⟨(some 4), (.move (.c (.bool false))), none⟩])
 (.seq (.region [⟨(some 5), (.move (.t 0)), none⟩,
    ⟨(some 6), (.move (.t 1)), none⟩,
    ⟨(some 7), (.call (.c (.func 130 [] [])) [.t 5, .t 6]), none⟩,
    ⟨(some 8), (.bin (.geq) (.t 7) (.c (.int (.i64) 0))), none⟩,
    ⟨(some 4), (.move (.t 8)), none⟩])
  (.ret))⟩
theorem ok64 : compFunc prog glb 64 p64 = some c64 := by kernel_rfl
/-- signalbox/units.Sum -/
def p65 : List Plan := []
def c65 : CFunc := ⟨8, [.tmp 2],
 .seq (.region [⟨(some 2), (.move (.c (.int (.i64) 0))), none⟩])
 (.seq (.seq (.region [⟨(some 3), (.move (.t 0)), none⟩,
     ⟨(some 4), (.call (.c (.func 114 [] [])) [.t 3]), none⟩,
     ⟨(some 5), (.un (.not) (.t 4)), none⟩])
   (.cond (.t 5) (.seq (.region [⟨(some 2), (.move (.c (.int (.i64) 0))), none⟩])
     (.ret))
    (.skip)))
  (.seq (.region [⟨(some 6), (.move (.t 0)), none⟩,
     ⟨(some 7), (.call (.c (.func 131 [] [])) [.t 6]), none⟩,
     ⟨(some 2), (.move (.t 7)), none⟩])
   (.ret)))⟩
theorem ok65 : compFunc prog glb 65 p65 = some c65 := by kernel_rfl
/-- (*signalbox/kernel.Kernel).Release$1 -/
def p66 : List Plan := []
def c66 : CFunc := ⟨7, [],
 .seq (.seq (.region [⟨(some 3), (.dead), none⟩,
    ⟨(some 4), (.eq (.iface) true (.t 3) (.c (.nilIface))), none⟩])
  (.cond (.t 4) (.region [⟨none, (.store 1 (.t 0) (.c (.int (.i64) 4))), none⟩])
   (.skip)))
 (.region [⟨(some 5), (.load false 1 (.t 1)), none⟩,
   ⟨(some 6), (.call (.c (.func 43 [] [])) [.t 5]), none⟩,
   ⟨none, (.store 1 (.t 2) (.t 6)), none⟩])⟩
theorem ok66 : compFunc prog glb 66 p66 = some c66 := by kernel_rfl
/-- (*signalbox/alloc.Alloc).Pending -/
def p67 : List Plan := [⟨[(3, .quiet [0]), (4, .quiet [0]), (5, .eff), (1, .quiet [0, 3]), (2, .quiet [0, 3]), (6, .quiet [3]), (7, .eff), (0, .quiet [0, 3, 7]), (8, .eff), (9, .quiet [9])], 0, [0, 0, 2, 0, 8, 24, 62, 126, 255, 511]⟩]
def c67 : CFunc := ⟨27, [.tmp 2],
 .seq (.region [⟨(some 2), (.move (.c (.nilSlice))), none⟩])
 (.seq (.seq (.region [⟨(some 5), (.move (.t 0)), none⟩,
     ⟨(some 6), (.eq (.ptr) false (.t 5) (.c (.nilPtr))), none⟩])
   (.cond (.t 6) (.seq (.region [⟨(some 2), (.move (.c (.nilSlice))), none⟩])
     (.ret))
    (.skip)))
  (.seq (.seq (.region [⟨(some 7), (.move (.t 0)), none⟩,
      ⟨(some 8), (.nilCheck (.t 7)), none⟩,
      ⟨(some 9), (.fieldAddr 8 (.t 8)), none⟩,
      ⟨(some 10), (.load false 1 (.t 9)), none⟩,
      ⟨(some 11), (.len (.slice) (.t 10)), none⟩,
      ⟨(some 12), (.move (.c (.int (.i64) 0))), none⟩])
    (.block 0 (.loop (.seq (.region [⟨(some 13), (.bin (.lss) (.t 12) (.t 11)), none⟩])
       (.seq (.cond (.t 13) (.skip)
         (.exit 0))
        (.seq (.block 1 (.seq (.region [⟨(some 14), (.indexAddr 2 (.t 10) (.t 12)), none⟩,
             ⟨(some 15), (.load true 2 (.t 14)), none⟩,
             ⟨(some 4), (.new [.int (.i64) 0, .nilSlice]), none⟩,
             ⟨none, (.store 2 (.t 4) (.t 15)), none⟩])
           (.draw [⟨3, ⟨(some 19), (.fieldAddr 1 (.t 4)), none⟩, (.quiet [0])⟩,
             ⟨4, ⟨(some 20), (.load false 1 (.t 19)), none⟩, (.quiet [0])⟩,
             ⟨5, ⟨(some 21), (.call (.c (.func 128 [] [])) [.t 20]), none⟩, (.eff)⟩,
             ⟨1, ⟨(some 17), (.fieldAddr 0 (.t 4)), none⟩, (.quiet [0, 3])⟩,
             ⟨2, ⟨(some 18), (.load false 1 (.t 17)), none⟩, (.quiet [0, 3])⟩,
             ⟨6, ⟨(some 22), (.build [.int (.i64) 0, .nilSlice] [(0, 1, .t 18), (1, 1, .t 21)]), none⟩, (.quiet [3])⟩,
             ⟨7, ⟨(some 23), (.buildSlice [.int (.i64) 0, .nilSlice] 1 [(0, 2, .t 22)]), none⟩, (.eff)⟩,
             ⟨0, ⟨(some 16), (.move (.t 2)), none⟩, (.quiet [0, 3, 7])⟩,
             ⟨8, ⟨(some 24), (.append 2 32 (.t 16) (.t 23)), none⟩, (.eff)⟩,
             ⟨9, ⟨(some 2), (.move (.t 24)), none⟩, (.quiet [9])⟩] 0)))
         (.region [⟨(some 25), (.bin (.add) (.t 12) (.c (.int (.i64) 1))), none⟩,
           ⟨(some 12), (.move (.t 25)), none⟩])))))))
   (.seq (.region [⟨(some 26), (.move (.t 2)), none⟩,
      ⟨(some 2), (.move (.t 26)), none⟩])
    (.ret))))⟩
theorem ok67 : compFunc prog glb 67 p67 = some c67 := by kernel_rfl
/-- (*signalbox/alloc.Alloc).Give -/
def p68 : List Plan := []
def c68 : CFunc := ⟨31, [.tmp 6, .tmp 7],
 .seq (.region [⟨(some 6), (.move (.c (.nilSlice))), none⟩,
   ⟨(some 7), (.move (.c (.int (.i64) 0))), none⟩])
 (.seq (.block 0 (.seq (.region [⟨(some 9), (.move (.t 0)), none⟩,
      ⟨(some 10), (.move (.t 1)), none⟩,
      ⟨(some 11), (.call (.c (.func 119 [] [])) [.t 9, .t 10]), none⟩,
      ⟨(some 12), (.un (.not) (.t 11)), none⟩,
      ⟨(some 8), (.move (.t 12)), none⟩])
    (.cond (.t 8) (.seq (.region [⟨(some 6), (.move (.c (.nilSlice))), none⟩,
        ⟨(some 7), (.move (.c (.int (.i64) 3))), none⟩])
      (.ret))
     (.seq (.region [⟨(some 14), (.move (.t 0)), none⟩,
        ⟨(some 15), (.move (.t 2)), none⟩,
        ⟨(some 16), (.call (.c (.func 126 [] [])) [.t 14, .t 15]), none⟩,
        ⟨(some 17), (.un (.not) (.t 16)), none⟩,
        ⟨(some 13), (.move (.t 17)), none⟩])
      (.cond (.t 13) (.seq (.region [⟨(some 6), (.move (.c (.nilSlice))), none⟩,
          ⟨(some 7), (.move (.c (.int (.i64) 1))), none⟩])
        (.ret))
       (.seq (.region [⟨(some 19), (.move (.t 2)), none⟩,
          ⟨(some 20), (.move (.t 0)), none⟩,
          ⟨(some 21), (.move (.t 1)), none⟩,
          ⟨(some 22), (.call (.c (.func 47 [] [])) [.t 20, .t 21]), none⟩,
          ⟨(some 23), (.call (.c (.func 88 [] [])) [.t 19, .t 22]), none⟩,
          ⟨(some 24), (.un (.not) (.t 23)), none⟩,
          ⟨(some 18), (.move (.t 24)), none⟩])
        (.cond (.t 18) (.seq (.region [⟨(some 6), (.move (.c (.nilSlice))), none⟩,
            ⟨(some 7), (.move (.c (.int (.i64) 36))), none⟩])
          (.ret))
         (.skip))))))))
  (.seq (.region [⟨(some 25), (.move (.t 0)), none⟩,
     ⟨(some 26), (.move (.t 1)), none⟩,
     ⟨(some 27), (.move (.t 2)), none⟩,
     ⟨(some 28), (.call (.c (.func 132 [] [])) [.t 25, .t 26, .t 27, .c (.int (.i64) (-1))]), none⟩])
   (.seq (.region [⟨(some 29), (.move (.t 0)), none⟩,
      ⟨(some 30), (.call (.c (.func 129 [] [])) [.t 29]), none⟩,
      ⟨(some 6), (.move (.t 30)), none⟩,
      ⟨(some 7), (.move (.c (.int (.i64) 0))), none⟩])
    (.ret))))⟩
theorem ok68 : compFunc prog glb 68 p68 = some c68 := by kernel_rfl
/-- (*signalbox/kernel.Kernel).grants -/
def p69 : List Plan := [⟨[(3, .quiet [0]), (2, .quiet [0]), (4, .quiet [0]), (5, .quiet [0]), (6, .quiet [0]), (7, .eff), (1, .quiet [0, 6]), (0, .quiet [0, 6]), (8, .eff)], 0, [0, 0, 0, 0, 12, 28, 60, 124, 255]⟩, ⟨[(4, .quiet [0]), (0, .quiet [0]), (1, .quiet [0]), (2, .quiet [0]), (3, .quiet [0]), (5, .eff)], 0, [0, 1, 3, 7, 0, 31]⟩]
def c69 : CFunc := ⟨34, [],
 .seq (.region [⟨(some 9), (.move (.t 2)), none⟩,
   ⟨(some 10), (.len (.slice) (.t 9)), none⟩,
   ⟨(some 11), (.move (.c (.int (.i64) 0))), none⟩])
 (.block 0 (.loop (.seq (.region [⟨(some 12), (.bin (.lss) (.t 11) (.t 10)), none⟩])
    (.seq (.cond (.t 12) (.skip)
      (.exit 0))
     (.seq (.block 1 (.seq (.region [⟨(some 13), (.indexAddr 1 (.t 9) (.t 11)), none⟩,
          ⟨(some 14), (.load false 1 (.t 13)), none⟩,
          ⟨(some 7), (.new [.int (.i64) 0]), none⟩,
          ⟨none, (.store 1 (.t 7) (.t 14)), none⟩])
        (.seq (.region [⟨(some 15), (.move (.t 1)), none⟩,
           ⟨(some 16), (.func 133 [] [.t 7]), none⟩,
           ⟨(some 17), (.call (.c (.func 109 [] [])) [.t 15, .t 16]), none⟩,
           ⟨(some 8), (.move (.t 17)), none⟩])
         (.seq (.draw [⟨3, ⟨(some 21), (.move (.t 8)), none⟩, (.quiet [0])⟩,
            ⟨2, ⟨(some 20), (.move (.t 1)), none⟩, (.quiet [0])⟩,
            ⟨4, ⟨(some 22), (.indexAddr 2 (.t 20) (.t 21)), none⟩, (.quiet [0])⟩,
            ⟨5, ⟨(some 23), (.fieldAddr 1 (.t 22)), none⟩, (.quiet [0])⟩,
            ⟨6, ⟨(some 24), (.load false 1 (.t 23)), none⟩, (.quiet [0])⟩,
            ⟨7, ⟨(some 25), (.call (.c (.func 65 [] [])) [.t 24]), none⟩, (.eff)⟩,
            ⟨1, ⟨(some 19), (.load false 1 (.t 7)), none⟩, (.quiet [0, 6])⟩,
            ⟨0, ⟨(some 18), (.move (.t 0)), none⟩, (.quiet [0, 6])⟩,
            ⟨8, ⟨(some 26), (.call (.c (.func 51 [] [])) [.t 18, .c (.int (.i64) 3), .t 19, .t 25, .c (.int (.i64) 0)]), none⟩, (.eff)⟩] 0)
          (.draw [⟨4, ⟨(some 31), (.load false 1 (.t 7)), none⟩, (.quiet [0])⟩,
            ⟨0, ⟨(some 27), (.move (.t 0)), none⟩, (.quiet [0])⟩,
            ⟨1, ⟨(some 28), (.nilCheck (.t 27)), none⟩, (.quiet [0])⟩,
            ⟨2, ⟨(some 29), (.fieldAddr 0 (.t 28)), none⟩, (.quiet [0])⟩,
            ⟨3, ⟨(some 30), (.load false 1 (.t 29)), none⟩, (.quiet [0])⟩,
            ⟨5, ⟨(some 32), (.call (.c (.func 61 [] [])) [.t 30, .t 31]), none⟩, (.eff)⟩] 0)))))
      (.region [⟨(some 33), (.bin (.add) (.t 11) (.c (.int (.i64) 1))), none⟩,
        ⟨(some 11), (.move (.t 33)), none⟩]))))))⟩
theorem ok69 : compFunc prog glb 69 p69 = some c69 := by kernel_rfl
/-- (*signalbox/kernel.Kernel).End$1 -/
def p70 : List Plan := []
def c70 : CFunc := ⟨7, [],
 .seq (.seq (.region [⟨(some 3), (.dead), none⟩,
    ⟨(some 4), (.eq (.iface) true (.t 3) (.c (.nilIface))), none⟩])
  (.cond (.t 4) (.region [⟨none, (.store 1 (.t 0) (.c (.bool false))), none⟩])
   (.skip)))
 (.region [⟨(some 5), (.load false 1 (.t 1)), none⟩,
   ⟨(some 6), (.call (.c (.func 43 [] [])) [.t 5]), none⟩,
   ⟨none, (.store 1 (.t 2) (.t 6)), none⟩])⟩
theorem ok70 : compFunc prog glb 70 p70 = some c70 := by kernel_rfl
/-- (*signalbox/region.Region).Leave -/
def p71 : List Plan := [⟨[(6, .quiet [0]), (7, .quiet [0]), (8, .quiet [0]), (9, .quiet [0]), (10, .quiet [0]), (1, .quiet [0]), (2, .quiet [0]), (3, .quiet [0]), (4, .quiet [0]), (5, .quiet [0]), (11, .eff), (12, .eff), (13, .quiet [12]), (0, .quiet [0, 11, 12]), (14, .quiet [12]), (15, .quiet [12]), (16, .eff)], 0, [0, 0, 2, 6, 14, 30, 0, 64, 192, 448, 960, 2046, 4094, 8190, 16383, 32767, 65535]⟩]
def c71 : CFunc := ⟨34, [.tmp 4, .tmp 5],
 .seq (.region [⟨(some 4), (.move (.c (.int (.i64) 0))), none⟩,
   ⟨(some 5), (.move (.c (.bool false))), none⟩])
 (.seq (.seq (.region [⟨(some 6), (.move (.t 0)), none⟩,
     ⟨(some 7), (.move (.t 1)), none⟩,
     ⟨(some 8), (.call (.c (.func 124 [] [])) [.t 6, .t 7]), none⟩,
     ⟨(some 9), (.un (.not) (.t 8)), none⟩])
   (.cond (.t 9) (.seq (.region [⟨(some 4), (.move (.c (.int (.i64) 0))), none⟩,
       ⟨(some 5), (.move (.c (.bool false))), none⟩])
     (.ret))
    (.skip)))
  (.seq (.draw [⟨6, ⟨(some 16), (.move (.t 0)), none⟩, (.quiet [0])⟩,
     ⟨7, ⟨(some 17), (.nilCheck (.t 16)), none⟩, (.quiet [0])⟩,
     ⟨8, ⟨(some 18), (.fieldAddr 1 (.t 17)), none⟩, (.quiet [0])⟩,
     ⟨9, ⟨(some 19), (.fieldAddr 0 (.t 18)), none⟩, (.quiet [0])⟩,
     ⟨10, ⟨(some 20), (.load false 1 (.t 19)), none⟩, (.quiet [0])⟩,
     ⟨1, ⟨(some 11), (.move (.t 0)), none⟩, (.quiet [0])⟩,
     ⟨2, ⟨(some 12), (.nilCheck (.t 11)), none⟩, (.quiet [0])⟩,
     ⟨3, ⟨(some 13), (.fieldAddr 2 (.t 12)), none⟩, (.quiet [0])⟩,
     ⟨4, ⟨(some 14), (.fieldAddr 0 (.t 13)), none⟩, (.quiet [0])⟩,
     ⟨5, ⟨(some 15), (.load false 1 (.t 14)), none⟩, (.quiet [0])⟩,
     ⟨11, ⟨(some 21), (.buildSlice [.nilSlice] 2 [(0, 1, .t 15), (1, 1, .t 20)]), none⟩, (.eff)⟩,
     ⟨12, ⟨(some 22), (.call (.c (.func 101 [] [])) [.t 21]), none⟩, (.eff)⟩,
     ⟨13, ⟨(some 23), (.build [.nilSlice] [(0, 1, .t 22)]), none⟩, (.quiet [12])⟩,
     ⟨0, ⟨(some 10), (.move (.t 0)), none⟩, (.quiet [0, 11, 12])⟩,
     ⟨14, ⟨(some 24), (.nilCheck (.t 10)), none⟩, (.quiet [12])⟩,
     ⟨15, ⟨(some 25), (.fieldAddr 1 (.t 24)), none⟩, (.quiet [12])⟩,
     ⟨16, ⟨none, (.store 1 (.t 25) (.t 23)), none⟩, (.eff)⟩] 0)
   (.seq (.region [⟨(some 26), (.move (.t 0)), none⟩,
      ⟨(some 27), (.build [.nilSlice] []), none⟩,
      ⟨(some 28), (.nilCheck (.t 26)), none⟩,
      ⟨(some 29), (.fieldAddr 2 (.t 28)), none⟩,
      ⟨none, (.store 1 (.t 29) (.t 27)), none⟩])
    (.seq (.region [⟨(some 30), (.move (.t 0)), none⟩,
       ⟨(some 31), (.call (.c (.func 125 [] [])) [.t 30]), none⟩,
       ⟨(some 32), (.extract (.t 31) 0), none⟩,
       ⟨(some 33), (.extract (.t 31) 1), none⟩,
       ⟨(some 4), (.move (.t 32)), none⟩,
       ⟨(some 5), (.move (.t 33)), none⟩])
     (.ret)))))⟩
theorem ok71 : compFunc prog glb 71 p71 = some c71 := by kernel_rfl
/-- (*signalbox/alloc.Alloc).Leave -/
def p72 : List Plan := [⟨[(3, .quiet [0]), (2, .quiet [0]), (4, .eff), (1, .quiet [0, 3]), (0, .quiet [0, 3]), (5, .eff)], 0, [0, 0, 0, 0, 12, 31]⟩, ⟨[(5, .quiet [0]), (6, .eff), (1, .quiet [0, 2]), (2, .quiet [0, 2]), (3, .quiet [0, 2]), (4, .quiet [0, 2]), (7, .eff), (0, .quiet [0, 2, 7]), (8, .quiet [7]), (9, .quiet [7]), (10, .eff)], 0, [0, 0, 2, 6, 14, 0, 32, 126, 255, 511, 1023]⟩, ⟨[(4, .quiet [0]), (0, .quiet [0]), (1, .quiet [0]), (2, .quiet [0]), (3, .quiet [0]), (5, .eff)], 0, [0, 1, 3, 7, 0, 31]⟩]
def c72 : CFunc := ⟨39, [.tmp 4, .tmp 5],
 .seq (.region [⟨(some 3), (.box (.t 1)), none⟩,
   ⟨(some 4), (.move (.c (.nilSlice))), none⟩,
   ⟨(some 5), (.move (.c (.bool false))), none⟩])
 (.seq (.seq (.region [⟨(some 6), (.move (.t 0)), none⟩,
     ⟨(some 7), (.load false 1 (.t 3)), none⟩,
     ⟨(some 8), (.call (.c (.func 119 [] [])) [.t 6, .t 7]), none⟩,
     ⟨(some 9), (.un (.not) (.t 8)), none⟩])
   (.cond (.t 9) (.seq (.region [⟨(some 4), (.move (.c (.nilSlice))), none⟩,
       ⟨(some 5), (.move (.c (.bool false))), none⟩])
     (.ret))
    (.skip)))
  (.seq (.draw [⟨3, ⟨(some 13), (.load false 1 (.t 3)), none⟩, (.quiet [0])⟩,
     ⟨2, ⟨(some 12), (.move (.t 0)), none⟩, (.quiet [0])⟩,
     ⟨4, ⟨(some 14), (.call (.c (.func 47 [] [])) [.t 12, .t 13]), none⟩, (.eff)⟩,
     ⟨1, ⟨(some 11), (.load false 1 (.t 3)), none⟩, (.quiet [0, 3])⟩,
     ⟨0, ⟨(some 10), (.move (.t 0)), none⟩, (.quiet [0, 3])⟩,
     ⟨5, ⟨(some 15), (.call (.c (.func 132 [] [])) [.t 10, .t 11, .t 14, .c (.int (.i64) (-1))]), none⟩, (.eff)⟩] 0)
   (.seq (.draw [⟨5, ⟨(some 21), (.load false 1 (.t 3)), none⟩, (.quiet [0])⟩,
      ⟨6, ⟨(some 22), (.call (.c (.func 110 [] [])) [.t 21]), none⟩, (.eff)⟩,
      ⟨1, ⟨(some 17), (.move (.t 0)), none⟩, (.quiet [0, 2])⟩,
      ⟨2, ⟨(some 18), (.nilCheck (.t 17)), none⟩, (.quiet [0, 2])⟩,
      ⟨3, ⟨(some 19), (.fieldAddr 8 (.t 18)), none⟩, (.quiet [0, 2])⟩,
      ⟨4, ⟨(some 20), (.load false 1 (.t 19)), none⟩, (.quiet [0, 2])⟩,
      ⟨7, ⟨(some 23), (.call (.c (.func 134 [] [])) [.t 20, .t 22]), none⟩, (.eff)⟩,
      ⟨0, ⟨(some 16), (.move (.t 0)), none⟩, (.quiet [0, 2, 7])⟩,
      ⟨8, ⟨(some 24), (.nilCheck (.t 16)), none⟩, (.quiet [7])⟩,
      ⟨9, ⟨(some 25), (.fieldAddr 8 (.t 24)), none⟩, (.quiet [7])⟩,
      ⟨10, ⟨none, (.store 1 (.t 25) (.t 23)), none⟩, (.eff)⟩] 0)
    (.seq (.draw [⟨4, ⟨(some 30), (.load false 1 (.t 3)), none⟩, (.quiet [0])⟩,
       ⟨0, ⟨(some 26), (.move (.t 0)), none⟩, (.quiet [0])⟩,
       ⟨1, ⟨(some 27), (.nilCheck (.t 26)), none⟩, (.quiet [0])⟩,
       ⟨2, ⟨(some 28), (.fieldAddr 7 (.t 27)), none⟩, (.quiet [0])⟩,
       ⟨3, ⟨(some 29), (.load false 1 (.t 28)), none⟩, (.quiet [0])⟩,
       ⟨5, ⟨none, (.delete (.one (.int)) (.t 29) (.t 30)), none⟩, (.eff)⟩] 0)
     (.seq (.region [⟨(some 31), (.move (.t 0)), none⟩,
        ⟨(some 32), (.nilCheck (.t 31)), none⟩,
        ⟨(some 33), (.fieldAddr 6 (.t 32)), none⟩,
        ⟨(some 34), (.load false 1 (.t 33)), none⟩,
        ⟨(some 35), (.func 136 [] [.t 3]), none⟩,
        ⟨(some 36), (.call (.c (.func 135 [] [])) [.t 34, .t 35]), none⟩])
      (.seq (.region [⟨(some 37), (.move (.t 0)), none⟩,
         ⟨(some 38), (.call (.c (.func 129 [] [])) [.t 37]), none⟩,
         ⟨(some 4), (.move (.t 38)), none⟩,
         ⟨(some 5), (.move (.c (.bool true))), none⟩])
       (.ret)))))))⟩
theorem ok72 : compFunc prog glb 72 p72 = some c72 := by kernel_rfl
/-- signalbox/join.End -/
def p73 : List Plan := []
def c73 : CFunc := ⟨34, [.tmp 6, .tmp 7],
 .seq (.region [⟨(some 6), (.move (.c (.int (.i64) 0))), none⟩,
   ⟨(some 7), (.move (.c (.bool false))), none⟩])
 (.seq (.seq (.region [⟨(some 9), (.move (.t 0)), none⟩,
     ⟨(some 10), (.move (.t 1)), none⟩,
     ⟨(some 11), (.move (.t 2)), none⟩,
     ⟨(some 12), (.call (.c (.func 117 [] [])) [.t 9, .t 10, .t 11]), none⟩,
     ⟨(some 13), (.un (.not) (.t 12)), none⟩])
   (.cond (.t 13) (.seq (.region [⟨(some 6), (.move (.c (.int (.i64) 0))), none⟩,
       ⟨(some 7), (.move (.c (.bool false))), none⟩])
     (.ret))
    (.skip)))
  (.seq (.region [⟨(some 14), (.move (.t 0)), none⟩,
     ⟨(some 15), (.move (.t 1)), none⟩,
     ⟨(some 16), (.call (.c (.func 137 [] [])) [.t 14, .t 15]), none⟩,
     ⟨(some 8), (.move (.t 16)), none⟩])
   (.seq (.seq (.region [⟨(some 17), (.move (.t 0)), none⟩,
       ⟨(some 18), (.move (.t 8)), none⟩,
       ⟨(some 19), (.call (.c (.func 138 [] [])) [.t 17, .t 18]), none⟩,
       ⟨(some 20), (.part false 0 1 (.t 19)), none⟩,
       ⟨(some 21), (.bin (.eql) (.t 20) (.c (.int (.i64) 5))), none⟩,
       ⟨(some 22), (.move (.t 21)), none⟩,
       ⟨(some 23), (.move (.t 0)), (some (22, true))⟩,
       ⟨(some 24), (.move (.t 8)), (some (22, true))⟩,
       ⟨(some 25), (.call (.c (.func 120 [] [])) [.t 23, .t 24]), (some (22, true))⟩,
       ⟨(some 26), (.bin (.eql) (.t 25) (.c (.int (.i64) 0))), (some (22, true))⟩,
       ⟨(some 27), (.pick (.t 22) (.t 26) (.c (.bool false))), none⟩,
       ⟨(some 28), (.move (.t 27)), none⟩,
       ⟨(some 29), (.move (.t 0)), (some (28, true))⟩,
       ⟨(some 30), (.move (.t 8)), (some (28, true))⟩,
       ⟨(some 31), (.call (.c (.func 61 [] [])) [.t 29, .t 30]), (some (28, true))⟩,
       ⟨(some 32), (.pick (.t 28) (.t 31) (.c (.bool false))), none⟩])
     (.cond (.t 32) (.seq (.region [⟨(some 33), (.move (.t 8)), none⟩,
         ⟨(some 6), (.move (.t 33)), none⟩,
         ⟨(some 7), (.move (.c (.bool true))), none⟩])
       (.ret))
      (.skip)))
    (.seq (.region [⟨(some 6), (.move (.c (.int (.i64) 0))), none⟩,
       ⟨(some 7), (.move (.c (.bool true))), none⟩])
     (.ret)))))⟩
theorem ok73 : compFunc prog glb 73 p73 = some c73 := by kernel_rfl
/-- (*signalbox/sema.Sema).V -/
def p74 : List Plan := []
def c74 : CFunc := ⟨45, [.tmp 2],
 .seq (.region [⟨(some 2), (.move (.c (.int (.i64) 0))), none⟩])
 (.seq (.seq (.region [⟨(some 4), (.move (.t 0)), none⟩,
     ⟨(some 5), (.eq (.ptr) false (.t 4) (.c (.nilPtr))), none⟩])
   (.cond (.t 5) (.seq (.region [⟨(some 2), (.move (.c (.int (.i64) 0))), none⟩])
     (.ret))
    (.skip)))
  (.seq (.region [⟨(some 6), (.move (.t 0)), none⟩,
     ⟨(some 7), (.nilCheck (.t 6)), none⟩,
     ⟨(some 8), (.fieldAddr 3 (.t 7)), none⟩,
     ⟨(some 9), (.load false 1 (.t 8)), none⟩,
     ⟨(some 10), (.bin (.add) (.t 9) (.c (.int (.i64) 1))), none⟩,
     ⟨(some 11), (.nilCheck (.t 6)), none⟩,
     ⟨(some 12), (.fieldAddr 3 (.t 11)), none⟩,
     ⟨none, (.store 1 (.t 12) (.t 10)), none⟩])
   (.seq (.seq (.region [⟨(some 13), (.move (.t 0)), none⟩,
       ⟨(some 14), (.nilCheck (.t 13)), none⟩,
       ⟨(some 15), (.fieldAddr 4 (.t 14)), none⟩,
       ⟨(some 16), (.load false 1 (.t 15)), none⟩,
       ⟨(some 17), (.len (.slice) (.t 16)), none⟩,
       ⟨(some 18), (.bin (.eql) (.t 17) (.c (.int (.i64) 0))), none⟩])
     (.cond (.t 18) (.seq (.region [⟨(some 19), (.move (.t 0)), none⟩,
         ⟨(some 20), (.nilCheck (.t 19)), none⟩,
         ⟨(some 21), (.fieldAddr 0 (.t 20)), none⟩,
         ⟨(some 22), (.call (.c (.func 122 [] [])) [.t 21, .c (.int (.i64) 1)]), none⟩])
       (.seq (.region [⟨(some 2), (.move (.c (.int (.i64) 0))), none⟩])
        (.ret)))
      (.skip)))
    (.seq (.region [⟨(some 23), (.move (.t 0)), none⟩,
       ⟨(some 24), (.nilCheck (.t 23)), none⟩,
       ⟨(some 25), (.fieldAddr 4 (.t 24)), none⟩,
       ⟨(some 26), (.load false 1 (.t 25)), none⟩,
       ⟨(some 27), (.indexAddr 1 (.t 26) (.c (.int (.i64) 0))), none⟩,
       ⟨(some 28), (.load false 1 (.t 27)), none⟩,
       ⟨(some 3), (.move (.t 28)), none⟩])
     (.seq (.region [⟨(some 29), (.move (.t 0)), none⟩,
        ⟨(some 30), (.move (.t 0)), none⟩,
        ⟨(some 31), (.nilCheck (.t 30)), none⟩,
        ⟨(some 32), (.fieldAddr 4 (.t 31)), none⟩,
        ⟨(some 33), (.load false 1 (.t 32)), none⟩,
        ⟨(some 34), (.slice 1 (.t 33) (some (.c (.int (.i64) 1))) none none), none⟩,
        ⟨(some 35), (.nilCheck (.t 29)), none⟩,
        ⟨(some 36), (.fieldAddr 4 (.t 35)), none⟩,
        ⟨none, (.store 1 (.t 36) (.t 34)), none⟩])
      (.seq (.region [⟨(some 37), (.move (.t 0)), none⟩,
         ⟨(some 38), (.nilCheck (.t 37)), none⟩,
         ⟨(some 39), (.fieldAddr 2 (.t 38)), none⟩,
         ⟨(some 40), (.load false 1 (.t 39)), none⟩,
         ⟨(some 41), (.bin (.add) (.t 40) (.c (.int (.i64) 1))), none⟩,
         ⟨(some 42), (.nilCheck (.t 37)), none⟩,
         ⟨(some 43), (.fieldAddr 2 (.t 42)), none⟩,
         ⟨none, (.store 1 (.t 43) (.t 41)), none⟩])
       (.seq (.region [⟨(some 44), (.move (.t 3)), none⟩,
          ⟨(some 2), (.move (.t 44)), none⟩])
        (.ret))))))))⟩
theorem ok74 : compFunc prog glb 74 p74 = some c74 := by kernel_rfl
/-- signalbox/procs.New -/
def p75 : List Plan := []
def c75 : CFunc := ⟨13, [.tmp 2, .tmp 3],
 .seq (.region [⟨(some 2), (.move (.c (.nilPtr))), none⟩,
   ⟨(some 3), (.move (.c (.int (.i64) 0))), none⟩])
 (.seq (.seq (.region [⟨(some 4), (.move (.t 0)), none⟩,
     ⟨(some 5), (.bin (.lss) (.t 4) (.c (.int (.i64) 1))), none⟩,
     ⟨(some 6), (.move (.t 5)), none⟩,
     ⟨(some 7), (.move (.t 0)), (some (6, false))⟩,
     ⟨(some 8), (.bin (.gtr) (.t 7) (.c (.int (.i64) 32))), (some (6, false))⟩,
     ⟨(some 9), (.pick (.t 6) (.c (.bool true)) (.t 8)), none⟩])
   (.cond (.t 9) (.seq (.region [⟨(some 2), (.move (.c (.nilPtr))), none⟩,
       ⟨(some 3), (.move (.c (.int (.i64) 1))), none⟩])
     (.ret))
    (.skip)))
  (.seq (.region [⟨(some 10), (.move (.t 0)), none⟩,
     ⟨(some 11), (.build [.int (.i64) 0, .int (.i64) 0, .nilSlice] [(0, 1, .t 10)]), none⟩,
     ⟨(some 12), (.box (.t 11)), none⟩,
     ⟨(some 2), (.move (.t 12)), none⟩,
     ⟨(some 3), (.move (.c (.int (.i64) 0))), none⟩])
   (.ret)))⟩
theorem ok75 : compFunc prog glb 75 p75 = some c75 := by kernel_rfl
/-- signalbox/alloc.New -/
def p76 : List Plan := []
def c76 : CFunc := ⟨25, [.tmp 4, .tmp 5],
 .seq (.region [⟨(some 4), (.move (.c (.nilPtr))), none⟩,
   ⟨(some 5), (.move (.c (.int (.i64) 0))), none⟩])
 (.seq (.seq (.region [⟨(some 6), (.move (.t 0)), none⟩,
     ⟨(some 7), (.len (.slice) (.t 6)), none⟩,
     ⟨(some 8), (.bin (.gtr) (.t 7) (.c (.int (.i64) 6))), none⟩,
     ⟨(some 9), (.move (.t 8)), none⟩,
     ⟨(some 10), (.move (.t 0)), (some (9, false))⟩,
     ⟨(some 11), (.move (.t 0)), (some (9, false))⟩,
     ⟨(some 12), (.len (.slice) (.t 11)), (some (9, false))⟩,
     ⟨(some 13), (.call (.c (.func 41 [] [])) [.t 10, .t 12]), (some (9, false))⟩,
     ⟨(some 14), (.un (.not) (.t 13)), (some (9, false))⟩,
     ⟨(some 15), (.pick (.t 9) (.c (.bool true)) (.t 14)), none⟩,
     ⟨(some 16), (.move (.t 15)), none⟩,
     ⟨(some 17), (.move (.t 0)), (some (16, false))⟩,
     ⟨(some 18), (.call (.c (.func 64 [] [])) [.t 17, .c (.int (.i64) 0)]), (some (16, false))⟩,
     ⟨(some 19), (.pick (.t 16) (.c (.bool true)) (.t 18)), none⟩])
   (.cond (.t 19) (.seq (.region [⟨(some 4), (.move (.c (.nilPtr))), none⟩,
       ⟨(some 5), (.move (.c (.int (.i64) 1))), none⟩])
     (.ret))
    (.skip)))
  (.seq (.region [⟨(some 20), (.move (.t 0)), none⟩,
     ⟨(some 21), (.call (.c (.func 128 [] [])) [.t 20]), none⟩,
     ⟨(some 22), (.move (.t 1)), none⟩,
     ⟨(some 23), (.build [.nilSlice, .bool false, .int (.u32) 0, .int (.i32) 0, .int (.u32) 0, .nilSlice, .nilMap, .nilMap, .nilSlice] [(0, 1, .t 21), (1, 1, .t 22)]), none⟩,
     ⟨(some 24), (.box (.t 23)), none⟩,
     ⟨(some 4), (.move (.t 24)), none⟩,
     ⟨(some 5), (.move (.c (.int (.i64) 0))), none⟩])
   (.ret)))⟩
theorem ok76 : compFunc prog glb 76 p76 = some c76 := by kernel_rfl
/-- signalbox/sema.New -/
def p77 : List Plan := []
def c77 : CFunc := ⟨20, [.tmp 2, .tmp 3],
 .seq (.region [⟨(some 2), (.move (.c (.nilPtr))), none⟩,
   ⟨(some 3), (.move (.c (.int (.i64) 0))), none⟩])
 (.seq (.seq (.region [⟨(some 5), (.move (.t 0)), none⟩,
     ⟨(some 6), (.bin (.lss) (.t 5) (.c (.int (.i64) 0))), none⟩,
     ⟨(some 7), (.move (.t 6)), none⟩,
     ⟨(some 8), (.move (.t 0)), (some (7, false))⟩,
     ⟨(some 9), (.bin (.gtr) (.t 8) (.c (.int (.i64) 1000))), (some (7, false))⟩,
     ⟨(some 10), (.pick (.t 7) (.c (.bool true)) (.t 9)), none⟩])
   (.cond (.t 10) (.seq (.region [⟨(some 2), (.move (.c (.nilPtr))), none⟩,
       ⟨(some 3), (.move (.c (.int (.i64) 1))), none⟩])
     (.ret))
    (.skip)))
  (.seq (.region [⟨(some 11), (.move (.t 0)), none⟩,
     ⟨(some 12), (.build [.int (.i64) 0, .int (.i64) 0, .int (.i64) 0, .int (.i64) 0, .nilSlice] [(1, 1, .t 11)]), none⟩,
     ⟨(some 13), (.box (.t 12)), none⟩,
     ⟨(some 4), (.move (.t 13)), none⟩])
   (.seq (.region [⟨(some 14), (.move (.t 4)), none⟩,
      ⟨(some 15), (.nilCheck (.t 14)), none⟩,
      ⟨(some 16), (.fieldAddr 0 (.t 15)), none⟩,
      ⟨(some 17), (.move (.t 0)), none⟩,
      ⟨(some 18), (.call (.c (.func 139 [] [])) [.t 16, .t 17]), none⟩])
    (.seq (.region [⟨(some 19), (.move (.t 4)), none⟩,
       ⟨(some 2), (.move (.t 19)), none⟩,
       ⟨(some 3), (.move (.c (.int (.i64) 0))), none⟩])
     (.ret)))))⟩
theorem ok77 : compFunc prog glb 77 p77 = some c77 := by kernel_rfl
/-- signalbox/region.New -/
def p78 : List Plan := []
def c78 : CFunc := ⟨3, [.tmp 0],
 .seq (.region [⟨(some 0), (.move (.c (.nilPtr))), none⟩])
 (.seq (.region [⟨(some 1), (.build [.int (.i64) 0, .nilSlice, .nilSlice] []), none⟩,
    ⟨(some 2), (.box (.t 1)), none⟩,
    ⟨(some 0), (.move (.t 2)), none⟩])
  (.ret))⟩
theorem ok78 : compFunc prog glb 78 p78 = some c78 := by kernel_rfl
/-- signalbox/signalboxref1.NewTable -/
def p79 : List Plan := []
def c79 : CFunc := ⟨10, [.tmp 2, .tmp 3],
 .seq (.region [⟨(some 2), (.move (.c (.nilPtr))), none⟩,
   ⟨(some 3), (.move (.c (.int (.i64) 0))), none⟩])
 (.seq (.seq (.region [⟨(some 4), (.move (.t 0)), none⟩,
     ⟨(some 5), (.call (.c (.func 140 [] [])) [.t 4, .c (.int (.i64) 1), .c (.int (.i64) 32)]), none⟩,
     ⟨(some 6), (.un (.not) (.t 5)), none⟩])
   (.cond (.t 6) (.seq (.region [⟨(some 2), (.move (.c (.nilPtr))), none⟩,
       ⟨(some 3), (.move (.c (.int (.i64) 1))), none⟩])
     (.ret))
    (.skip)))
  (.seq (.region [⟨(some 7), (.move (.t 0)), none⟩,
     ⟨(some 8), (.build [.int (.i64) 0, .nilSlice] [(0, 1, .t 7)]), none⟩,
     ⟨(some 9), (.box (.t 8)), none⟩,
     ⟨(some 2), (.move (.t 9)), none⟩,
     ⟨(some 3), (.move (.c (.int (.i64) 0))), none⟩])
   (.ret)))⟩
theorem ok79 : compFunc prog glb 79 p79 = some c79 := by kernel_rfl
/-- signalbox/signalboxref14.NewAlloc -/
def p80 : List Plan := []
def c80 : CFunc := ⟨27, [.tmp 4, .tmp 5],
 .seq (.region [⟨(some 4), (.move (.c (.nilPtr))), none⟩,
   ⟨(some 5), (.move (.c (.int (.i64) 0))), none⟩])
 (.seq (.seq (.region [⟨(some 6), (.move (.t 0)), none⟩,
     ⟨(some 7), (.len (.slice) (.t 6)), none⟩,
     ⟨(some 8), (.bin (.gtr) (.t 7) (.c (.int (.i64) 6))), none⟩,
     ⟨(some 9), (.move (.t 8)), none⟩,
     ⟨(some 10), (.move (.t 0)), (some (9, false))⟩,
     ⟨(some 11), (.move (.t 0)), (some (9, false))⟩,
     ⟨(some 12), (.len (.slice) (.t 11)), (some (9, false))⟩,
     ⟨(some 13), (.call (.c (.func 141 [] [])) [.t 10, .t 12]), (some (9, false))⟩,
     ⟨(some 14), (.un (.not) (.t 13)), (some (9, false))⟩,
     ⟨(some 15), (.pick (.t 9) (.c (.bool true)) (.t 14)), none⟩,
     ⟨(some 16), (.move (.t 15)), none⟩,
     ⟨(some 17), (.move (.t 0)), (some (16, false))⟩,
     ⟨(some 18), (.call (.c (.func 142 [] [])) [.t 17, .c (.int (.i64) 0)]), (some (16, false))⟩,
     ⟨(some 19), (.pick (.t 16) (.c (.bool true)) (.t 18)), none⟩])
   (.cond (.t 19) (.seq (.region [⟨(some 4), (.move (.c (.nilPtr))), none⟩,
       ⟨(some 5), (.move (.c (.int (.i64) 1))), none⟩])
     (.ret))
    (.skip)))
  (.seq (.region [⟨(some 20), (.move (.t 0)), none⟩,
     ⟨(some 21), (.call (.c (.func 143 [] [])) [.t 20]), none⟩,
     ⟨(some 22), (.move (.t 0)), none⟩,
     ⟨(some 23), (.call (.c (.func 143 [] [])) [.t 22]), none⟩,
     ⟨(some 24), (.move (.t 1)), none⟩,
     ⟨(some 25), (.build [.nilSlice, .nilSlice, .bool false, .nilSlice, .nilSlice, .nilSlice, .nilSlice] [(0, 1, .t 21), (1, 1, .t 23), (2, 1, .t 24)]), none⟩,
     ⟨(some 26), (.box (.t 25)), none⟩,
     ⟨(some 4), (.move (.t 26)), none⟩,
     ⟨(some 5), (.move (.c (.int (.i64) 0))), none⟩])
   (.ret)))⟩
theorem ok80 : compFunc prog glb 80 p80 = some c80 := by kernel_rfl
/-- signalbox/signalboxref1.NewSema -/
def p81 : List Plan := []
def c81 : CFunc := ⟨11, [.tmp 2, .tmp 3],
 .seq (.region [⟨(some 2), (.move (.c (.nilPtr))), none⟩,
   ⟨(some 3), (.move (.c (.int (.i64) 0))), none⟩])
 (.seq (.seq (.region [⟨(some 4), (.move (.t 0)), none⟩,
     ⟨(some 5), (.call (.c (.func 140 [] [])) [.t 4, .c (.int (.i64) 0), .c (.int (.i64) 1000)]), none⟩,
     ⟨(some 6), (.un (.not) (.t 5)), none⟩])
   (.cond (.t 6) (.seq (.region [⟨(some 2), (.move (.c (.nilPtr))), none⟩,
       ⟨(some 3), (.move (.c (.int (.i64) 1))), none⟩])
     (.ret))
    (.skip)))
  (.seq (.region [⟨(some 7), (.move (.t 0)), none⟩,
     ⟨(some 8), (.move (.t 0)), none⟩,
     ⟨(some 9), (.build [.int (.i64) 0, .int (.i64) 0, .int (.i64) 0, .int (.i64) 0, .nilSlice] [(0, 1, .t 7), (1, 1, .t 8)]), none⟩,
     ⟨(some 10), (.box (.t 9)), none⟩,
     ⟨(some 2), (.move (.t 10)), none⟩,
     ⟨(some 3), (.move (.c (.int (.i64) 0))), none⟩])
   (.ret)))⟩
theorem ok81 : compFunc prog glb 81 p81 = some c81 := by kernel_rfl
/-- slices.All[[]func(l signalbox/audit.look) bool,func(l signalbox/audit.look) bool]$1 -/
def p82 : List Plan := []
def c82 : CFunc := ⟨18, [],
 .seq (.region [⟨(some 5), (.load false 1 (.t 1)), none⟩,
   ⟨(some 6), (.len (.slice) (.t 5)), none⟩,
   ⟨(some 7), (.move (.c (.int (.i64) 0))), none⟩])
 (.block 0 (.loop (.seq (.region [⟨(some 8), (.bin (.lss) (.t 7) (.t 6)), none⟩])
    (.seq (.cond (.t 8) (.skip)
      (.exit 0))
     (.seq (.block 1 (.seq (.region [⟨(some 9), (.move (.t 7)), none⟩,
          ⟨(some 10), (.indexAddr 1 (.t 5) (.t 7)), none⟩,
          ⟨(some 11), (.load false 1 (.t 10)), none⟩,
          ⟨(some 3), (.move (.t 9)), none⟩,
          ⟨(some 4), (.move (.t 11)), none⟩])
        (.seq (.region [⟨(some 12), (.move (.t 0)), none⟩,
           ⟨(some 13), (.move (.t 3)), none⟩,
           ⟨(some 14), (.move (.t 4)), none⟩,
           ⟨(some 15), (.call (.t 12) [.t 13, .t 14]), none⟩,
           ⟨(some 16), (.un (.not) (.t 15)), none⟩])
         (.cond (.t 16) (.ret)
          (.skip)))))
      (.region [⟨(some 17), (.bin (.add) (.t 7) (.c (.int (.i64) 1))), none⟩,
        ⟨(some 7), (.move (.t 17)), none⟩]))))))⟩
theorem ok82 : compFunc prog glb 82 p82 = some c82 := by kernel_rfl
/-- (*signalbox/alloc.Alloc).Avail -/
def p83 : List Plan := []
def c83 : CFunc := ⟨12, [.tmp 2],
 .seq (.region [⟨(some 2), (.move (.c (.nilSlice))), none⟩])
 (.seq (.seq (.region [⟨(some 3), (.move (.t 0)), none⟩,
     ⟨(some 4), (.eq (.ptr) false (.t 3) (.c (.nilPtr))), none⟩])
   (.cond (.t 4) (.seq (.region [⟨(some 2), (.move (.c (.nilSlice))), none⟩])
     (.ret))
    (.skip)))
  (.seq (.region [⟨(some 5), (.move (.t 0)), none⟩,
     ⟨(some 6), (.call (.c (.func 144 [] [])) [.t 5]), none⟩])
   (.seq (.region [⟨(some 7), (.move (.t 0)), none⟩,
      ⟨(some 8), (.nilCheck (.t 7)), none⟩,
      ⟨(some 9), (.fieldAddr 5 (.t 8)), none⟩,
      ⟨(some 10), (.load false 1 (.t 9)), none⟩,
      ⟨(some 11), (.call (.c (.func 128 [] [])) [.t 10]), none⟩,
      ⟨(some 2), (.move (.t 11)), none⟩])
    (.ret))))⟩
theorem ok83 : compFunc prog glb 83 p83 = some c83 := by kernel_rfl
/-- (*signalbox/alloc.Alloc).Pids -/
def p84 : List Plan := []
def c84 : CFunc := ⟨13, [.tmp 2],
 .seq (.region [⟨(some 2), (.move (.c (.nilSlice))), none⟩])
 (.seq (.seq (.region [⟨(some 3), (.move (.t 0)), none⟩,
     ⟨(some 4), (.eq (.ptr) false (.t 3) (.c (.nilPtr))), none⟩])
   (.cond (.t 4) (.seq (.region [⟨(some 2), (.move (.c (.nilSlice))), none⟩])
     (.ret))
    (.skip)))
  (.seq (.region [⟨(some 5), (.move (.t 0)), none⟩,
     ⟨(some 6), (.call (.c (.func 144 [] [])) [.t 5]), none⟩])
   (.seq (.region [⟨(some 7), (.move (.t 0)), none⟩,
      ⟨(some 8), (.nilCheck (.t 7)), none⟩,
      ⟨(some 9), (.fieldAddr 7 (.t 8)), none⟩,
      ⟨(some 10), (.load false 1 (.t 9)), none⟩,
      ⟨(some 11), (.call (.c (.func 146 [] [])) [.t 10]), none⟩,
      ⟨(some 12), (.call (.c (.func 145 [] [])) [.t 11]), none⟩,
      ⟨(some 2), (.move (.t 12)), none⟩])
    (.ret))))⟩
theorem ok84 : compFunc prog glb 84 p84 = some c84 := by kernel_rfl
/-- slices.Equal[[]int,int] -/
def p85 : List Plan := [⟨[(5, .quiet [0]), (4, .quiet [0]), (6, .quiet [0]), (7, .quiet [0]), (1, .quiet [0]), (0, .quiet [0]), (2, .quiet [0]), (3, .quiet [0]), (8, .quiet [0])], 0, [0, 0, 3, 7, 0, 0, 48, 112, 255]⟩]
def c85 : CFunc := ⟨26, [.tmp 4],
 .seq (.region [⟨(some 4), (.move (.c (.bool false))), none⟩])
 (.seq (.seq (.region [⟨(some 6), (.move (.t 0)), none⟩,
     ⟨(some 7), (.len (.slice) (.t 6)), none⟩,
     ⟨(some 8), (.move (.t 1)), none⟩,
     ⟨(some 9), (.len (.slice) (.t 8)), none⟩,
     ⟨(some 10), (.bin (.neq) (.t 7) (.t 9)), none⟩])
   (.cond (.t 10) (.seq (.region [⟨(some 4), (.move (.c (.bool false))), none⟩])
     (.ret))
    (.skip)))
  (.seq (.seq (.region [⟨(some 11), (.move (.t 0)), none⟩,
      ⟨(some 12), (.len (.slice) (.t 11)), none⟩,
      ⟨(some 13), (.move (.c (.int (.i64) 0))), none⟩])
    (.block 0 (.loop (.seq (.region [⟨(some 14), (.bin (.lss) (.t 13) (.t 12)), none⟩])
       (.seq (.cond (.t 14) (.skip)
         (.exit 0))
        (.seq (.block 1 (.seq (.region [⟨(some 15), (.move (.t 13)), none⟩,
             ⟨(some 5), (.move (.t 15)), none⟩])
           (.seq (.draw [⟨5, ⟨(some 21), (.move (.t 5)), none⟩, (.quiet [0])⟩,
              ⟨4, ⟨(some 20), (.move (.t 1)), none⟩, (.quiet [0])⟩,
              ⟨6, ⟨(some 22), (.indexAddr 1 (.t 20) (.t 21)), none⟩, (.quiet [0])⟩,
              ⟨7, ⟨(some 23), (.load false 1 (.t 22)), none⟩, (.quiet [0])⟩,
              ⟨1, ⟨(some 17), (.move (.t 5)), none⟩, (.quiet [0])⟩,
              ⟨0, ⟨(some 16), (.move (.t 0)), none⟩, (.quiet [0])⟩,
              ⟨2, ⟨(some 18), (.indexAddr 1 (.t 16) (.t 17)), none⟩, (.quiet [0])⟩,
              ⟨3, ⟨(some 19), (.load false 1 (.t 18)), none⟩, (.quiet [0])⟩,
              ⟨8, ⟨(some 24), (.bin (.neq) (.t 19) (.t 23)), none⟩, (.quiet [0])⟩] 0)
            (.cond (.t 24) (.seq (.region [⟨(some 4), (.move (.c (.bool false))), none⟩])
              (.ret))
             (.skip)))))
         (.region [⟨(some 25), (.bin (.add) (.t 13) (.c (.int (.i64) 1))), none⟩,
           ⟨(some 13), (.move (.t 25)), none⟩])))))))
   (.seq (.region [⟨(some 4), (.move (.c (.bool true))), none⟩])
    (.ret))))⟩
theorem ok85 : compFunc prog glb 85 p85 = some c85 := by kernel_rfl
/-- slices.ContainsFunc[[]int,int] -/
def p86 : List Plan := []
def c86 : CFunc := ⟨9, [.tmp 4],
 .seq (.region [⟨(some 4), (.move (.c (.bool false))), none⟩])
 (.seq (.region [⟨(some 5), (.move (.t 0)), none⟩,
    ⟨(some 6), (.move (.t 1)), none⟩,
    ⟨(some 7), (.call (.c (.func 147 [] [])) [.t 5, .t 6]), none⟩,
    ⟨(some 8), (.bin (.geq) (.t 7) (.c (.int (.i64) 0))), none⟩,
    ⟨(some 4), (.move (.t 8)), none⟩])
  (.ret))⟩
theorem ok86 : compFunc prog glb 86 p86 = some c86 := by kernel_rfl
/-- (signalbox/audit.look).fits$1 -/
def p87 : List Plan := [⟨[(1, .quiet [0]), (0, .quiet [0]), (2, .eff), (4, .quiet [0, 3]), (3, .quiet [0, 3]), (5, .eff), (6, .eff), (7, .quiet [7]), (8, .quiet [7])], 0, [0, 0, 3, 0, 0, 31, 63, 127, 255]⟩]
def c87 : CFunc := ⟨12, [.tmp 3],
 .seq (.region [⟨(some 3), (.move (.c (.bool false))), none⟩])
 (.seq (.draw [⟨1, ⟨(some 5), (.move (.t 0)), none⟩, (.quiet [0])⟩,
    ⟨0, ⟨(some 4), (.load false 1 (.t 1)), none⟩, (.quiet [0])⟩,
    ⟨2, ⟨(some 6), (.call (.c (.func 47 [] [])) [.t 4, .t 5]), none⟩, (.eff)⟩,
    ⟨4, ⟨(some 8), (.move (.t 0)), none⟩, (.quiet [0, 3])⟩,
    ⟨3, ⟨(some 7), (.load false 1 (.t 1)), none⟩, (.quiet [0, 3])⟩,
    ⟨5, ⟨(some 9), (.call (.c (.func 89 [] [])) [.t 7, .t 8]), none⟩, (.eff)⟩,
    ⟨6, ⟨(some 10), (.call (.c (.func 88 [] [])) [.t 6, .t 9]), none⟩, (.eff)⟩,
    ⟨7, ⟨(some 11), (.un (.not) (.t 10)), none⟩, (.quiet [7])⟩,
    ⟨8, ⟨(some 3), (.move (.t 11)), none⟩, (.quiet [7])⟩] 0)
  (.ret))⟩
theorem ok87 : compFunc prog glb 87 p87 = some c87 := by kernel_rfl
/-- signalbox/units.Fits -/
def p88 : List Plan := []
def c88 : CFunc := ⟨20, [.cell 4 false 1],
 .seq (.region [⟨(some 4), (.new [.bool false]), none⟩])
 (.seq (.seq (.region [⟨(some 7), (.move (.t 0)), none⟩,
     ⟨(some 8), (.move (.t 1)), none⟩,
     ⟨(some 9), (.call (.c (.func 148 [] [])) [.t 7, .t 8]), none⟩])
   (.block 0 (.rangeF 88 0 2 (.t 9))))
  (.seq (.region [⟨(some 15), (.move (.t 0)), none⟩,
     ⟨(some 16), (.len (.slice) (.t 15)), none⟩,
     ⟨(some 17), (.move (.t 1)), none⟩,
     ⟨(some 18), (.len (.slice) (.t 17)), none⟩,
     ⟨(some 19), (.bin (.eql) (.t 16) (.t 18)), none⟩,
     ⟨none, (.store 1 (.t 4) (.t 19)), none⟩])
   (.ret)))⟩
theorem ok88 : compFunc prog glb 88 p88 = some c88 := by kernel_rfl
def pr88_0 : List Plan := []
def r88_0 : RoundC := ⟨[10, 11],
 (.seq (.region [⟨(some 5), (.move (.t 10)), none⟩])
 (.region [⟨(some 6), (.move (.t 11)), none⟩])),
 (.block 1 (.seq (.region [⟨(some 12), (.move (.t 5)), none⟩,
    ⟨(some 13), (.move (.t 6)), none⟩,
    ⟨(some 14), (.bin (.gtr) (.t 12) (.t 13)), none⟩])
  (.cond (.t 14) (.seq (.region [⟨none, (.store 1 (.t 4) (.c (.bool false))), none⟩])
    (.ret))
   (.skip))))⟩
theorem okr88_0 : compRound prog glb 88 0 pr88_0 = some r88_0 := by kernel_rfl
/-- (*signalbox/alloc.Alloc).Claim -/
def p89 : List Plan := []
def c89 : CFunc := ⟨16, [.tmp 4],
 .seq (.region [⟨(some 4), (.move (.c (.nilSlice))), none⟩])
 (.seq (.seq (.region [⟨(some 5), (.move (.t 0)), none⟩,
     ⟨(some 6), (.move (.t 1)), none⟩,
     ⟨(some 7), (.call (.c (.func 119 [] [])) [.t 5, .t 6]), none⟩,
     ⟨(some 8), (.un (.not) (.t 7)), none⟩])
   (.cond (.t 8) (.seq (.region [⟨(some 4), (.move (.c (.nilSlice))), none⟩])
     (.ret))
    (.skip)))
  (.seq (.region [⟨(some 9), (.move (.t 0)), none⟩,
     ⟨(some 10), (.nilCheck (.t 9)), none⟩,
     ⟨(some 11), (.fieldAddr 7 (.t 10)), none⟩,
     ⟨(some 12), (.load false 1 (.t 11)), none⟩,
     ⟨(some 13), (.move (.t 1)), none⟩,
     ⟨(some 14), (.lookup (.one (.int)) (.nilSlice) false (.t 12) (.t 13)), none⟩,
     ⟨(some 15), (.call (.c (.func 128 [] [])) [.t 14]), none⟩,
     ⟨(some 4), (.move (.t 15)), none⟩])
   (.ret)))⟩
theorem ok89 : compFunc prog glb 89 p89 = some c89 := by kernel_rfl
/-- (*signalbox/alloc.Alloc).Safe -/
def p90 : List Plan := []
def c90 : CFunc := ⟨39, [.tmp 2],
 .seq (.region [⟨(some 2), (.move (.c (.bool false))), none⟩])
 (.seq (.seq (.region [⟨(some 7), (.move (.t 0)), none⟩,
     ⟨(some 8), (.eq (.ptr) false (.t 7) (.c (.nilPtr))), none⟩])
   (.cond (.t 8) (.seq (.region [⟨(some 2), (.move (.c (.bool false))), none⟩])
     (.ret))
    (.skip)))
  (.seq (.region [⟨(some 3), (.move (.c (.nilSlice))), none⟩,
     ⟨(some 4), (.move (.c (.nilSlice))), none⟩])
   (.seq (.seq (.region [⟨(some 9), (.move (.t 0)), none⟩,
       ⟨(some 10), (.call (.c (.func 84 [] [])) [.t 9]), none⟩,
       ⟨(some 11), (.len (.slice) (.t 10)), none⟩,
       ⟨(some 12), (.move (.c (.int (.i64) 0))), none⟩])
     (.block 0 (.loop (.seq (.region [⟨(some 13), (.bin (.lss) (.t 12) (.t 11)), none⟩])
        (.seq (.cond (.t 13) (.skip)
          (.exit 0))
         (.seq (.block 1 (.seq (.region [⟨(some 14), (.indexAddr 1 (.t 10) (.t 12)), none⟩,
              ⟨(some 15), (.load false 1 (.t 14)), none⟩,
              ⟨(some 6), (.move (.t 15)), none⟩])
            (.seq (.region [⟨(some 16), (.move (.t 4)), none⟩,
               ⟨(some 17), (.move (.t 0)), none⟩,
               ⟨(some 18), (.nilCheck (.t 17)), none⟩,
               ⟨(some 19), (.fieldAddr 7 (.t 18)), none⟩,
               ⟨(some 20), (.load false 1 (.t 19)), none⟩,
               ⟨(some 21), (.move (.t 6)), none⟩,
               ⟨(some 22), (.lookup (.one (.int)) (.nilSlice) false (.t 20) (.t 21)), none⟩,
               ⟨(some 23), (.buildSlice [.nilSlice] 1 [(0, 1, .t 22)]), none⟩,
               ⟨(some 24), (.append 1 24 (.t 16) (.t 23)), none⟩,
               ⟨(some 4), (.move (.t 24)), none⟩])
             (.region [⟨(some 25), (.move (.t 3)), none⟩,
               ⟨(some 26), (.move (.t 0)), none⟩,
               ⟨(some 27), (.move (.t 6)), none⟩,
               ⟨(some 28), (.call (.c (.func 47 [] [])) [.t 26, .t 27]), none⟩,
               ⟨(some 29), (.buildSlice [.nilSlice] 1 [(0, 1, .t 28)]), none⟩,
               ⟨(some 30), (.append 1 24 (.t 25) (.t 29)), none⟩,
               ⟨(some 3), (.move (.t 30)), none⟩]))))
          (.region [⟨(some 31), (.bin (.add) (.t 12) (.c (.int (.i64) 1))), none⟩,
            ⟨(some 12), (.move (.t 31)), none⟩])))))))
    (.seq (.region [⟨(some 32), (.move (.t 0)), none⟩,
       ⟨(some 33), (.nilCheck (.t 32)), none⟩,
       ⟨(some 34), (.fieldAddr 5 (.t 33)), none⟩,
       ⟨(some 35), (.load false 1 (.t 34)), none⟩,
       ⟨(some 36), (.move (.t 3)), none⟩,
       ⟨(some 37), (.move (.t 4)), none⟩,
       ⟨(some 38), (.call (.c (.func 149 [] [])) [.t 35, .t 36, .t 37]), none⟩,
       ⟨(some 2), (.move (.t 38)), none⟩])
     (.ret)))))⟩
theorem ok90 : compFunc prog glb 90 p90 = some c90 := by kernel_rfl
/-- (signalbox/audit.look).semas -/
def p91 : List Plan := []
def c91 : CFunc := ⟨7, [.tmp 2],
 .seq (.region [⟨(some 1), (.box (.t 0)), none⟩,
   ⟨(some 2), (.move (.c (.nilFunc))), none⟩])
 (.seq (.region [⟨(some 3), (.fieldAddr 0 (.t 1)), none⟩,
    ⟨(some 4), (.load false 1 (.t 3)), none⟩,
    ⟨(some 5), (.func 25 [.t 4] []), none⟩,
    ⟨(some 6), (.call (.c (.func 150 [] [])) [.t 5]), none⟩,
    ⟨(some 2), (.move (.t 6)), none⟩])
  (.ret))⟩
theorem ok91 : compFunc prog glb 91 p91 = some c91 := by kernel_rfl
/-- (*signalbox/sema.Sema).Value -/
def p92 : List Plan := []
def c92 : CFunc := ⟨9, [.tmp 2],
 .seq (.region [⟨(some 2), (.move (.c (.int (.i64) 0))), none⟩])
 (.seq (.seq (.region [⟨(some 3), (.move (.t 0)), none⟩,
     ⟨(some 4), (.eq (.ptr) false (.t 3) (.c (.nilPtr))), none⟩])
   (.cond (.t 4) (.seq (.region [⟨(some 2), (.move (.c (.int (.i64) 0))), none⟩])
     (.ret))
    (.skip)))
  (.seq (.region [⟨(some 5), (.move (.t 0)), none⟩,
     ⟨(some 6), (.nilCheck (.t 5)), none⟩,
     ⟨(some 7), (.fieldAddr 0 (.t 6)), none⟩,
     ⟨(some 8), (.call (.c (.func 113 [] [])) [.t 7]), none⟩,
     ⟨(some 2), (.move (.t 8)), none⟩])
   (.ret)))⟩
theorem ok92 : compFunc prog glb 92 p92 = some c92 := by kernel_rfl
/-- (*signalbox/sema.Sema).First -/
def p93 : List Plan := []
def c93 : CFunc := ⟨9, [.tmp 2],
 .seq (.region [⟨(some 2), (.move (.c (.int (.i64) 0))), none⟩])
 (.seq (.seq (.region [⟨(some 3), (.move (.t 0)), none⟩,
     ⟨(some 4), (.eq (.ptr) false (.t 3) (.c (.nilPtr))), none⟩])
   (.cond (.t 4) (.seq (.region [⟨(some 2), (.move (.c (.int (.i64) 0))), none⟩])
     (.ret))
    (.skip)))
  (.seq (.region [⟨(some 5), (.move (.t 0)), none⟩,
     ⟨(some 6), (.nilCheck (.t 5)), none⟩,
     ⟨(some 7), (.fieldAddr 1 (.t 6)), none⟩,
     ⟨(some 8), (.load false 1 (.t 7)), none⟩,
     ⟨(some 2), (.move (.t 8)), none⟩])
   (.ret)))⟩
theorem ok93 : compFunc prog glb 93 p93 = some c93 := by kernel_rfl
/-- (*signalbox/sema.Sema).Vs -/
def p94 : List Plan := []
def c94 : CFunc := ⟨9, [.tmp 2],
 .seq (.region [⟨(some 2), (.move (.c (.int (.i64) 0))), none⟩])
 (.seq (.seq (.region [⟨(some 3), (.move (.t 0)), none⟩,
     ⟨(some 4), (.eq (.ptr) false (.t 3) (.c (.nilPtr))), none⟩])
   (.cond (.t 4) (.seq (.region [⟨(some 2), (.move (.c (.int (.i64) 0))), none⟩])
     (.ret))
    (.skip)))
  (.seq (.region [⟨(some 5), (.move (.t 0)), none⟩,
     ⟨(some 6), (.nilCheck (.t 5)), none⟩,
     ⟨(some 7), (.fieldAddr 3 (.t 6)), none⟩,
     ⟨(some 8), (.load false 1 (.t 7)), none⟩,
     ⟨(some 2), (.move (.t 8)), none⟩])
   (.ret)))⟩
theorem ok94 : compFunc prog glb 94 p94 = some c94 := by kernel_rfl
/-- (*signalbox/sema.Sema).Ps -/
def p95 : List Plan := []
def c95 : CFunc := ⟨9, [.tmp 2],
 .seq (.region [⟨(some 2), (.move (.c (.int (.i64) 0))), none⟩])
 (.seq (.seq (.region [⟨(some 3), (.move (.t 0)), none⟩,
     ⟨(some 4), (.eq (.ptr) false (.t 3) (.c (.nilPtr))), none⟩])
   (.cond (.t 4) (.seq (.region [⟨(some 2), (.move (.c (.int (.i64) 0))), none⟩])
     (.ret))
    (.skip)))
  (.seq (.region [⟨(some 5), (.move (.t 0)), none⟩,
     ⟨(some 6), (.nilCheck (.t 5)), none⟩,
     ⟨(some 7), (.fieldAddr 2 (.t 6)), none⟩,
     ⟨(some 8), (.load false 1 (.t 7)), none⟩,
     ⟨(some 2), (.move (.t 8)), none⟩])
   (.ret)))⟩
theorem ok95 : compFunc prog glb 95 p95 = some c95 := by kernel_rfl
/-- (*signalbox/sema.Sema).Waits -/
def p96 : List Plan := []
def c96 : CFunc := ⟨10, [.tmp 2],
 .seq (.region [⟨(some 2), (.move (.c (.nilSlice))), none⟩])
 (.seq (.seq (.region [⟨(some 3), (.move (.t 0)), none⟩,
     ⟨(some 4), (.eq (.ptr) false (.t 3) (.c (.nilPtr))), none⟩])
   (.cond (.t 4) (.seq (.region [⟨(some 2), (.move (.c (.nilSlice))), none⟩])
     (.ret))
    (.skip)))
  (.seq (.region [⟨(some 5), (.move (.t 0)), none⟩,
     ⟨(some 6), (.nilCheck (.t 5)), none⟩,
     ⟨(some 7), (.fieldAddr 4 (.t 6)), none⟩,
     ⟨(some 8), (.load false 1 (.t 7)), none⟩,
     ⟨(some 9), (.call (.c (.func 128 [] [])) [.t 8]), none⟩,
     ⟨(some 2), (.move (.t 9)), none⟩])
   (.ret)))⟩
theorem ok96 : compFunc prog glb 96 p96 = some c96 := by kernel_rfl
/-- (signalbox/audit.look).regions -/
def p97 : List Plan := []
def c97 : CFunc := ⟨7, [.tmp 2],
 .seq (.region [⟨(some 1), (.box (.t 0)), none⟩,
   ⟨(some 2), (.move (.c (.nilFunc))), none⟩])
 (.seq (.region [⟨(some 3), (.fieldAddr 0 (.t 1)), none⟩,
    ⟨(some 4), (.load false 1 (.t 3)), none⟩,
    ⟨(some 5), (.func 26 [.t 4] []), none⟩,
    ⟨(some 6), (.call (.c (.func 151 [] [])) [.t 5]), none⟩,
    ⟨(some 2), (.move (.t 6)), none⟩])
  (.ret))⟩
theorem ok97 : compFunc prog glb 97 p97 = some c97 := by kernel_rfl
/-- (*signalbox/region.Region).Entry -/
def p98 : List Plan := []
def c98 : CFunc := ⟨9, [.tmp 2],
 .seq (.region [⟨(some 2), (.move (.c (.nilSlice))), none⟩])
 (.seq (.seq (.region [⟨(some 3), (.move (.t 0)), none⟩,
     ⟨(some 4), (.eq (.ptr) false (.t 3) (.c (.nilPtr))), none⟩])
   (.cond (.t 4) (.seq (.region [⟨(some 2), (.move (.c (.nilSlice))), none⟩])
     (.ret))
    (.skip)))
  (.seq (.region [⟨(some 5), (.move (.t 0)), none⟩,
     ⟨(some 6), (.nilCheck (.t 5)), none⟩,
     ⟨(some 7), (.fieldAddr 1 (.t 6)), none⟩,
     ⟨(some 8), (.call (.c (.func 152 [] [])) [.t 7]), none⟩,
     ⟨(some 2), (.move (.t 8)), none⟩])
   (.ret)))⟩
theorem ok98 : compFunc prog glb 98 p98 = some c98 := by kernel_rfl
/-- (signalbox/audit.look).blocked -/
def p99 : List Plan := []
def c99 : CFunc := ⟨11, [.tmp 4],
 .seq (.region [⟨(some 2), (.box (.t 0)), none⟩,
   ⟨(some 4), (.move (.c (.bool false))), none⟩])
 (.seq (.region [⟨(some 5), (.fieldAddr 0 (.t 2)), none⟩,
    ⟨(some 6), (.load false 1 (.t 5)), none⟩,
    ⟨(some 7), (.call (.c (.func 23 [] [])) [.t 6]), none⟩,
    ⟨(some 8), (.move (.t 1)), none⟩,
    ⟨(some 9), (.call (.c (.func 118 [] [])) [.t 7, .t 8]), none⟩,
    ⟨(some 10), (.bin (.eql) (.t 9) (.c (.int (.i64) 2))), none⟩,
    ⟨(some 4), (.move (.t 10)), none⟩])
  (.ret))⟩
theorem ok99 : compFunc prog glb 99 p99 = some c99 := by kernel_rfl
/-- (signalbox/audit.look).ready -/
def p100 : List Plan := []
def c100 : CFunc := ⟨11, [.tmp 4],
 .seq (.region [⟨(some 2), (.box (.t 0)), none⟩,
   ⟨(some 4), (.move (.c (.bool false))), none⟩])
 (.seq (.region [⟨(some 5), (.fieldAddr 0 (.t 2)), none⟩,
    ⟨(some 6), (.load false 1 (.t 5)), none⟩,
    ⟨(some 7), (.call (.c (.func 23 [] [])) [.t 6]), none⟩,
    ⟨(some 8), (.move (.t 1)), none⟩,
    ⟨(some 9), (.call (.c (.func 118 [] [])) [.t 7, .t 8]), none⟩,
    ⟨(some 10), (.bin (.eql) (.t 9) (.c (.int (.i64) 1))), none⟩,
    ⟨(some 4), (.move (.t 10)), none⟩])
  (.ret))⟩
theorem ok100 : compFunc prog glb 100 p100 = some c100 := by kernel_rfl
/-- slices.Concat[[]int,int] -/
def p101 : List Plan := []
def c101 : CFunc := ⟨36, [.tmp 2],
 .seq (.region [⟨(some 2), (.move (.c (.nilSlice))), none⟩])
 (.seq (.region [⟨(some 3), (.move (.c (.int (.i64) 0))), none⟩])
  (.seq (.seq (.region [⟨(some 9), (.move (.t 0)), none⟩,
      ⟨(some 10), (.len (.slice) (.t 9)), none⟩,
      ⟨(some 11), (.move (.c (.int (.i64) 0))), none⟩])
    (.block 0 (.loop (.seq (.region [⟨(some 12), (.bin (.lss) (.t 11) (.t 10)), none⟩])
       (.seq (.cond (.t 12) (.skip)
         (.exit 0))
        (.seq (.block 1 (.seq (.region [⟨(some 13), (.indexAddr 1 (.t 9) (.t 11)), none⟩,
             ⟨(some 14), (.load false 1 (.t 13)), none⟩,
             ⟨(some 5), (.move (.t 14)), none⟩])
           (.seq (.region [⟨(some 15), (.move (.t 3)), none⟩,
              ⟨(some 16), (.move (.t 5)), none⟩,
              ⟨(some 17), (.len (.slice) (.t 16)), none⟩,
              ⟨(some 18), (.bin (.add) (.t 15) (.t 17)), none⟩,
              ⟨(some 3), (.move (.t 18)), none⟩])
            (.seq (.region [⟨(some 19), (.move (.t 3)), none⟩,
               ⟨(some 20), (.bin (.lss) (.t 19) (.c (.int (.i64) 0))), none⟩])
             (.cond (.t 20) (.region [⟨(some 21), (.iface 9 (.c (.str [108, 101, 110, 32, 111, 117, 116, 32, 111, 102, 32, 114, 97, 110, 103, 101]))), none⟩,
                ⟨none, (.dead), none⟩])
              (.skip))))))
         (.region [⟨(some 22), (.bin (.add) (.t 11) (.c (.int (.i64) 1))), none⟩,
           ⟨(some 11), (.move (.t 22)), none⟩])))))))
   (.seq (.region [⟨(some 23), (.move (.t 3)), none⟩,
      ⟨(some 24), (.call (.c (.func 153 [] [])) [.c (.nilSlice), .t 23]), none⟩,
      ⟨(some 6), (.move (.t 24)), none⟩])
    (.seq (.seq (.region [⟨(some 25), (.move (.t 0)), none⟩,
        ⟨(some 26), (.len (.slice) (.t 25)), none⟩,
        ⟨(some 27), (.move (.c (.int (.i64) 0))), none⟩])
      (.block 2 (.loop (.seq (.region [⟨(some 28), (.bin (.lss) (.t 27) (.t 26)), none⟩])
         (.seq (.cond (.t 28) (.skip)
           (.exit 2))
          (.seq (.block 3 (.seq (.region [⟨(some 29), (.indexAddr 1 (.t 25) (.t 27)), none⟩,
               ⟨(some 30), (.load false 1 (.t 29)), none⟩,
               ⟨(some 8), (.move (.t 30)), none⟩])
             (.region [⟨(some 31), (.move (.t 6)), none⟩,
               ⟨(some 32), (.move (.t 8)), none⟩,
               ⟨(some 33), (.append 1 8 (.t 31) (.t 32)), none⟩,
               ⟨(some 6), (.move (.t 33)), none⟩])))
           (.region [⟨(some 34), (.bin (.add) (.t 27) (.c (.int (.i64) 1))), none⟩,
             ⟨(some 27), (.move (.t 34)), none⟩])))))))
     (.seq (.region [⟨(some 35), (.move (.t 6)), none⟩,
        ⟨(some 2), (.move (.t 35)), none⟩])
      (.ret))))))⟩
theorem ok101 : compFunc prog glb 101 p101 = some c101 := by kernel_rfl
/-- (*signalbox/region.Region).Waits -/
def p102 : List Plan := []
def c102 : CFunc := ⟨9, [.tmp 2],
 .seq (.region [⟨(some 2), (.move (.c (.nilSlice))), none⟩])
 (.seq (.seq (.region [⟨(some 3), (.move (.t 0)), none⟩,
     ⟨(some 4), (.eq (.ptr) false (.t 3) (.c (.nilPtr))), none⟩])
   (.cond (.t 4) (.seq (.region [⟨(some 2), (.move (.c (.nilSlice))), none⟩])
     (.ret))
    (.skip)))
  (.seq (.region [⟨(some 5), (.move (.t 0)), none⟩,
     ⟨(some 6), (.nilCheck (.t 5)), none⟩,
     ⟨(some 7), (.fieldAddr 2 (.t 6)), none⟩,
     ⟨(some 8), (.call (.c (.func 152 [] [])) [.t 7]), none⟩,
     ⟨(some 2), (.move (.t 8)), none⟩])
   (.ret)))⟩
theorem ok102 : compFunc prog glb 102 p102 = some c102 := by kernel_rfl
/-- (*signalbox/procs.Table).Blocked -/
def p103 : List Plan := []
def c103 : CFunc := ⟨5, [.tmp 2],
 .seq (.region [⟨(some 2), (.move (.c (.nilSlice))), none⟩])
 (.seq (.region [⟨(some 3), (.move (.t 0)), none⟩,
    ⟨(some 4), (.call (.c (.func 154 [] [])) [.t 3, .c (.func 155 [] [])]), none⟩,
    ⟨(some 2), (.move (.t 4)), none⟩])
  (.ret))⟩
theorem ok103 : compFunc prog glb 103 p103 = some c103 := by kernel_rfl
/-- (signalbox/audit.look).places$1 -/
def p104 : List Plan := []
def c104 : CFunc := ⟨8, [.tmp 3],
 .seq (.region [⟨(some 3), (.move (.c (.bool false))), none⟩])
 (.seq (.region [⟨(some 4), (.load true 3 (.t 1)), none⟩,
    ⟨(some 5), (.move (.t 0)), none⟩,
    ⟨(some 6), (.call (.c (.func 105 [] [])) [.t 4, .t 5]), none⟩,
    ⟨(some 7), (.un (.not) (.t 6)), none⟩,
    ⟨(some 3), (.move (.t 7)), none⟩])
  (.ret))⟩
theorem ok104 : compFunc prog glb 104 p104 = some c104 := by kernel_rfl
/-- (signalbox/audit.look).stands -/
def p105 : List Plan := []
def c105 : CFunc := ⟨58, [.tmp 4],
 .seq (.region [⟨(some 2), (.box (.t 0)), none⟩,
   ⟨(some 4), (.move (.c (.bool false))), none⟩])
 (.seq (.region [⟨(some 7), (.fieldAddr 0 (.t 2)), none⟩,
    ⟨(some 8), (.load false 1 (.t 7)), none⟩,
    ⟨(some 9), (.call (.c (.func 23 [] [])) [.t 8]), none⟩,
    ⟨(some 10), (.move (.t 1)), none⟩,
    ⟨(some 11), (.call (.c (.func 138 [] [])) [.t 9, .t 10]), none⟩,
    ⟨(some 5), (.new [.int (.i64) 0, .int (.i64) 0]), none⟩,
    ⟨none, (.store 2 (.t 5) (.t 11)), none⟩])
  (.seq (.region [⟨(some 12), (.fieldAddr 0 (.t 2)), none⟩,
     ⟨(some 13), (.load false 1 (.t 12)), none⟩,
     ⟨(some 14), (.fieldAddr 1 (.t 5)), none⟩,
     ⟨(some 15), (.load false 1 (.t 14)), none⟩,
     ⟨(some 16), (.call (.c (.func 26 [] [])) [.t 13, .t 15]), none⟩,
     ⟨(some 6), (.move (.t 16)), none⟩])
   (.seq (.seq (.region [⟨(some 17), (.fieldAddr 0 (.t 5)), none⟩,
       ⟨(some 18), (.load false 1 (.t 17)), none⟩])
     (.block 0 (.seq (.region [⟨(some 20), (.bin (.eql) (.t 18) (.c (.int (.i64) 1))), none⟩,
         ⟨(some 19), (.move (.t 20)), none⟩])
       (.cond (.t 19) (.seq (.region [⟨(some 21), (.fieldAddr 0 (.t 2)), none⟩,
           ⟨(some 22), (.load false 1 (.t 21)), none⟩,
           ⟨(some 23), (.fieldAddr 1 (.t 5)), none⟩,
           ⟨(some 24), (.load false 1 (.t 23)), none⟩,
           ⟨(some 25), (.call (.c (.func 25 [] [])) [.t 22, .t 24]), none⟩,
           ⟨(some 26), (.call (.c (.func 96 [] [])) [.t 25]), none⟩,
           ⟨(some 27), (.move (.t 1)), none⟩,
           ⟨(some 28), (.call (.c (.func 64 [] [])) [.t 26, .t 27]), none⟩,
           ⟨(some 4), (.move (.t 28)), none⟩])
         (.ret))
        (.seq (.region [⟨(some 30), (.bin (.eql) (.t 18) (.c (.int (.i64) 2))), none⟩,
           ⟨(some 29), (.move (.t 30)), none⟩])
         (.cond (.t 29) (.seq (.region [⟨(some 31), (.move (.t 6)), none⟩,
             ⟨(some 32), (.call (.c (.func 98 [] [])) [.t 31]), none⟩,
             ⟨(some 33), (.move (.t 1)), none⟩,
             ⟨(some 34), (.call (.c (.func 64 [] [])) [.t 32, .t 33]), none⟩,
             ⟨(some 4), (.move (.t 34)), none⟩])
           (.ret))
          (.seq (.region [⟨(some 36), (.bin (.eql) (.t 18) (.c (.int (.i64) 3))), none⟩,
             ⟨(some 35), (.move (.t 36)), none⟩])
           (.cond (.t 35) (.seq (.region [⟨(some 37), (.move (.t 6)), none⟩,
               ⟨(some 38), (.call (.c (.func 98 [] [])) [.t 37]), none⟩,
               ⟨(some 39), (.move (.t 1)), none⟩,
               ⟨(some 40), (.call (.c (.func 64 [] [])) [.t 38, .t 39]), none⟩,
               ⟨(some 41), (.move (.t 40)), none⟩,
               ⟨(some 42), (.move (.t 6)), (some (41, false))⟩,
               ⟨(some 43), (.call (.c (.func 102 [] [])) [.t 42]), (some (41, false))⟩,
               ⟨(some 44), (.move (.t 1)), (some (41, false))⟩,
               ⟨(some 45), (.call (.c (.func 64 [] [])) [.t 43, .t 44]), (some (41, false))⟩,
               ⟨(some 46), (.pick (.t 41) (.c (.bool true)) (.t 45)), none⟩,
               ⟨(some 4), (.move (.t 46)), none⟩])
             (.ret))
            (.seq (.region [⟨(some 48), (.bin (.eql) (.t 18) (.c (.int (.i64) 4))), none⟩,
               ⟨(some 47), (.move (.t 48)), none⟩])
             (.cond (.t 47) (.seq (.region [⟨(some 49), (.load true 3 (.t 2)), none⟩,
                 ⟨(some 50), (.move (.t 1)), none⟩,
                 ⟨(some 51), (.call (.c (.func 156 [] [])) [.t 49, .t 50]), none⟩,
                 ⟨(some 4), (.move (.t 51)), none⟩])
               (.ret))
              (.skip)))))))))))
    (.seq (.region [⟨(some 52), (.fieldAddr 0 (.t 2)), none⟩,
       ⟨(some 53), (.load false 1 (.t 52)), none⟩,
       ⟨(some 54), (.call (.c (.func 23 [] [])) [.t 53]), none⟩,
       ⟨(some 55), (.move (.t 1)), none⟩,
       ⟨(some 56), (.call (.c (.func 120 [] [])) [.t 54, .t 55]), none⟩,
       ⟨(some 57), (.bin (.gtr) (.t 56) (.c (.int (.i64) 0))), none⟩,
       ⟨(some 4), (.move (.t 57)), none⟩])
     (.ret)))))⟩
theorem ok105 : compFunc prog glb 105 p105 = some c105 := by kernel_rfl
/-- (*signalbox/procs.Table).Ready -/
def p106 : List Plan := []
def c106 : CFunc := ⟨5, [.tmp 2],
 .seq (.region [⟨(some 2), (.move (.c (.nilSlice))), none⟩])
 (.seq (.region [⟨(some 3), (.move (.t 0)), none⟩,
    ⟨(some 4), (.call (.c (.func 154 [] [])) [.t 3, .c (.func 157 [] [])]), none⟩,
    ⟨(some 2), (.move (.t 4)), none⟩])
  (.ret))⟩
theorem ok106 : compFunc prog glb 106 p106 = some c106 := by kernel_rfl
/-- (signalbox/audit.look).waits -/
def p107 : List Plan := []
def c107 : CFunc := ⟨30, [.cell 4 false 1],
 .seq (.region [⟨(some 2), (.box (.t 0)), none⟩,
   ⟨(some 3), (.box (.t 1)), none⟩,
   ⟨(some 4), (.new [.bool false]), none⟩])
 (.seq (.seq (.region [⟨(some 7), (.load true 3 (.t 2)), none⟩,
     ⟨(some 8), (.call (.c (.func 91 [] [])) [.t 7]), none⟩])
   (.block 0 (.rangeF 107 0 1 (.t 8))))
  (.seq (.seq (.region [⟨(some 14), (.load true 3 (.t 2)), none⟩,
      ⟨(some 15), (.call (.c (.func 97 [] [])) [.t 14]), none⟩])
    (.block 2 (.rangeF 107 1 1 (.t 15))))
   (.seq (.region [⟨(some 27), (.load true 3 (.t 2)), none⟩,
      ⟨(some 28), (.load false 1 (.t 3)), none⟩,
      ⟨(some 29), (.call (.c (.func 156 [] [])) [.t 27, .t 28]), none⟩,
      ⟨none, (.store 1 (.t 4) (.t 29)), none⟩])
    (.ret))))⟩
theorem ok107 : compFunc prog glb 107 p107 = some c107 := by kernel_rfl
def pr107_0 : List Plan := [⟨[(0, .quiet [0]), (1, .eff), (2, .quiet [0, 2]), (3, .eff)], 0, [0, 1, 0, 7]⟩]
def r107_0 : RoundC := ⟨[9],
 (.region [⟨(some 5), (.move (.t 9)), none⟩]),
 (.block 1 (.seq (.draw [⟨0, ⟨(some 10), (.move (.t 5)), none⟩, (.quiet [0])⟩,
    ⟨1, ⟨(some 11), (.call (.c (.func 96 [] [])) [.t 10]), none⟩, (.eff)⟩,
    ⟨2, ⟨(some 12), (.load false 1 (.t 3)), none⟩, (.quiet [0, 2])⟩,
    ⟨3, ⟨(some 13), (.call (.c (.func 64 [] [])) [.t 11, .t 12]), none⟩, (.eff)⟩] 0)
  (.cond (.t 13) (.seq (.region [⟨none, (.store 1 (.t 4) (.c (.bool true))), none⟩])
    (.ret))
   (.skip))))⟩
theorem okr107_0 : compRound prog glb 107 0 pr107_0 = some r107_0 := by kernel_rfl
def pr107_1 : List Plan := [⟨[(0, .quiet [0]), (1, .eff), (2, .quiet [0, 2]), (3, .eff), (4, .quiet [4]), (5, .quiet [4]), (6, .eff), (7, .quiet [4, 7]), (8, .eff), (9, .quiet [9])], 0, [0, 1, 0, 7, 15, 31, 63, 31, 255, 511]⟩]
def r107_1 : RoundC := ⟨[16],
 (.region [⟨(some 6), (.move (.t 16)), none⟩]),
 (.block 3 (.seq (.draw [⟨0, ⟨(some 17), (.move (.t 6)), none⟩, (.quiet [0])⟩,
    ⟨1, ⟨(some 18), (.call (.c (.func 98 [] [])) [.t 17]), none⟩, (.eff)⟩,
    ⟨2, ⟨(some 19), (.load false 1 (.t 3)), none⟩, (.quiet [0, 2])⟩,
    ⟨3, ⟨(some 20), (.call (.c (.func 64 [] [])) [.t 18, .t 19]), none⟩, (.eff)⟩,
    ⟨4, ⟨(some 21), (.move (.t 20)), none⟩, (.quiet [4])⟩,
    ⟨5, ⟨(some 22), (.move (.t 6)), (some (21, false))⟩, (.quiet [4])⟩,
    ⟨6, ⟨(some 23), (.call (.c (.func 102 [] [])) [.t 22]), (some (21, false))⟩, (.eff)⟩,
    ⟨7, ⟨(some 24), (.load false 1 (.t 3)), (some (21, false))⟩, (.quiet [4, 7])⟩,
    ⟨8, ⟨(some 25), (.call (.c (.func 64 [] [])) [.t 23, .t 24]), (some (21, false))⟩, (.eff)⟩,
    ⟨9, ⟨(some 26), (.pick (.t 21) (.c (.bool true)) (.t 25)), none⟩, (.quiet [9])⟩] 0)
  (.cond (.t 26) (.seq (.region [⟨none, (.store 1 (.t 4) (.c (.bool true))), none⟩])
    (.ret))
   (.skip))))⟩
theorem okr107_1 : compRound prog glb 107 1 pr107_1 = some r107_1 := by kernel_rfl
/-- signalbox/units.Zero -/
def p108 : List Plan := []
def c108 : CFunc := ⟨11, [.tmp 2],
 .seq (.region [⟨(some 2), (.move (.c (.nilSlice))), none⟩])
 (.seq (.seq (.region [⟨(some 3), (.move (.t 0)), none⟩,
     ⟨(some 4), (.bin (.lss) (.t 3) (.c (.int (.i64) 1))), none⟩,
     ⟨(some 5), (.move (.t 4)), none⟩,
     ⟨(some 6), (.move (.t 0)), (some (5, false))⟩,
     ⟨(some 7), (.bin (.gtr) (.t 6) (.c (.int (.i64) 6))), (some (5, false))⟩,
     ⟨(some 8), (.pick (.t 5) (.c (.bool true)) (.t 7)), none⟩])
   (.cond (.t 8) (.seq (.region [⟨(some 2), (.move (.c (.nilSlice))), none⟩])
     (.ret))
    (.skip)))
  (.seq (.region [⟨(some 9), (.move (.t 0)), none⟩,
     ⟨(some 10), (.makeSlice [.int (.i64) 0] 8 (.t 9) (.t 9)), none⟩,
     ⟨(some 2), (.move (.t 10)), none⟩])
   (.ret)))⟩
theorem ok108 : compFunc prog glb 108 p108 = some c108 := by kernel_rfl
/-- slices.IndexFunc[[]signalbox/alloc.Ask,signalbox/alloc.Ask] -/
def p109 : List Plan := []
def c109 : CFunc := ⟨19, [.tmp 4],
 .seq (.region [⟨(some 4), (.move (.c (.int (.i64) 0))), none⟩])
 (.seq (.seq (.region [⟨(some 6), (.move (.t 0)), none⟩,
     ⟨(some 7), (.len (.slice) (.t 6)), none⟩,
     ⟨(some 8), (.move (.c (.int (.i64) 0))), none⟩])
   (.block 0 (.loop (.seq (.region [⟨(some 9), (.bin (.lss) (.t 8) (.t 7)), none⟩])
      (.seq (.cond (.t 9) (.skip)
        (.exit 0))
       (.seq (.block 1 (.seq (.region [⟨(some 10), (.move (.t 8)), none⟩,
            ⟨(some 5), (.move (.t 10)), none⟩])
          (.seq (.region [⟨(some 11), (.move (.t 1)), none⟩,
             ⟨(some 12), (.move (.t 0)), none⟩,
             ⟨(some 13), (.move (.t 5)), none⟩,
             ⟨(some 14), (.indexAddr 2 (.t 12) (.t 13)), none⟩,
             ⟨(some 15), (.load true 2 (.t 14)), none⟩,
             ⟨(some 16), (.call (.t 11) [.t 15]), none⟩])
           (.cond (.t 16) (.seq (.region [⟨(some 17), (.move (.t 5)), none⟩,
               ⟨(some 4), (.move (.t 17)), none⟩])
             (.ret))
            (.skip)))))
        (.region [⟨(some 18), (.bin (.add) (.t 8) (.c (.int (.i64) 1))), none⟩,
          ⟨(some 8), (.move (.t 18)), none⟩])))))))
  (.seq (.region [⟨(some 4), (.move (.c (.int (.i64) (-1)))), none⟩])
   (.ret)))⟩
theorem ok109 : compFunc prog glb 109 p109 = some c109 := by kernel_rfl
/-- signalbox/alloc.of -/
def p110 : List Plan := []
def c110 : CFunc := ⟨4, [.tmp 2],
 .seq (.region [⟨(some 1), (.box (.t 0)), none⟩,
   ⟨(some 2), (.move (.c (.nilFunc))), none⟩])
 (.seq (.region [⟨(some 3), (.func 158 [] [.t 1]), none⟩,
    ⟨(some 2), (.move (.t 3)), none⟩])
  (.ret))⟩
theorem ok110 : compFunc prog glb 110 p110 = some c110 := by kernel_rfl
/-- signalbox/holt.Stuck -/
def p111 : List Plan := []
def c111 : CFunc := ⟨32, [.tmp 6],
 .seq (.region [⟨(some 4), (.box (.t 1)), none⟩,
   ⟨(some 5), (.box (.t 2)), none⟩,
   ⟨(some 6), (.move (.c (.nilSlice))), none⟩])
 (.seq (.seq (.region [⟨(some 12), (.move (.t 0)), none⟩,
     ⟨(some 13), (.load false 1 (.t 4)), none⟩,
     ⟨(some 14), (.load false 1 (.t 5)), none⟩,
     ⟨(some 15), (.call (.c (.func 159 [] [])) [.t 12, .t 13, .t 14]), none⟩,
     ⟨(some 16), (.un (.not) (.t 15)), none⟩])
   (.cond (.t 16) (.seq (.region [⟨(some 6), (.move (.c (.nilSlice))), none⟩])
     (.ret))
    (.skip)))
  (.seq (.region [⟨(some 17), (.move (.t 0)), none⟩,
     ⟨(some 18), (.call (.c (.func 128 [] [])) [.t 17]), none⟩,
     ⟨(some 7), (.new [.nilSlice]), none⟩,
     ⟨none, (.store 1 (.t 7) (.t 18)), none⟩])
   (.seq (.region [⟨(some 19), (.newMap), none⟩,
      ⟨(some 8), (.new [.nilMap]), none⟩,
      ⟨none, (.store 1 (.t 8) (.t 19)), none⟩])
    (.seq (.seq (.region [⟨(some 20), (.load false 1 (.t 4)), none⟩,
        ⟨(some 21), (.len (.slice) (.t 20)), none⟩,
        ⟨(some 22), (.move (.c (.int (.i64) 0))), none⟩])
      (.block 0 (.loop (.seq (.region [⟨(some 23), (.bin (.lss) (.t 22) (.t 21)), none⟩])
         (.seq (.cond (.t 23) (.skip)
           (.exit 0))
          (.seq (.block 1 (.seq (.region [⟨(some 24), (.move (.t 22)), none⟩,
               ⟨(some 9), (.move (.t 24)), none⟩])
             (.region [⟨(some 25), (.load false 1 (.t 8)), none⟩,
               ⟨(some 26), (.move (.t 9)), none⟩,
               ⟨none, (.mapUpdate (.one (.int)) (.t 25) (.t 26) (.c (.bool true))), none⟩])))
           (.region [⟨(some 27), (.bin (.add) (.t 22) (.c (.int (.i64) 1))), none⟩,
             ⟨(some 22), (.move (.t 27)), none⟩])))))))
     (.seq (.region [⟨(some 10), (.new [.nilSlice]), none⟩])
      (.seq (.region [⟨(some 11), (.new [.nilFunc]), none⟩])
       (.seq (.region [⟨(some 28), (.func 160 [] [.t 10, .t 4, .t 8, .t 5, .t 7, .t 11]), none⟩,
          ⟨none, (.store 1 (.t 11) (.t 28)), none⟩])
        (.seq (.region [⟨(some 29), (.load false 1 (.t 11)), none⟩,
           ⟨(some 30), (.call (.t 29) []), none⟩])
         (.seq (.region [⟨(some 31), (.load false 1 (.t 10)), none⟩,
            ⟨(some 6), (.move (.t 31)), none⟩])
          (.ret))))))))))⟩
theorem ok111 : compFunc prog glb 111 p111 = some c111 := by kernel_rfl
/-- signalbox/signalboxref1.Prefix -/
def p112 : List Plan := [⟨[(5, .quiet [0]), (4, .quiet [0]), (6, .quiet [0]), (7, .quiet [0]), (1, .quiet [0]), (0, .quiet [0]), (2, .quiet [0]), (3, .quiet [0]), (8, .quiet [0])], 0, [0, 0, 3, 7, 0, 0, 48, 112, 255]⟩]
def c112 : CFunc := ⟨26, [.tmp 4],
 .seq (.region [⟨(some 4), (.move (.c (.bool false))), none⟩])
 (.seq (.seq (.region [⟨(some 6), (.move (.t 0)), none⟩,
     ⟨(some 7), (.len (.slice) (.t 6)), none⟩,
     ⟨(some 8), (.move (.t 1)), none⟩,
     ⟨(some 9), (.len (.slice) (.t 8)), none⟩,
     ⟨(some 10), (.bin (.gtr) (.t 7) (.t 9)), none⟩])
   (.cond (.t 10) (.seq (.region [⟨(some 4), (.move (.c (.bool false))), none⟩])
     (.ret))
    (.skip)))
  (.seq (.seq (.region [⟨(some 5), (.move (.c (.int (.i64) 0))), none⟩])
    (.block 0 (.loop (.seq (.seq (.region [⟨(some 11), (.move (.t 5)), none⟩,
          ⟨(some 12), (.move (.t 0)), none⟩,
          ⟨(some 13), (.len (.slice) (.t 12)), none⟩,
          ⟨(some 14), (.bin (.lss) (.t 11) (.t 13)), none⟩])
        (.cond (.t 14) (.skip)
         (.exit 0)))
       (.seq (.block 1 (.seq (.draw [⟨5, ⟨(some 22), (.move (.t 5)), none⟩, (.quiet [0])⟩,
            ⟨4, ⟨(some 21), (.move (.t 1)), none⟩, (.quiet [0])⟩,
            ⟨6, ⟨(some 23), (.indexAddr 5 (.t 21) (.t 22)), none⟩, (.quiet [0])⟩,
            ⟨7, ⟨(some 24), (.load true 5 (.t 23)), none⟩, (.quiet [0])⟩,
            ⟨1, ⟨(some 18), (.move (.t 5)), none⟩, (.quiet [0])⟩,
            ⟨0, ⟨(some 17), (.move (.t 0)), none⟩, (.quiet [0])⟩,
            ⟨2, ⟨(some 19), (.indexAddr 5 (.t 17) (.t 18)), none⟩, (.quiet [0])⟩,
            ⟨3, ⟨(some 20), (.load true 5 (.t 19)), none⟩, (.quiet [0])⟩,
            ⟨8, ⟨(some 25), (.eqS [.int, .int, .int, .int, .int] true (.t 20) (.t 24)), none⟩, (.quiet [0])⟩] 0)
          (.cond (.t 25) (.seq (.region [⟨(some 4), (.move (.c (.bool false))), none⟩])
            (.ret))
           (.skip))))
        (.region [⟨(some 15), (.move (.t 5)), none⟩,
          ⟨(some 16), (.bin (.add) (.t 15) (.c (.int (.i64) 1))), none⟩,
          ⟨(some 5), (.move (.t 16)), none⟩]))))))
   (.seq (.region [⟨(some 4), (.move (.c (.bool true))), none⟩])
    (.ret))))⟩
theorem ok112 : compFunc prog glb 112 p112 = some c112 := by kernel_rfl
/-- (*sync/atomic.Int64).Load -/
def p113 : List Plan := []
def c113 : CFunc := ⟨7, [.tmp 2],
 .seq (.region [⟨(some 2), (.move (.c (.int (.i64) 0))), none⟩])
 (.seq (.region [⟨(some 3), (.move (.t 0)), none⟩,
    ⟨(some 4), (.nilCheck (.t 3)), none⟩,
    ⟨(some 5), (.fieldAddr 0 (.t 4)), none⟩,
    ⟨(some 6), (.ext (Ext.atomicLoad (.i64)) [.t 5]), none⟩,
    ⟨(some 2), (.move (.t 6)), none⟩])
  (.ret))⟩
theorem ok113 : compFunc prog glb 113 p113 = some c113 := by kernel_rfl
/-- signalbox/units.may -/
def p114 : List Plan := []
def c114 : CFunc := ⟨18, [.tmp 2],
 .seq (.region [⟨(some 2), (.move (.c (.bool false))), none⟩])
 (.seq (.seq (.region [⟨(some 5), (.move (.t 0)), none⟩,
     ⟨(some 6), (.len (.slice) (.t 5)), none⟩,
     ⟨(some 7), (.move (.c (.int (.i64) 0))), none⟩])
   (.block 0 (.loop (.seq (.region [⟨(some 8), (.bin (.lss) (.t 7) (.t 6)), none⟩])
      (.seq (.cond (.t 8) (.skip)
        (.exit 0))
       (.seq (.block 1 (.seq (.region [⟨(some 9), (.indexAddr 1 (.t 5) (.t 7)), none⟩,
            ⟨(some 10), (.load false 1 (.t 9)), none⟩,
            ⟨(some 4), (.move (.t 10)), none⟩])
          (.seq (.region [⟨(some 11), (.move (.t 4)), none⟩,
             ⟨(some 12), (.bin (.lss) (.t 11) (.c (.int (.i64) 0))), none⟩,
             ⟨(some 13), (.move (.t 12)), none⟩,
             ⟨(some 14), (.move (.t 4)), (some (13, false))⟩,
             ⟨(some 15), (.bin (.gtr) (.t 14) (.c (.int (.i64) 1000))), (some (13, false))⟩,
             ⟨(some 16), (.pick (.t 13) (.c (.bool true)) (.t 15)), none⟩])
           (.cond (.t 16) (.seq (.region [⟨(some 2), (.move (.c (.bool false))), none⟩])
             (.ret))
            (.skip)))))
        (.region [⟨(some 17), (.bin (.add) (.t 7) (.c (.int (.i64) 1))), none⟩,
          ⟨(some 7), (.move (.t 17)), none⟩])))))))
  (.seq (.region [⟨(some 2), (.move (.c (.bool true))), none⟩])
   (.ret)))⟩
theorem ok114 : compFunc prog glb 114 p114 = some c114 := by kernel_rfl
/-- (*signalbox/procs.Table).Spawn -/
def p115 : List Plan := [⟨[(0, .quiet [0]), (1, .eff), (2, .quiet [0, 2]), (3, .quiet [0, 2]), (4, .quiet [0, 2]), (5, .quiet [0, 2]), (6, .quiet [2]), (7, .quiet [2])], 0, [0, 1, 0, 4, 12, 28, 63, 127]⟩]
def c115 : CFunc := ⟨43, [.tmp 4, .tmp 5],
 .seq (.region [⟨(some 4), (.move (.c (.int (.i64) 0))), none⟩,
   ⟨(some 5), (.move (.c (.int (.i64) 0))), none⟩])
 (.seq (.block 0 (.seq (.region [⟨(some 7), (.move (.t 0)), none⟩,
      ⟨(some 8), (.eq (.ptr) false (.t 7) (.c (.nilPtr))), none⟩,
      ⟨(some 9), (.move (.t 8)), none⟩,
      ⟨(some 10), (.move (.t 1)), (some (9, false))⟩,
      ⟨(some 11), (.bin (.neq) (.t 10) (.c (.int (.i64) 0))), (some (9, false))⟩,
      ⟨(some 12), (.move (.t 11)), (some (9, false))⟩,
      ⟨(some 13), (.move (.t 0)), (some (12, true))⟩,
      ⟨(some 14), (.move (.t 1)), (some (12, true))⟩,
      ⟨(some 15), (.call (.c (.func 163 [] [])) [.t 13, .t 14]), (some (12, true))⟩,
      ⟨(some 16), (.call (.c (.func 164 [] [])) [.t 15]), (some (12, true))⟩,
      ⟨(some 17), (.un (.not) (.t 16)), (some (12, true))⟩,
      ⟨(some 18), (.pick (.t 12) (.t 17) (.c (.bool false))), (some (9, false))⟩,
      ⟨(some 19), (.pick (.t 9) (.c (.bool true)) (.t 18)), none⟩,
      ⟨(some 6), (.move (.t 19)), none⟩])
    (.cond (.t 6) (.seq (.region [⟨(some 4), (.move (.c (.int (.i64) 0))), none⟩,
        ⟨(some 5), (.move (.c (.int (.i64) 3))), none⟩])
      (.ret))
     (.seq (.draw [⟨0, ⟨(some 21), (.move (.t 0)), none⟩, (.quiet [0])⟩,
        ⟨1, ⟨(some 22), (.call (.c (.func 165 [] [])) [.t 21]), none⟩, (.eff)⟩,
        ⟨2, ⟨(some 23), (.move (.t 0)), none⟩, (.quiet [0, 2])⟩,
        ⟨3, ⟨(some 24), (.nilCheck (.t 23)), none⟩, (.quiet [0, 2])⟩,
        ⟨4, ⟨(some 25), (.fieldAddr 0 (.t 24)), none⟩, (.quiet [0, 2])⟩,
        ⟨5, ⟨(some 26), (.load false 1 (.t 25)), none⟩, (.quiet [0, 2])⟩,
        ⟨6, ⟨(some 27), (.bin (.geq) (.t 22) (.t 26)), none⟩, (.quiet [2])⟩,
        ⟨7, ⟨(some 20), (.move (.t 27)), none⟩, (.quiet [2])⟩] 0)
      (.cond (.t 20) (.seq (.region [⟨(some 4), (.move (.c (.int (.i64) 0))), none⟩,
          ⟨(some 5), (.move (.c (.int (.i64) 42))), none⟩])
        (.ret))
       (.skip))))))
  (.seq (.region [⟨(some 28), (.move (.t 0)), none⟩,
     ⟨(some 29), (.move (.t 0)), none⟩,
     ⟨(some 30), (.nilCheck (.t 29)), none⟩,
     ⟨(some 31), (.fieldAddr 2 (.t 30)), none⟩,
     ⟨(some 32), (.load false 1 (.t 31)), none⟩,
     ⟨(some 33), (.move (.t 1)), none⟩,
     ⟨(some 34), (.build [.int (.i64) 0, .int (.i64) 0, .int (.i64) 0, .int (.i64) 0, .int (.i64) 0] [(0, 1, .c (.int (.i64) 1)), (1, 1, .t 33)]), none⟩,
     ⟨(some 35), (.buildSlice [.int (.i64) 0, .int (.i64) 0, .int (.i64) 0, .int (.i64) 0, .int (.i64) 0] 1 [(0, 5, .t 34)]), none⟩,
     ⟨(some 36), (.append 5 40 (.t 32) (.t 35)), none⟩,
     ⟨(some 37), (.nilCheck (.t 28)), none⟩,
     ⟨(some 38), (.fieldAddr 2 (.t 37)), none⟩,
     ⟨none, (.store 1 (.t 38) (.t 36)), none⟩])
   (.seq (.region [⟨(some 39), (.move (.t 0)), none⟩,
      ⟨(some 40), (.nilCheck (.t 39)), none⟩,
      ⟨(some 41), (.fieldAddr 1 (.t 40)), none⟩,
      ⟨(some 42), (.call (.c (.func 122 [] [])) [.t 41, .c (.int (.i64) 1)]), none⟩,
      ⟨(some 4), (.move (.t 42)), none⟩,
      ⟨(some 5), (.move (.c (.int (.i64) 0))), none⟩])
    (.ret))))⟩
theorem ok115 : compFunc prog glb 115 p115 = some c115 := by kernel_rfl
end Go.Proofs.YtlggkknkbbhooaaGreat.Cm
