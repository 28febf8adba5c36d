/-
  The functions that this seat's laws reach, each as a clean function, and that it is the program's.
-/
import Derived.Test.YtncmoaggkdlkhaaCmC
import Derived.Test.YtncmoaggkdlkhaaProg
import Derived.KernelRfl
import Derived.Lib.LaidTab
import Derived.Lib.ItoaNum
import Derived.Test.YtncmoaggkdlkhaaCmZ
namespace Go.Proofs.Ytncmoaggkdlkhaa.Cm
noncomputable abbrev prog := Go.Proofs.Try.prog
def facts (_ : World) : Prop := True
noncomputable abbrev glb : Gl := ⟨0, facts, modOf prog⟩
theorem mixed : prog.follows .mixedOrders = true := by kernel_rfl

/-- signalbox/signalboxlaw16.AllocNothing -/
def p3 : List Plan := []
def c3 : CFunc := ⟨141, [.tmp 6],
 .seq (.region [⟨(some 6), (.move (.c (.bool false))), none⟩])
 (.seq (.seq (.region [⟨(some 18), (.move (.t 0)), none⟩,
     ⟨(some 19), (.len (.slice) (.t 18)), none⟩,
     ⟨(some 20), (.bin (.gtr) (.t 19) (.c (.int (.i64) 100))), none⟩])
   (.cond (.t 20) (.seq (.region [⟨(some 21), (.call (.c (.func 4 [] [])) []), none⟩,
       ⟨(some 6), (.move (.t 21)), none⟩])
     (.ret))
    (.skip)))
  (.seq (.region [⟨(some 7), (.move (.c (.nilPtr))), none⟩])
   (.seq (.region [⟨(some 23), (.move (.t 7)), none⟩,
      ⟨(some 24), (.move (.t 2)), none⟩,
      ⟨(some 25), (.move (.t 0)), none⟩,
      ⟨(some 26), (.call (.c (.func 5 [] [])) [.t 23, .t 24, .t 25]), none⟩,
      ⟨(some 22), (.move (.t 26)), none⟩,
      ⟨(some 27), (.extract (.t 22) 0), none⟩,
      ⟨(some 28), (.extract (.t 22) 1), none⟩,
      ⟨(some 8), (.move (.t 27)), none⟩,
      ⟨(some 9), (.move (.t 28)), none⟩])
    (.seq (.region [⟨(some 30), (.move (.t 7)), none⟩,
       ⟨(some 31), (.move (.t 2)), none⟩,
       ⟨(some 32), (.move (.t 0)), none⟩,
       ⟨(some 33), (.call (.c (.func 6 [] [])) [.t 30, .t 31, .t 32]), none⟩,
       ⟨(some 29), (.move (.t 33)), none⟩,
       ⟨(some 34), (.extract (.t 29) 0), none⟩,
       ⟨(some 35), (.extract (.t 29) 1), none⟩,
       ⟨(some 10), (.move (.t 34)), none⟩,
       ⟨(some 11), (.move (.t 35)), none⟩])
     (.seq (.region [⟨(some 37), (.move (.t 7)), none⟩,
        ⟨(some 38), (.move (.t 2)), none⟩,
        ⟨(some 39), (.call (.c (.func 7 [] [])) [.t 37, .t 38]), none⟩,
        ⟨(some 36), (.move (.t 39)), none⟩,
        ⟨(some 40), (.extract (.t 36) 0), none⟩,
        ⟨(some 41), (.extract (.t 36) 1), none⟩,
        ⟨(some 12), (.move (.t 40)), none⟩,
        ⟨(some 13), (.move (.t 41)), none⟩])
      (.seq (.region [⟨(some 42), (.move (.t 0)), none⟩,
         ⟨(some 43), (.len (.slice) (.t 42)), none⟩,
         ⟨(some 44), (.bin (.leq) (.t 43) (.c (.int (.i64) 6))), none⟩,
         ⟨(some 14), (.move (.t 44)), none⟩])
       (.seq (.seq (.region [⟨(some 15), (.move (.c (.int (.i64) 0))), none⟩])
         (.block 0 (.loop (.seq (.seq (.region [⟨(some 45), (.move (.t 15)), none⟩,
               ⟨(some 46), (.move (.t 0)), none⟩,
               ⟨(some 47), (.len (.slice) (.t 46)), none⟩,
               ⟨(some 48), (.bin (.lss) (.t 45) (.t 47)), none⟩])
             (.cond (.t 48) (.skip)
              (.exit 0)))
            (.seq (.block 1 (.region [⟨(some 51), (.move (.t 14)), none⟩,
                ⟨(some 52), (.move (.t 51)), none⟩,
                ⟨(some 53), (.move (.t 0)), (some (52, true))⟩,
                ⟨(some 54), (.move (.t 15)), (some (52, true))⟩,
                ⟨(some 55), (.indexAddr 1 (.t 53) (.t 54)), (some (52, true))⟩,
                ⟨(some 56), (.load false 1 (.t 55)), (some (52, true))⟩,
                ⟨(some 57), (.bin (.geq) (.t 56) (.c (.int (.i64) 1))), (some (52, true))⟩,
                ⟨(some 58), (.pick (.t 52) (.t 57) (.c (.bool false))), none⟩,
                ⟨(some 59), (.move (.t 58)), none⟩,
                ⟨(some 60), (.move (.t 0)), (some (59, true))⟩,
                ⟨(some 61), (.move (.t 15)), (some (59, true))⟩,
                ⟨(some 62), (.indexAddr 1 (.t 60) (.t 61)), (some (59, true))⟩,
                ⟨(some 63), (.load false 1 (.t 62)), (some (59, true))⟩,
                ⟨(some 64), (.bin (.leq) (.t 63) (.c (.int (.i64) 1000))), (some (59, true))⟩,
                ⟨(some 65), (.pick (.t 59) (.t 64) (.c (.bool false))), none⟩,
                ⟨(some 14), (.move (.t 65)), none⟩]))
             (.region [⟨(some 49), (.move (.t 15)), none⟩,
               ⟨(some 50), (.bin (.add) (.t 49) (.c (.int (.i64) 1))), none⟩,
               ⟨(some 15), (.move (.t 50)), none⟩]))))))
        (.seq (.region [⟨(some 67), (.move (.t 0)), none⟩,
           ⟨(some 68), (.move (.t 1)), none⟩,
           ⟨(some 69), (.call (.c (.func 8 [] [])) [.t 67, .t 68]), none⟩,
           ⟨(some 66), (.move (.t 69)), none⟩,
           ⟨(some 70), (.extract (.t 66) 0), none⟩,
           ⟨(some 71), (.extract (.t 66) 1), none⟩,
           ⟨(some 16), (.move (.t 70)), none⟩,
           ⟨(some 17), (.move (.t 71)), none⟩])
         (.seq (.region [⟨(some 72), (.move (.t 7)), none⟩,
            ⟨(some 73), (.move (.t 2)), none⟩,
            ⟨(some 74), (.move (.t 0)), none⟩,
            ⟨(some 75), (.call (.c (.func 9 [] [])) [.t 72, .t 73, .t 74]), none⟩,
            ⟨(some 76), (.bin (.eql) (.t 75) (.c (.int (.i64) 3))), none⟩,
            ⟨(some 77), (.move (.t 76)), none⟩,
            ⟨(some 78), (.move (.t 9)), (some (77, true))⟩,
            ⟨(some 79), (.bin (.eql) (.t 78) (.c (.int (.i64) 3))), (some (77, true))⟩,
            ⟨(some 80), (.pick (.t 77) (.t 79) (.c (.bool false))), none⟩,
            ⟨(some 81), (.move (.t 80)), none⟩,
            ⟨(some 82), (.move (.t 11)), (some (81, true))⟩,
            ⟨(some 83), (.bin (.eql) (.t 82) (.c (.int (.i64) 3))), (some (81, true))⟩,
            ⟨(some 84), (.pick (.t 81) (.t 83) (.c (.bool false))), none⟩,
            ⟨(some 85), (.move (.t 84)), none⟩,
            ⟨(some 86), (.move (.t 13)), (some (85, true))⟩,
            ⟨(some 87), (.un (.not) (.t 86)), (some (85, true))⟩,
            ⟨(some 88), (.pick (.t 85) (.t 87) (.c (.bool false))), none⟩,
            ⟨(some 89), (.move (.t 88)), none⟩,
            ⟨(some 90), (.move (.t 7)), (some (89, true))⟩,
            ⟨(some 91), (.call (.c (.func 10 [] [])) [.t 90]), (some (89, true))⟩,
            ⟨(some 92), (.len (.slice) (.t 91)), (some (89, true))⟩,
            ⟨(some 93), (.bin (.eql) (.t 92) (.c (.int (.i64) 0))), (some (89, true))⟩,
            ⟨(some 94), (.pick (.t 89) (.t 93) (.c (.bool false))), none⟩,
            ⟨(some 95), (.move (.t 94)), none⟩,
            ⟨(some 96), (.move (.t 7)), (some (95, true))⟩,
            ⟨(some 97), (.call (.c (.func 11 [] [])) [.t 96]), (some (95, true))⟩,
            ⟨(some 98), (.len (.slice) (.t 97)), (some (95, true))⟩,
            ⟨(some 99), (.bin (.eql) (.t 98) (.c (.int (.i64) 0))), (some (95, true))⟩,
            ⟨(some 100), (.pick (.t 95) (.t 99) (.c (.bool false))), none⟩,
            ⟨(some 101), (.move (.t 100)), none⟩,
            ⟨(some 102), (.move (.t 7)), (some (101, true))⟩,
            ⟨(some 103), (.call (.c (.func 12 [] [])) [.t 102]), (some (101, true))⟩,
            ⟨(some 104), (.len (.slice) (.t 103)), (some (101, true))⟩,
            ⟨(some 105), (.bin (.eql) (.t 104) (.c (.int (.i64) 0))), (some (101, true))⟩,
            ⟨(some 106), (.pick (.t 101) (.t 105) (.c (.bool false))), none⟩,
            ⟨(some 107), (.move (.t 106)), none⟩,
            ⟨(some 108), (.move (.t 7)), (some (107, true))⟩,
            ⟨(some 109), (.call (.c (.func 13 [] [])) [.t 108]), (some (107, true))⟩,
            ⟨(some 110), (.un (.not) (.t 109)), (some (107, true))⟩,
            ⟨(some 111), (.pick (.t 107) (.t 110) (.c (.bool false))), none⟩,
            ⟨(some 112), (.move (.t 111)), none⟩,
            ⟨(some 113), (.move (.t 7)), (some (112, true))⟩,
            ⟨(some 114), (.call (.c (.func 14 [] [])) [.t 113]), (some (112, true))⟩,
            ⟨(some 115), (.len (.slice) (.t 114)), (some (112, true))⟩,
            ⟨(some 116), (.bin (.eql) (.t 115) (.c (.int (.i64) 0))), (some (112, true))⟩,
            ⟨(some 117), (.pick (.t 112) (.t 116) (.c (.bool false))), none⟩,
            ⟨(some 118), (.move (.t 117)), none⟩,
            ⟨(some 119), (.move (.t 7)), (some (118, true))⟩,
            ⟨(some 120), (.move (.t 2)), (some (118, true))⟩,
            ⟨(some 121), (.call (.c (.func 15 [] [])) [.t 119, .t 120]), (some (118, true))⟩,
            ⟨(some 122), (.len (.slice) (.t 121)), (some (118, true))⟩,
            ⟨(some 123), (.bin (.eql) (.t 122) (.c (.int (.i64) 0))), (some (118, true))⟩,
            ⟨(some 124), (.pick (.t 118) (.t 123) (.c (.bool false))), none⟩,
            ⟨(some 125), (.move (.t 124)), none⟩,
            ⟨(some 126), (.move (.t 7)), (some (125, true))⟩,
            ⟨(some 127), (.move (.t 2)), (some (125, true))⟩,
            ⟨(some 128), (.call (.c (.func 16 [] [])) [.t 126, .t 127]), (some (125, true))⟩,
            ⟨(some 129), (.len (.slice) (.t 128)), (some (125, true))⟩,
            ⟨(some 130), (.bin (.eql) (.t 129) (.c (.int (.i64) 0))), (some (125, true))⟩,
            ⟨(some 131), (.pick (.t 125) (.t 130) (.c (.bool false))), none⟩,
            ⟨(some 132), (.move (.t 131)), none⟩,
            ⟨(some 133), (.move (.t 17)), (some (132, true))⟩,
            ⟨(some 134), (.bin (.eql) (.t 133) (.c (.int (.i64) 0))), (some (132, true))⟩,
            ⟨(some 135), (.move (.t 14)), (some (132, true))⟩,
            ⟨(some 136), (.eq (.bool) false (.t 134) (.t 135)), (some (132, true))⟩,
            ⟨(some 137), (.pick (.t 132) (.t 136) (.c (.bool false))), none⟩,
            ⟨(some 138), (.move (.t 137)), none⟩,
            ⟨(some 139), (.call (.c (.func 4 [] [])) []), (some (138, true))⟩,
            ⟨(some 140), (.pick (.t 138) (.t 139) (.c (.bool false))), none⟩,
            ⟨(some 6), (.move (.t 140)), none⟩])
          (.ret))))))))))⟩
theorem ok3 : compFunc prog glb 3 p3 = some c3 := by kernel_rfl
/-- signalbox/signalboxlaw16.awake -/
def p4 : List Plan := []
def c4 : CFunc := ⟨158, [.tmp 0],
 .seq (.region [⟨(some 0), (.move (.c (.bool false))), none⟩])
 (.seq (.region [⟨(some 21), (.buildSlice [.int (.i64) 0] 1 [(0, 1, .c (.int (.i64) 2))]), none⟩,
    ⟨(some 22), (.call (.c (.func 8 [] [])) [.t 21, .c (.bool true)]), none⟩,
    ⟨(some 20), (.move (.t 22)), none⟩,
    ⟨(some 23), (.extract (.t 20) 0), none⟩,
    ⟨(some 24), (.extract (.t 20) 1), none⟩,
    ⟨(some 1), (.move (.t 23)), none⟩,
    ⟨(some 2), (.move (.t 24)), none⟩])
  (.seq (.region [⟨(some 26), (.buildSlice [.int (.i64) 0] 1 [(0, 1, .c (.int (.i64) 0))]), none⟩,
     ⟨(some 27), (.call (.c (.func 8 [] [])) [.t 26, .c (.bool true)]), none⟩,
     ⟨(some 25), (.move (.t 27)), none⟩,
     ⟨(some 28), (.extract (.t 25) 0), none⟩,
     ⟨(some 29), (.extract (.t 25) 1), none⟩,
     ⟨(some 3), (.move (.t 28)), none⟩,
     ⟨(some 4), (.move (.t 29)), none⟩])
   (.seq (.seq (.region [⟨(some 30), (.move (.t 2)), none⟩,
       ⟨(some 31), (.bin (.neq) (.t 30) (.c (.int (.i64) 0))), none⟩,
       ⟨(some 32), (.move (.t 31)), none⟩,
       ⟨(some 33), (.move (.t 4)), (some (32, false))⟩,
       ⟨(some 34), (.bin (.neq) (.t 33) (.c (.int (.i64) 1))), (some (32, false))⟩,
       ⟨(some 35), (.pick (.t 32) (.c (.bool true)) (.t 34)), none⟩,
       ⟨(some 36), (.move (.t 35)), none⟩,
       ⟨(some 37), (.move (.t 1)), (some (36, false))⟩,
       ⟨(some 38), (.eq (.ptr) false (.t 37) (.c (.nilPtr))), (some (36, false))⟩,
       ⟨(some 39), (.pick (.t 36) (.c (.bool true)) (.t 38)), none⟩])
     (.cond (.t 39) (.seq (.region [⟨(some 0), (.move (.c (.bool false))), none⟩])
       (.ret))
      (.skip)))
    (.seq (.region [⟨(some 40), (.move (.t 1)), none⟩,
       ⟨(some 41), (.buildSlice [.int (.i64) 0] 1 [(0, 1, .c (.int (.i64) 2))]), none⟩,
       ⟨(some 42), (.call (.c (.func 9 [] [])) [.t 40, .c (.int (.i64) 1), .t 41]), none⟩,
       ⟨(some 43), (.move (.t 1)), none⟩,
       ⟨(some 44), (.buildSlice [.int (.i64) 0] 1 [(0, 1, .c (.int (.i64) 2))]), none⟩,
       ⟨(some 45), (.call (.c (.func 9 [] [])) [.t 43, .c (.int (.i64) 2), .t 44]), none⟩,
       ⟨(some 46), (.move (.t 1)), none⟩,
       ⟨(some 47), (.buildSlice [.int (.i64) 0] 1 [(0, 1, .c (.int (.i64) 3))]), none⟩,
       ⟨(some 48), (.call (.c (.func 9 [] [])) [.t 46, .c (.int (.i64) 3), .t 47]), none⟩,
       ⟨(some 5), (.move (.t 42)), none⟩,
       ⟨(some 6), (.move (.t 45)), none⟩,
       ⟨(some 7), (.move (.t 48)), none⟩])
     (.seq (.region [⟨(some 50), (.move (.t 1)), none⟩,
        ⟨(some 51), (.buildSlice [.int (.i64) 0] 1 [(0, 1, .c (.int (.i64) 1))]), none⟩,
        ⟨(some 52), (.call (.c (.func 5 [] [])) [.t 50, .c (.int (.i64) 1), .t 51]), none⟩,
        ⟨(some 49), (.move (.t 52)), none⟩,
        ⟨(some 53), (.extract (.t 49) 0), none⟩,
        ⟨(some 54), (.extract (.t 49) 1), none⟩,
        ⟨(some 8), (.move (.t 53)), none⟩,
        ⟨(some 9), (.move (.t 54)), none⟩])
      (.seq (.region [⟨(some 56), (.move (.t 1)), none⟩,
         ⟨(some 57), (.buildSlice [.int (.i64) 0] 1 [(0, 1, .c (.int (.i64) 1))]), none⟩,
         ⟨(some 58), (.call (.c (.func 5 [] [])) [.t 56, .c (.int (.i64) 2), .t 57]), none⟩,
         ⟨(some 55), (.move (.t 58)), none⟩,
         ⟨(some 59), (.extract (.t 55) 0), none⟩,
         ⟨(some 60), (.extract (.t 55) 1), none⟩,
         ⟨(some 10), (.move (.t 59)), none⟩,
         ⟨(some 11), (.move (.t 60)), none⟩])
       (.seq (.region [⟨(some 62), (.move (.t 1)), none⟩,
          ⟨(some 63), (.buildSlice [.int (.i64) 0] 1 [(0, 1, .c (.int (.i64) 2))]), none⟩,
          ⟨(some 64), (.call (.c (.func 5 [] [])) [.t 62, .c (.int (.i64) 1), .t 63]), none⟩,
          ⟨(some 61), (.move (.t 64)), none⟩,
          ⟨(some 65), (.extract (.t 61) 0), none⟩,
          ⟨(some 66), (.extract (.t 61) 1), none⟩,
          ⟨(some 12), (.move (.t 65)), none⟩,
          ⟨(some 13), (.move (.t 66)), none⟩])
        (.seq (.region [⟨(some 68), (.move (.t 1)), none⟩,
           ⟨(some 69), (.buildSlice [.int (.i64) 0] 1 [(0, 1, .c (.int (.i64) 2))]), none⟩,
           ⟨(some 70), (.call (.c (.func 6 [] [])) [.t 68, .c (.int (.i64) 1), .t 69]), none⟩,
           ⟨(some 67), (.move (.t 70)), none⟩,
           ⟨(some 71), (.extract (.t 67) 0), none⟩,
           ⟨(some 72), (.extract (.t 67) 1), none⟩,
           ⟨(some 14), (.move (.t 71)), none⟩,
           ⟨(some 15), (.move (.t 72)), none⟩])
         (.seq (.seq (.region [⟨(some 73), (.move (.t 5)), none⟩,
             ⟨(some 74), (.bin (.neq) (.t 73) (.c (.int (.i64) 0))), none⟩,
             ⟨(some 75), (.move (.t 74)), none⟩,
             ⟨(some 76), (.move (.t 6)), (some (75, false))⟩,
             ⟨(some 77), (.bin (.neq) (.t 76) (.c (.int (.i64) 0))), (some (75, false))⟩,
             ⟨(some 78), (.pick (.t 75) (.c (.bool true)) (.t 77)), none⟩,
             ⟨(some 79), (.move (.t 78)), none⟩,
             ⟨(some 80), (.move (.t 7)), (some (79, false))⟩,
             ⟨(some 81), (.bin (.neq) (.t 80) (.c (.int (.i64) 35))), (some (79, false))⟩,
             ⟨(some 82), (.pick (.t 79) (.c (.bool true)) (.t 81)), none⟩,
             ⟨(some 83), (.move (.t 82)), none⟩,
             ⟨(some 84), (.move (.t 9)), (some (83, false))⟩,
             ⟨(some 85), (.bin (.neq) (.t 84) (.c (.int (.i64) 0))), (some (83, false))⟩,
             ⟨(some 86), (.pick (.t 83) (.c (.bool true)) (.t 85)), none⟩,
             ⟨(some 87), (.move (.t 86)), none⟩,
             ⟨(some 88), (.move (.t 11)), (some (87, false))⟩,
             ⟨(some 89), (.bin (.neq) (.t 88) (.c (.int (.i64) 0))), (some (87, false))⟩,
             ⟨(some 90), (.pick (.t 87) (.c (.bool true)) (.t 89)), none⟩,
             ⟨(some 91), (.move (.t 90)), none⟩,
             ⟨(some 92), (.move (.t 13)), (some (91, false))⟩,
             ⟨(some 93), (.bin (.neq) (.t 92) (.c (.int (.i64) 35))), (some (91, false))⟩,
             ⟨(some 94), (.pick (.t 91) (.c (.bool true)) (.t 93)), none⟩,
             ⟨(some 95), (.move (.t 94)), none⟩,
             ⟨(some 96), (.move (.t 15)), (some (95, false))⟩,
             ⟨(some 97), (.bin (.neq) (.t 96) (.c (.int (.i64) 36))), (some (95, false))⟩,
             ⟨(some 98), (.pick (.t 95) (.c (.bool true)) (.t 97)), none⟩,
             ⟨(some 99), (.move (.t 98)), none⟩,
             ⟨(some 100), (.move (.t 8)), (some (99, false))⟩,
             ⟨(some 101), (.buildSlice [.int (.i64) 0] 1 [(0, 1, .c (.int (.i64) 1))]), (some (99, false))⟩,
             ⟨(some 102), (.call (.c (.func 17 [] [])) [.t 100, .t 101]), (some (99, false))⟩,
             ⟨(some 103), (.un (.not) (.t 102)), (some (99, false))⟩,
             ⟨(some 104), (.pick (.t 99) (.c (.bool true)) (.t 103)), none⟩,
             ⟨(some 105), (.move (.t 104)), none⟩,
             ⟨(some 106), (.move (.t 10)), (some (105, false))⟩,
             ⟨(some 107), (.len (.slice) (.t 106)), (some (105, false))⟩,
             ⟨(some 108), (.bin (.neq) (.t 107) (.c (.int (.i64) 0))), (some (105, false))⟩,
             ⟨(some 109), (.pick (.t 105) (.c (.bool true)) (.t 108)), none⟩,
             ⟨(some 110), (.move (.t 109)), none⟩,
             ⟨(some 111), (.move (.t 1)), (some (110, false))⟩,
             ⟨(some 112), (.call (.c (.func 12 [] [])) [.t 111]), (some (110, false))⟩,
             ⟨(some 113), (.len (.slice) (.t 112)), (some (110, false))⟩,
             ⟨(some 114), (.bin (.neq) (.t 113) (.c (.int (.i64) 1))), (some (110, false))⟩,
             ⟨(some 115), (.pick (.t 110) (.c (.bool true)) (.t 114)), none⟩])
           (.cond (.t 115) (.seq (.region [⟨(some 0), (.move (.c (.bool false))), none⟩])
             (.ret))
            (.skip)))
          (.seq (.region [⟨(some 117), (.move (.t 1)), none⟩,
             ⟨(some 118), (.call (.c (.func 7 [] [])) [.t 117, .c (.int (.i64) 1)]), none⟩,
             ⟨(some 116), (.move (.t 118)), none⟩,
             ⟨(some 119), (.extract (.t 116) 0), none⟩,
             ⟨(some 120), (.extract (.t 116) 1), none⟩,
             ⟨(some 16), (.move (.t 119)), none⟩,
             ⟨(some 17), (.move (.t 120)), none⟩])
           (.seq (.region [⟨(some 122), (.move (.t 1)), none⟩,
              ⟨(some 123), (.call (.c (.func 7 [] [])) [.t 122, .c (.int (.i64) 1)]), none⟩,
              ⟨(some 121), (.move (.t 123)), none⟩,
              ⟨(some 124), (.extract (.t 121) 0), none⟩,
              ⟨(some 125), (.extract (.t 121) 1), none⟩,
              ⟨(some 18), (.move (.t 124)), none⟩,
              ⟨(some 19), (.move (.t 125)), none⟩])
            (.seq (.region [⟨(some 126), (.move (.t 17)), none⟩,
               ⟨(some 127), (.move (.t 126)), none⟩,
               ⟨(some 128), (.move (.t 19)), (some (127, true))⟩,
               ⟨(some 129), (.un (.not) (.t 128)), (some (127, true))⟩,
               ⟨(some 130), (.pick (.t 127) (.t 129) (.c (.bool false))), none⟩,
               ⟨(some 131), (.move (.t 130)), none⟩,
               ⟨(some 132), (.move (.t 16)), (some (131, true))⟩,
               ⟨(some 133), (.buildSlice [.int (.i64) 0] 1 [(0, 1, .c (.int (.i64) 2))]), (some (131, true))⟩,
               ⟨(some 134), (.call (.c (.func 17 [] [])) [.t 132, .t 133]), (some (131, true))⟩,
               ⟨(some 135), (.pick (.t 131) (.t 134) (.c (.bool false))), none⟩,
               ⟨(some 136), (.move (.t 135)), none⟩,
               ⟨(some 137), (.move (.t 1)), (some (136, true))⟩,
               ⟨(some 138), (.call (.c (.func 15 [] [])) [.t 137, .c (.int (.i64) 2)]), (some (136, true))⟩,
               ⟨(some 139), (.buildSlice [.int (.i64) 0] 1 [(0, 1, .c (.int (.i64) 1))]), (some (136, true))⟩,
               ⟨(some 140), (.call (.c (.func 17 [] [])) [.t 138, .t 139]), (some (136, true))⟩,
               ⟨(some 141), (.pick (.t 136) (.t 140) (.c (.bool false))), none⟩,
               ⟨(some 142), (.move (.t 141)), none⟩,
               ⟨(some 143), (.move (.t 1)), (some (142, true))⟩,
               ⟨(some 144), (.call (.c (.func 10 [] [])) [.t 143]), (some (142, true))⟩,
               ⟨(some 145), (.buildSlice [.int (.i64) 0] 1 [(0, 1, .c (.int (.i64) 1))]), (some (142, true))⟩,
               ⟨(some 146), (.call (.c (.func 17 [] [])) [.t 144, .t 145]), (some (142, true))⟩,
               ⟨(some 147), (.pick (.t 142) (.t 146) (.c (.bool false))), none⟩,
               ⟨(some 148), (.move (.t 147)), none⟩,
               ⟨(some 149), (.move (.t 1)), (some (148, true))⟩,
               ⟨(some 150), (.call (.c (.func 13 [] [])) [.t 149]), (some (148, true))⟩,
               ⟨(some 151), (.pick (.t 148) (.t 150) (.c (.bool false))), none⟩,
               ⟨(some 152), (.move (.t 151)), none⟩,
               ⟨(some 153), (.move (.t 1)), (some (152, true))⟩,
               ⟨(some 154), (.call (.c (.func 14 [] [])) [.t 153]), (some (152, true))⟩,
               ⟨(some 155), (.len (.slice) (.t 154)), (some (152, true))⟩,
               ⟨(some 156), (.bin (.eql) (.t 155) (.c (.int (.i64) 0))), (some (152, true))⟩,
               ⟨(some 157), (.pick (.t 152) (.t 156) (.c (.bool false))), none⟩,
               ⟨(some 0), (.move (.t 157)), none⟩])
             (.ret)))))))))))))⟩
theorem ok4 : compFunc prog glb 4 p4 = some c4 := by kernel_rfl
/-- (*signalbox/alloc.Alloc).Ask -/
def p5 : List Plan := [⟨[(4, .quiet [0]), (5, .eff), (0, .quiet [0, 2]), (1, .quiet [0, 2]), (2, .quiet [0, 2]), (3, .quiet [0, 2]), (6, .eff), (7, .quiet [7])], 0, [0, 1, 3, 7, 0, 16, 63, 127]⟩, ⟨[(13, .quiet [0]), (9, .quiet [0]), (8, .quiet [0]), (10, .quiet [0]), (11, .quiet [0]), (5, .quiet [0]), (4, .quiet [0]), (6, .quiet [0]), (0, .quiet [0]), (1, .quiet [0]), (2, .quiet [0]), (3, .quiet [0]), (7, .quiet [0]), (12, .quiet [0]), (14, .quiet [0])], 0, [0, 1, 3, 7, 0, 0, 48, 127, 0, 0, 768, 1792, 4095, 0, 16383]⟩, ⟨[(6, .quiet [0]), (7, .eff), (5, .quiet [0, 2]), (8, .quiet [2]), (9, .eff), (1, .quiet [0, 2, 5]), (2, .quiet [0, 2, 5]), (3, .quiet [0, 2, 5]), (4, .quiet [0, 2, 5]), (10, .eff), (0, .quiet [0, 2, 5, 10]), (11, .quiet [10]), (12, .quiet [10]), (13, .eff)], 0, [0, 0, 2, 6, 14, 0, 0, 64, 224, 480, 1022, 2047, 4095, 8191]⟩]
def c5 : CFunc := ⟨75, [.tmp 6, .tmp 7],
 .seq (.region [⟨(some 6), (.move (.c (.nilSlice))), none⟩,
   ⟨(some 7), (.move (.c (.int (.i64) 0))), none⟩])
 (.seq (.block 0 (.seq (.region [⟨(some 11), (.move (.t 0)), none⟩,
      ⟨(some 12), (.move (.t 1)), none⟩,
      ⟨(some 13), (.call (.c (.func 18 [] [])) [.t 11, .t 12]), none⟩,
      ⟨(some 14), (.un (.not) (.t 13)), none⟩,
      ⟨(some 10), (.move (.t 14)), none⟩])
    (.cond (.t 10) (.seq (.region [⟨(some 6), (.move (.c (.nilSlice))), none⟩,
        ⟨(some 7), (.move (.c (.int (.i64) 3))), none⟩])
      (.ret))
     (.seq (.region [⟨(some 16), (.move (.t 0)), none⟩,
        ⟨(some 17), (.move (.t 2)), none⟩,
        ⟨(some 18), (.call (.c (.func 19 [] [])) [.t 16, .t 17]), none⟩,
        ⟨(some 19), (.un (.not) (.t 18)), none⟩,
        ⟨(some 15), (.move (.t 19)), none⟩])
      (.cond (.t 15) (.seq (.region [⟨(some 6), (.move (.c (.nilSlice))), none⟩,
          ⟨(some 7), (.move (.c (.int (.i64) 1))), none⟩])
        (.ret))
       (.seq (.draw [⟨4, ⟨(some 25), (.move (.t 1)), none⟩, (.quiet [0])⟩,
          ⟨5, ⟨(some 26), (.call (.c (.func 21 [] [])) [.t 25]), none⟩, (.eff)⟩,
          ⟨0, ⟨(some 21), (.move (.t 0)), none⟩, (.quiet [0, 2])⟩,
          ⟨1, ⟨(some 22), (.nilCheck (.t 21)), none⟩, (.quiet [0, 2])⟩,
          ⟨2, ⟨(some 23), (.fieldAddr 8 (.t 22)), none⟩, (.quiet [0, 2])⟩,
          ⟨3, ⟨(some 24), (.load false 1 (.t 23)), none⟩, (.quiet [0, 2])⟩,
          ⟨6, ⟨(some 27), (.call (.c (.func 20 [] [])) [.t 24, .t 26]), none⟩, (.eff)⟩,
          ⟨7, ⟨(some 20), (.move (.t 27)), none⟩, (.quiet [7])⟩] 0)
        (.cond (.t 20) (.seq (.region [⟨(some 6), (.move (.c (.nilSlice))), none⟩,
            ⟨(some 7), (.move (.c (.int (.i64) 4))), none⟩])
          (.ret))
         (.skip))))))))
  (.seq (.seq (.region [⟨(some 28), (.move (.t 0)), none⟩,
      ⟨(some 29), (.nilCheck (.t 28)), none⟩,
      ⟨(some 30), (.fieldAddr 1 (.t 29)), none⟩,
      ⟨(some 31), (.load false 1 (.t 30)), none⟩])
    (.cond (.t 31) (.seq (.region [⟨(some 32), (.move (.t 0)), none⟩,
        ⟨(some 33), (.nilCheck (.t 32)), none⟩,
        ⟨(some 34), (.fieldAddr 7 (.t 33)), none⟩,
        ⟨(some 35), (.load false 1 (.t 34)), none⟩,
        ⟨(some 36), (.move (.t 1)), none⟩,
        ⟨(some 37), (.lookup (.one (.int)) (.nilSlice) false (.t 35) (.t 36)), none⟩,
        ⟨(some 38), (.len (.slice) (.t 37)), none⟩,
        ⟨(some 39), (.move (.c (.int (.i64) 0))), none⟩])
      (.block 1 (.loop (.seq (.region [⟨(some 40), (.bin (.lss) (.t 39) (.t 38)), none⟩])
         (.seq (.cond (.t 40) (.skip)
           (.exit 1))
          (.seq (.block 2 (.seq (.region [⟨(some 41), (.move (.t 39)), none⟩,
               ⟨(some 42), (.indexAddr 1 (.t 37) (.t 39)), none⟩,
               ⟨(some 43), (.load false 1 (.t 42)), none⟩,
               ⟨(some 8), (.move (.t 41)), none⟩,
               ⟨(some 9), (.move (.t 43)), none⟩])
             (.seq (.draw [⟨13, ⟨(some 57), (.move (.t 9)), none⟩, (.quiet [0])⟩,
                ⟨9, ⟨(some 53), (.move (.t 8)), none⟩, (.quiet [0])⟩,
                ⟨8, ⟨(some 52), (.move (.t 2)), none⟩, (.quiet [0])⟩,
                ⟨10, ⟨(some 54), (.indexAddr 1 (.t 52) (.t 53)), none⟩, (.quiet [0])⟩,
                ⟨11, ⟨(some 55), (.load false 1 (.t 54)), none⟩, (.quiet [0])⟩,
                ⟨5, ⟨(some 49), (.move (.t 8)), none⟩, (.quiet [0])⟩,
                ⟨4, ⟨(some 48), (.move (.t 1)), none⟩, (.quiet [0])⟩,
                ⟨6, ⟨(some 50), (.build [.int (.i64) 0, .int (.i64) 0] [(0, 1, .t 48), (1, 1, .t 49)]), none⟩, (.quiet [0])⟩,
                ⟨0, ⟨(some 44), (.move (.t 0)), none⟩, (.quiet [0])⟩,
                ⟨1, ⟨(some 45), (.nilCheck (.t 44)), none⟩, (.quiet [0])⟩,
                ⟨2, ⟨(some 46), (.fieldAddr 6 (.t 45)), none⟩, (.quiet [0])⟩,
                ⟨3, ⟨(some 47), (.load false 1 (.t 46)), none⟩, (.quiet [0])⟩,
                ⟨7, ⟨(some 51), (.lookup (.flat [.int, .int]) (.int (.i64) 0) false (.t 47) (.t 50)), none⟩, (.quiet [0])⟩,
                ⟨12, ⟨(some 56), (.bin (.add) (.t 51) (.t 55)), none⟩, (.quiet [0])⟩,
                ⟨14, ⟨(some 58), (.bin (.gtr) (.t 56) (.t 57)), none⟩, (.quiet [0])⟩] 0)
              (.cond (.t 58) (.seq (.region [⟨(some 6), (.move (.c (.nilSlice))), none⟩,
                  ⟨(some 7), (.move (.c (.int (.i64) 35))), none⟩])
                (.ret))
               (.skip)))))
           (.region [⟨(some 59), (.bin (.add) (.t 39) (.c (.int (.i64) 1))), none⟩,
             ⟨(some 39), (.move (.t 59)), none⟩])))))))
     (.skip)))
   (.seq (.draw [⟨6, ⟨(some 66), (.move (.t 2)), none⟩, (.quiet [0])⟩,
      ⟨7, ⟨(some 67), (.call (.c (.func 22 [] [])) [.t 66]), none⟩, (.eff)⟩,
      ⟨5, ⟨(some 65), (.move (.t 1)), none⟩, (.quiet [0, 2])⟩,
      ⟨8, ⟨(some 68), (.build [.int (.i64) 0, .nilSlice] [(0, 1, .t 65), (1, 1, .t 67)]), none⟩, (.quiet [2])⟩,
      ⟨9, ⟨(some 69), (.buildSlice [.int (.i64) 0, .nilSlice] 1 [(0, 2, .t 68)]), none⟩, (.eff)⟩,
      ⟨1, ⟨(some 61), (.move (.t 0)), none⟩, (.quiet [0, 2, 5])⟩,
      ⟨2, ⟨(some 62), (.nilCheck (.t 61)), none⟩, (.quiet [0, 2, 5])⟩,
      ⟨3, ⟨(some 63), (.fieldAddr 8 (.t 62)), none⟩, (.quiet [0, 2, 5])⟩,
      ⟨4, ⟨(some 64), (.load false 1 (.t 63)), none⟩, (.quiet [0, 2, 5])⟩,
      ⟨10, ⟨(some 70), (.append 2 32 (.t 64) (.t 69)), none⟩, (.eff)⟩,
      ⟨0, ⟨(some 60), (.move (.t 0)), none⟩, (.quiet [0, 2, 5, 10])⟩,
      ⟨11, ⟨(some 71), (.nilCheck (.t 60)), none⟩, (.quiet [10])⟩,
      ⟨12, ⟨(some 72), (.fieldAddr 8 (.t 71)), none⟩, (.quiet [10])⟩,
      ⟨13, ⟨none, (.store 1 (.t 72) (.t 70)), none⟩, (.eff)⟩] 0)
    (.seq (.region [⟨(some 73), (.move (.t 0)), none⟩,
       ⟨(some 74), (.call (.c (.func 23 [] [])) [.t 73]), none⟩,
       ⟨(some 6), (.move (.t 74)), none⟩,
       ⟨(some 7), (.move (.c (.int (.i64) 0))), none⟩])
     (.ret)))))⟩
theorem ok5 : compFunc prog glb 5 p5 = some c5 := by kernel_rfl
/-- (*signalbox/alloc.Alloc).Give -/
def p6 : List Plan := []
def c6 : CFunc := ⟨31, [.tmp 6, .tmp 7],
 .seq (.region [⟨(some 6), (.move (.c (.nilSlice))), none⟩,
   ⟨(some 7), (.move (.c (.int (.i64) 0))), none⟩])
 (.seq (.block 0 (.seq (.region [⟨(some 9), (.move (.t 0)), none⟩,
      ⟨(some 10), (.move (.t 1)), none⟩,
      ⟨(some 11), (.call (.c (.func 18 [] [])) [.t 9, .t 10]), none⟩,
      ⟨(some 12), (.un (.not) (.t 11)), none⟩,
      ⟨(some 8), (.move (.t 12)), none⟩])
    (.cond (.t 8) (.seq (.region [⟨(some 6), (.move (.c (.nilSlice))), none⟩,
        ⟨(some 7), (.move (.c (.int (.i64) 3))), none⟩])
      (.ret))
     (.seq (.region [⟨(some 14), (.move (.t 0)), none⟩,
        ⟨(some 15), (.move (.t 2)), none⟩,
        ⟨(some 16), (.call (.c (.func 19 [] [])) [.t 14, .t 15]), none⟩,
        ⟨(some 17), (.un (.not) (.t 16)), none⟩,
        ⟨(some 13), (.move (.t 17)), none⟩])
      (.cond (.t 13) (.seq (.region [⟨(some 6), (.move (.c (.nilSlice))), none⟩,
          ⟨(some 7), (.move (.c (.int (.i64) 1))), none⟩])
        (.ret))
       (.seq (.region [⟨(some 19), (.move (.t 2)), none⟩,
          ⟨(some 20), (.move (.t 0)), none⟩,
          ⟨(some 21), (.move (.t 1)), none⟩,
          ⟨(some 22), (.call (.c (.func 15 [] [])) [.t 20, .t 21]), none⟩,
          ⟨(some 23), (.call (.c (.func 24 [] [])) [.t 19, .t 22]), none⟩,
          ⟨(some 24), (.un (.not) (.t 23)), none⟩,
          ⟨(some 18), (.move (.t 24)), none⟩])
        (.cond (.t 18) (.seq (.region [⟨(some 6), (.move (.c (.nilSlice))), none⟩,
            ⟨(some 7), (.move (.c (.int (.i64) 36))), none⟩])
          (.ret))
         (.skip))))))))
  (.seq (.region [⟨(some 25), (.move (.t 0)), none⟩,
     ⟨(some 26), (.move (.t 1)), none⟩,
     ⟨(some 27), (.move (.t 2)), none⟩,
     ⟨(some 28), (.call (.c (.func 25 [] [])) [.t 25, .t 26, .t 27, .c (.int (.i64) (-1))]), none⟩])
   (.seq (.region [⟨(some 29), (.move (.t 0)), none⟩,
      ⟨(some 30), (.call (.c (.func 23 [] [])) [.t 29]), none⟩,
      ⟨(some 6), (.move (.t 30)), none⟩,
      ⟨(some 7), (.move (.c (.int (.i64) 0))), none⟩])
    (.ret))))⟩
theorem ok6 : compFunc prog glb 6 p6 = some c6 := by kernel_rfl
/-- (*signalbox/alloc.Alloc).Leave -/
def p7 : List Plan := [⟨[(3, .quiet [0]), (2, .quiet [0]), (4, .eff), (1, .quiet [0, 3]), (0, .quiet [0, 3]), (5, .eff)], 0, [0, 0, 0, 0, 12, 31]⟩, ⟨[(5, .quiet [0]), (6, .eff), (1, .quiet [0, 2]), (2, .quiet [0, 2]), (3, .quiet [0, 2]), (4, .quiet [0, 2]), (7, .eff), (0, .quiet [0, 2, 7]), (8, .quiet [7]), (9, .quiet [7]), (10, .eff)], 0, [0, 0, 2, 6, 14, 0, 32, 126, 255, 511, 1023]⟩, ⟨[(4, .quiet [0]), (0, .quiet [0]), (1, .quiet [0]), (2, .quiet [0]), (3, .quiet [0]), (5, .eff)], 0, [0, 1, 3, 7, 0, 31]⟩]
def c7 : CFunc := ⟨39, [.tmp 4, .tmp 5],
 .seq (.region [⟨(some 3), (.box (.t 1)), none⟩,
   ⟨(some 4), (.move (.c (.nilSlice))), none⟩,
   ⟨(some 5), (.move (.c (.bool false))), none⟩])
 (.seq (.seq (.region [⟨(some 6), (.move (.t 0)), none⟩,
     ⟨(some 7), (.load false 1 (.t 3)), none⟩,
     ⟨(some 8), (.call (.c (.func 18 [] [])) [.t 6, .t 7]), none⟩,
     ⟨(some 9), (.un (.not) (.t 8)), none⟩])
   (.cond (.t 9) (.seq (.region [⟨(some 4), (.move (.c (.nilSlice))), none⟩,
       ⟨(some 5), (.move (.c (.bool false))), none⟩])
     (.ret))
    (.skip)))
  (.seq (.draw [⟨3, ⟨(some 13), (.load false 1 (.t 3)), none⟩, (.quiet [0])⟩,
     ⟨2, ⟨(some 12), (.move (.t 0)), none⟩, (.quiet [0])⟩,
     ⟨4, ⟨(some 14), (.call (.c (.func 15 [] [])) [.t 12, .t 13]), none⟩, (.eff)⟩,
     ⟨1, ⟨(some 11), (.load false 1 (.t 3)), none⟩, (.quiet [0, 3])⟩,
     ⟨0, ⟨(some 10), (.move (.t 0)), none⟩, (.quiet [0, 3])⟩,
     ⟨5, ⟨(some 15), (.call (.c (.func 25 [] [])) [.t 10, .t 11, .t 14, .c (.int (.i64) (-1))]), none⟩, (.eff)⟩] 0)
   (.seq (.draw [⟨5, ⟨(some 21), (.load false 1 (.t 3)), none⟩, (.quiet [0])⟩,
      ⟨6, ⟨(some 22), (.call (.c (.func 21 [] [])) [.t 21]), none⟩, (.eff)⟩,
      ⟨1, ⟨(some 17), (.move (.t 0)), none⟩, (.quiet [0, 2])⟩,
      ⟨2, ⟨(some 18), (.nilCheck (.t 17)), none⟩, (.quiet [0, 2])⟩,
      ⟨3, ⟨(some 19), (.fieldAddr 8 (.t 18)), none⟩, (.quiet [0, 2])⟩,
      ⟨4, ⟨(some 20), (.load false 1 (.t 19)), none⟩, (.quiet [0, 2])⟩,
      ⟨7, ⟨(some 23), (.call (.c (.func 26 [] [])) [.t 20, .t 22]), none⟩, (.eff)⟩,
      ⟨0, ⟨(some 16), (.move (.t 0)), none⟩, (.quiet [0, 2, 7])⟩,
      ⟨8, ⟨(some 24), (.nilCheck (.t 16)), none⟩, (.quiet [7])⟩,
      ⟨9, ⟨(some 25), (.fieldAddr 8 (.t 24)), none⟩, (.quiet [7])⟩,
      ⟨10, ⟨none, (.store 1 (.t 25) (.t 23)), none⟩, (.eff)⟩] 0)
    (.seq (.draw [⟨4, ⟨(some 30), (.load false 1 (.t 3)), none⟩, (.quiet [0])⟩,
       ⟨0, ⟨(some 26), (.move (.t 0)), none⟩, (.quiet [0])⟩,
       ⟨1, ⟨(some 27), (.nilCheck (.t 26)), none⟩, (.quiet [0])⟩,
       ⟨2, ⟨(some 28), (.fieldAddr 7 (.t 27)), none⟩, (.quiet [0])⟩,
       ⟨3, ⟨(some 29), (.load false 1 (.t 28)), none⟩, (.quiet [0])⟩,
       ⟨5, ⟨none, (.delete (.one (.int)) (.t 29) (.t 30)), none⟩, (.eff)⟩] 0)
     (.seq (.region [⟨(some 31), (.move (.t 0)), none⟩,
        ⟨(some 32), (.nilCheck (.t 31)), none⟩,
        ⟨(some 33), (.fieldAddr 6 (.t 32)), none⟩,
        ⟨(some 34), (.load false 1 (.t 33)), none⟩,
        ⟨(some 35), (.func 28 [] [.t 3]), none⟩,
        ⟨(some 36), (.call (.c (.func 27 [] [])) [.t 34, .t 35]), none⟩])
      (.seq (.region [⟨(some 37), (.move (.t 0)), none⟩,
         ⟨(some 38), (.call (.c (.func 23 [] [])) [.t 37]), none⟩,
         ⟨(some 4), (.move (.t 38)), none⟩,
         ⟨(some 5), (.move (.c (.bool true))), none⟩])
       (.ret)))))))⟩
theorem ok7 : compFunc prog glb 7 p7 = some c7 := by kernel_rfl
/-- signalbox/alloc.New -/
def p8 : List Plan := []
def c8 : CFunc := ⟨25, [.tmp 4, .tmp 5],
 .seq (.region [⟨(some 4), (.move (.c (.nilPtr))), none⟩,
   ⟨(some 5), (.move (.c (.int (.i64) 0))), none⟩])
 (.seq (.seq (.region [⟨(some 6), (.move (.t 0)), none⟩,
     ⟨(some 7), (.len (.slice) (.t 6)), none⟩,
     ⟨(some 8), (.bin (.gtr) (.t 7) (.c (.int (.i64) 6))), none⟩,
     ⟨(some 9), (.move (.t 8)), none⟩,
     ⟨(some 10), (.move (.t 0)), (some (9, false))⟩,
     ⟨(some 11), (.move (.t 0)), (some (9, false))⟩,
     ⟨(some 12), (.len (.slice) (.t 11)), (some (9, false))⟩,
     ⟨(some 13), (.call (.c (.func 29 [] [])) [.t 10, .t 12]), (some (9, false))⟩,
     ⟨(some 14), (.un (.not) (.t 13)), (some (9, false))⟩,
     ⟨(some 15), (.pick (.t 9) (.c (.bool true)) (.t 14)), none⟩,
     ⟨(some 16), (.move (.t 15)), none⟩,
     ⟨(some 17), (.move (.t 0)), (some (16, false))⟩,
     ⟨(some 18), (.call (.c (.func 30 [] [])) [.t 17, .c (.int (.i64) 0)]), (some (16, false))⟩,
     ⟨(some 19), (.pick (.t 16) (.c (.bool true)) (.t 18)), none⟩])
   (.cond (.t 19) (.seq (.region [⟨(some 4), (.move (.c (.nilPtr))), none⟩,
       ⟨(some 5), (.move (.c (.int (.i64) 1))), none⟩])
     (.ret))
    (.skip)))
  (.seq (.region [⟨(some 20), (.move (.t 0)), none⟩,
     ⟨(some 21), (.call (.c (.func 22 [] [])) [.t 20]), none⟩,
     ⟨(some 22), (.move (.t 1)), none⟩,
     ⟨(some 23), (.build [.nilSlice, .bool false, .int (.u32) 0, .int (.i32) 0, .int (.u32) 0, .nilSlice, .nilMap, .nilMap, .nilSlice] [(0, 1, .t 21), (1, 1, .t 22)]), none⟩,
     ⟨(some 24), (.box (.t 23)), none⟩,
     ⟨(some 4), (.move (.t 24)), none⟩,
     ⟨(some 5), (.move (.c (.int (.i64) 0))), none⟩])
   (.ret)))⟩
theorem ok8 : compFunc prog glb 8 p8 = some c8 := by kernel_rfl
/-- (*signalbox/alloc.Alloc).Admit -/
def p9 : List Plan := [⟨[(5, .eff), (6, .quiet [0, 1]), (7, .eff), (4, .quiet [0, 1, 3]), (0, .quiet [0, 1, 3]), (1, .quiet [0, 1, 3]), (2, .quiet [0, 1, 3]), (3, .quiet [0, 1, 3]), (8, .eff)], 0, [0, 1, 3, 7, 0, 0, 0, 96, 255]⟩]
def c9 : CFunc := ⟨52, [.tmp 6],
 .seq (.region [⟨(some 6), (.move (.c (.int (.i64) 0))), none⟩])
 (.seq (.block 0 (.seq (.region [⟨(some 8), (.move (.t 0)), none⟩,
      ⟨(some 9), (.eq (.ptr) false (.t 8) (.c (.nilPtr))), none⟩,
      ⟨(some 7), (.move (.t 9)), none⟩])
    (.cond (.t 7) (.seq (.region [⟨(some 6), (.move (.c (.int (.i64) 3))), none⟩])
      (.ret))
     (.seq (.region [⟨(some 11), (.move (.t 1)), none⟩,
        ⟨(some 12), (.bin (.lss) (.t 11) (.c (.int (.i64) 1))), none⟩,
        ⟨(some 13), (.move (.t 12)), none⟩,
        ⟨(some 14), (.move (.t 0)), (some (13, false))⟩,
        ⟨(some 15), (.move (.t 2)), (some (13, false))⟩,
        ⟨(some 16), (.call (.c (.func 19 [] [])) [.t 14, .t 15]), (some (13, false))⟩,
        ⟨(some 17), (.un (.not) (.t 16)), (some (13, false))⟩,
        ⟨(some 18), (.pick (.t 13) (.c (.bool true)) (.t 17)), none⟩,
        ⟨(some 10), (.move (.t 18)), none⟩])
      (.cond (.t 10) (.seq (.region [⟨(some 6), (.move (.c (.int (.i64) 1))), none⟩])
        (.ret))
       (.seq (.region [⟨(some 20), (.move (.t 0)), none⟩,
          ⟨(some 21), (.move (.t 1)), none⟩,
          ⟨(some 22), (.call (.c (.func 18 [] [])) [.t 20, .t 21]), none⟩,
          ⟨(some 19), (.move (.t 22)), none⟩])
        (.cond (.t 19) (.seq (.region [⟨(some 6), (.move (.c (.int (.i64) 4))), none⟩])
          (.ret))
         (.seq (.region [⟨(some 24), (.move (.t 0)), none⟩,
            ⟨(some 25), (.nilCheck (.t 24)), none⟩,
            ⟨(some 26), (.fieldAddr 7 (.t 25)), none⟩,
            ⟨(some 27), (.load false 1 (.t 26)), none⟩,
            ⟨(some 28), (.len (.map) (.t 27)), none⟩,
            ⟨(some 29), (.bin (.geq) (.t 28) (.c (.int (.i64) 32))), none⟩,
            ⟨(some 23), (.move (.t 29)), none⟩])
          (.cond (.t 23) (.seq (.region [⟨(some 6), (.move (.c (.int (.i64) 1))), none⟩])
            (.ret))
           (.seq (.region [⟨(some 31), (.move (.t 0)), none⟩,
              ⟨(some 32), (.nilCheck (.t 31)), none⟩,
              ⟨(some 33), (.fieldAddr 1 (.t 32)), none⟩,
              ⟨(some 34), (.load false 1 (.t 33)), none⟩,
              ⟨(some 35), (.move (.t 34)), none⟩,
              ⟨(some 36), (.move (.t 2)), (some (35, true))⟩,
              ⟨(some 37), (.move (.t 0)), (some (35, true))⟩,
              ⟨(some 38), (.nilCheck (.t 37)), (some (35, true))⟩,
              ⟨(some 39), (.fieldAddr 0 (.t 38)), (some (35, true))⟩,
              ⟨(some 40), (.load false 1 (.t 39)), (some (35, true))⟩,
              ⟨(some 41), (.call (.c (.func 24 [] [])) [.t 36, .t 40]), (some (35, true))⟩,
              ⟨(some 42), (.un (.not) (.t 41)), (some (35, true))⟩,
              ⟨(some 43), (.pick (.t 35) (.t 42) (.c (.bool false))), none⟩,
              ⟨(some 30), (.move (.t 43)), none⟩])
            (.cond (.t 30) (.seq (.region [⟨(some 6), (.move (.c (.int (.i64) 35))), none⟩])
              (.ret))
             (.skip))))))))))))
  (.seq (.draw [⟨5, ⟨(some 49), (.buildSlice [.int (.i64) 0] 0 []), none⟩, (.eff)⟩,
     ⟨6, ⟨(some 50), (.move (.t 2)), none⟩, (.quiet [0, 1])⟩,
     ⟨7, ⟨(some 51), (.append 1 8 (.t 49) (.t 50)), none⟩, (.eff)⟩,
     ⟨4, ⟨(some 48), (.move (.t 1)), none⟩, (.quiet [0, 1, 3])⟩,
     ⟨0, ⟨(some 44), (.move (.t 0)), none⟩, (.quiet [0, 1, 3])⟩,
     ⟨1, ⟨(some 45), (.nilCheck (.t 44)), none⟩, (.quiet [0, 1, 3])⟩,
     ⟨2, ⟨(some 46), (.fieldAddr 7 (.t 45)), none⟩, (.quiet [0, 1, 3])⟩,
     ⟨3, ⟨(some 47), (.load false 1 (.t 46)), none⟩, (.quiet [0, 1, 3])⟩,
     ⟨8, ⟨none, (.mapUpdate (.one (.int)) (.t 47) (.t 48) (.t 51)), none⟩, (.eff)⟩] 0)
   (.seq (.region [⟨(some 6), (.move (.c (.int (.i64) 0))), none⟩])
    (.ret))))⟩
theorem ok9 : compFunc prog glb 9 p9 = some c9 := by kernel_rfl
/-- (*signalbox/alloc.Alloc).Avail -/
def p10 : List Plan := []
def c10 : CFunc := ⟨12, [.tmp 2],
 .seq (.region [⟨(some 2), (.move (.c (.nilSlice))), none⟩])
 (.seq (.seq (.region [⟨(some 3), (.move (.t 0)), none⟩,
     ⟨(some 4), (.eq (.ptr) false (.t 3) (.c (.nilPtr))), none⟩])
   (.cond (.t 4) (.seq (.region [⟨(some 2), (.move (.c (.nilSlice))), none⟩])
     (.ret))
    (.skip)))
  (.seq (.region [⟨(some 5), (.move (.t 0)), none⟩,
     ⟨(some 6), (.call (.c (.func 31 [] [])) [.t 5]), none⟩])
   (.seq (.region [⟨(some 7), (.move (.t 0)), none⟩,
      ⟨(some 8), (.nilCheck (.t 7)), none⟩,
      ⟨(some 9), (.fieldAddr 5 (.t 8)), none⟩,
      ⟨(some 10), (.load false 1 (.t 9)), none⟩,
      ⟨(some 11), (.call (.c (.func 22 [] [])) [.t 10]), none⟩,
      ⟨(some 2), (.move (.t 11)), none⟩])
    (.ret))))⟩
theorem ok10 : compFunc prog glb 10 p10 = some c10 := by kernel_rfl
/-- (*signalbox/alloc.Alloc).Pids -/
def p11 : List Plan := []
def c11 : CFunc := ⟨13, [.tmp 2],
 .seq (.region [⟨(some 2), (.move (.c (.nilSlice))), none⟩])
 (.seq (.seq (.region [⟨(some 3), (.move (.t 0)), none⟩,
     ⟨(some 4), (.eq (.ptr) false (.t 3) (.c (.nilPtr))), none⟩])
   (.cond (.t 4) (.seq (.region [⟨(some 2), (.move (.c (.nilSlice))), none⟩])
     (.ret))
    (.skip)))
  (.seq (.region [⟨(some 5), (.move (.t 0)), none⟩,
     ⟨(some 6), (.call (.c (.func 31 [] [])) [.t 5]), none⟩])
   (.seq (.region [⟨(some 7), (.move (.t 0)), none⟩,
      ⟨(some 8), (.nilCheck (.t 7)), none⟩,
      ⟨(some 9), (.fieldAddr 7 (.t 8)), none⟩,
      ⟨(some 10), (.load false 1 (.t 9)), none⟩,
      ⟨(some 11), (.call (.c (.func 33 [] [])) [.t 10]), none⟩,
      ⟨(some 12), (.call (.c (.func 32 [] [])) [.t 11]), none⟩,
      ⟨(some 2), (.move (.t 12)), none⟩])
    (.ret))))⟩
theorem ok11 : compFunc prog glb 11 p11 = some c11 := by kernel_rfl
/-- (*signalbox/alloc.Alloc).Pending -/
def p12 : List Plan := [⟨[(3, .quiet [0]), (4, .quiet [0]), (5, .eff), (1, .quiet [0, 3]), (2, .quiet [0, 3]), (6, .quiet [3]), (7, .eff), (0, .quiet [0, 3, 7]), (8, .eff), (9, .quiet [9])], 0, [0, 0, 2, 0, 8, 24, 62, 126, 255, 511]⟩]
def c12 : CFunc := ⟨27, [.tmp 2],
 .seq (.region [⟨(some 2), (.move (.c (.nilSlice))), none⟩])
 (.seq (.seq (.region [⟨(some 5), (.move (.t 0)), none⟩,
     ⟨(some 6), (.eq (.ptr) false (.t 5) (.c (.nilPtr))), none⟩])
   (.cond (.t 6) (.seq (.region [⟨(some 2), (.move (.c (.nilSlice))), none⟩])
     (.ret))
    (.skip)))
  (.seq (.seq (.region [⟨(some 7), (.move (.t 0)), none⟩,
      ⟨(some 8), (.nilCheck (.t 7)), none⟩,
      ⟨(some 9), (.fieldAddr 8 (.t 8)), none⟩,
      ⟨(some 10), (.load false 1 (.t 9)), none⟩,
      ⟨(some 11), (.len (.slice) (.t 10)), none⟩,
      ⟨(some 12), (.move (.c (.int (.i64) 0))), none⟩])
    (.block 0 (.loop (.seq (.region [⟨(some 13), (.bin (.lss) (.t 12) (.t 11)), none⟩])
       (.seq (.cond (.t 13) (.skip)
         (.exit 0))
        (.seq (.block 1 (.seq (.region [⟨(some 14), (.indexAddr 2 (.t 10) (.t 12)), none⟩,
             ⟨(some 15), (.load true 2 (.t 14)), none⟩,
             ⟨(some 4), (.new [.int (.i64) 0, .nilSlice]), none⟩,
             ⟨none, (.store 2 (.t 4) (.t 15)), none⟩])
           (.draw [⟨3, ⟨(some 19), (.fieldAddr 1 (.t 4)), none⟩, (.quiet [0])⟩,
             ⟨4, ⟨(some 20), (.load false 1 (.t 19)), none⟩, (.quiet [0])⟩,
             ⟨5, ⟨(some 21), (.call (.c (.func 22 [] [])) [.t 20]), none⟩, (.eff)⟩,
             ⟨1, ⟨(some 17), (.fieldAddr 0 (.t 4)), none⟩, (.quiet [0, 3])⟩,
             ⟨2, ⟨(some 18), (.load false 1 (.t 17)), none⟩, (.quiet [0, 3])⟩,
             ⟨6, ⟨(some 22), (.build [.int (.i64) 0, .nilSlice] [(0, 1, .t 18), (1, 1, .t 21)]), none⟩, (.quiet [3])⟩,
             ⟨7, ⟨(some 23), (.buildSlice [.int (.i64) 0, .nilSlice] 1 [(0, 2, .t 22)]), none⟩, (.eff)⟩,
             ⟨0, ⟨(some 16), (.move (.t 2)), none⟩, (.quiet [0, 3, 7])⟩,
             ⟨8, ⟨(some 24), (.append 2 32 (.t 16) (.t 23)), none⟩, (.eff)⟩,
             ⟨9, ⟨(some 2), (.move (.t 24)), none⟩, (.quiet [9])⟩] 0)))
         (.region [⟨(some 25), (.bin (.add) (.t 12) (.c (.int (.i64) 1))), none⟩,
           ⟨(some 12), (.move (.t 25)), none⟩])))))))
   (.seq (.region [⟨(some 26), (.move (.t 2)), none⟩,
      ⟨(some 2), (.move (.t 26)), none⟩])
    (.ret))))⟩
theorem ok12 : compFunc prog glb 12 p12 = some c12 := by kernel_rfl
/-- (*signalbox/alloc.Alloc).Safe -/
def p13 : List Plan := []
def c13 : CFunc := ⟨39, [.tmp 2],
 .seq (.region [⟨(some 2), (.move (.c (.bool false))), none⟩])
 (.seq (.seq (.region [⟨(some 7), (.move (.t 0)), none⟩,
     ⟨(some 8), (.eq (.ptr) false (.t 7) (.c (.nilPtr))), none⟩])
   (.cond (.t 8) (.seq (.region [⟨(some 2), (.move (.c (.bool false))), none⟩])
     (.ret))
    (.skip)))
  (.seq (.region [⟨(some 3), (.move (.c (.nilSlice))), none⟩,
     ⟨(some 4), (.move (.c (.nilSlice))), none⟩])
   (.seq (.seq (.region [⟨(some 9), (.move (.t 0)), none⟩,
       ⟨(some 10), (.call (.c (.func 11 [] [])) [.t 9]), none⟩,
       ⟨(some 11), (.len (.slice) (.t 10)), none⟩,
       ⟨(some 12), (.move (.c (.int (.i64) 0))), none⟩])
     (.block 0 (.loop (.seq (.region [⟨(some 13), (.bin (.lss) (.t 12) (.t 11)), none⟩])
        (.seq (.cond (.t 13) (.skip)
          (.exit 0))
         (.seq (.block 1 (.seq (.region [⟨(some 14), (.indexAddr 1 (.t 10) (.t 12)), none⟩,
              ⟨(some 15), (.load false 1 (.t 14)), none⟩,
              ⟨(some 6), (.move (.t 15)), none⟩])
            (.seq (.region [⟨(some 16), (.move (.t 4)), none⟩,
               ⟨(some 17), (.move (.t 0)), none⟩,
               ⟨(some 18), (.nilCheck (.t 17)), none⟩,
               ⟨(some 19), (.fieldAddr 7 (.t 18)), none⟩,
               ⟨(some 20), (.load false 1 (.t 19)), none⟩,
               ⟨(some 21), (.move (.t 6)), none⟩,
               ⟨(some 22), (.lookup (.one (.int)) (.nilSlice) false (.t 20) (.t 21)), none⟩,
               ⟨(some 23), (.buildSlice [.nilSlice] 1 [(0, 1, .t 22)]), none⟩,
               ⟨(some 24), (.append 1 24 (.t 16) (.t 23)), none⟩,
               ⟨(some 4), (.move (.t 24)), none⟩])
             (.region [⟨(some 25), (.move (.t 3)), none⟩,
               ⟨(some 26), (.move (.t 0)), none⟩,
               ⟨(some 27), (.move (.t 6)), none⟩,
               ⟨(some 28), (.call (.c (.func 15 [] [])) [.t 26, .t 27]), none⟩,
               ⟨(some 29), (.buildSlice [.nilSlice] 1 [(0, 1, .t 28)]), none⟩,
               ⟨(some 30), (.append 1 24 (.t 25) (.t 29)), none⟩,
               ⟨(some 3), (.move (.t 30)), none⟩]))))
          (.region [⟨(some 31), (.bin (.add) (.t 12) (.c (.int (.i64) 1))), none⟩,
            ⟨(some 12), (.move (.t 31)), none⟩])))))))
    (.seq (.region [⟨(some 32), (.move (.t 0)), none⟩,
       ⟨(some 33), (.nilCheck (.t 32)), none⟩,
       ⟨(some 34), (.fieldAddr 5 (.t 33)), none⟩,
       ⟨(some 35), (.load false 1 (.t 34)), none⟩,
       ⟨(some 36), (.move (.t 3)), none⟩,
       ⟨(some 37), (.move (.t 4)), none⟩,
       ⟨(some 38), (.call (.c (.func 34 [] [])) [.t 35, .t 36, .t 37]), none⟩,
       ⟨(some 2), (.move (.t 38)), none⟩])
     (.ret)))))⟩
theorem ok13 : compFunc prog glb 13 p13 = some c13 := by kernel_rfl
/-- (*signalbox/alloc.Alloc).Stuck -/
def p14 : List Plan := [⟨[(2, .quiet [0]), (1, .quiet [0]), (3, .eff), (4, .eff), (0, .quiet [0, 3, 4]), (5, .eff), (7, .quiet [0, 3, 4, 6]), (8, .quiet [0, 3, 4, 6]), (9, .quiet [0, 3, 4, 6]), (10, .quiet [0, 3, 4, 6]), (11, .quiet [0, 3, 4, 6]), (12, .eff), (13, .eff), (6, .quiet [0, 3, 4, 6, 12, 13]), (14, .eff), (15, .quiet [15]), (16, .quiet [15])], 0, [0, 0, 0, 6, 14, 31, 0, 0, 128, 384, 896, 1920, 4031, 8127, 16383, 32767, 65535]⟩, ⟨[(4, .quiet [0]), (5, .eff), (0, .quiet [0, 2]), (1, .quiet [0, 2]), (2, .quiet [0, 2]), (3, .quiet [0, 2]), (6, .eff), (7, .quiet [7])], 0, [0, 1, 3, 7, 0, 16, 63, 127]⟩]
def c14 : CFunc := ⟨80, [.tmp 2],
 .seq (.region [⟨(some 2), (.move (.c (.nilSlice))), none⟩])
 (.seq (.seq (.region [⟨(some 11), (.move (.t 0)), none⟩,
     ⟨(some 12), (.eq (.ptr) false (.t 11) (.c (.nilPtr))), none⟩])
   (.cond (.t 12) (.seq (.region [⟨(some 2), (.move (.c (.nilSlice))), none⟩])
     (.ret))
    (.skip)))
  (.seq (.region [⟨(some 13), (.move (.t 0)), none⟩,
     ⟨(some 14), (.call (.c (.func 11 [] [])) [.t 13]), none⟩,
     ⟨(some 3), (.move (.t 14)), none⟩])
   (.seq (.region [⟨(some 4), (.move (.c (.nilSlice))), none⟩,
      ⟨(some 5), (.move (.c (.nilSlice))), none⟩])
    (.seq (.seq (.region [⟨(some 15), (.move (.t 3)), none⟩,
        ⟨(some 16), (.len (.slice) (.t 15)), none⟩,
        ⟨(some 17), (.move (.c (.int (.i64) 0))), none⟩])
      (.block 0 (.loop (.seq (.region [⟨(some 18), (.bin (.lss) (.t 17) (.t 16)), none⟩])
         (.seq (.cond (.t 18) (.skip)
           (.exit 0))
          (.seq (.block 1 (.seq (.region [⟨(some 19), (.indexAddr 1 (.t 15) (.t 17)), none⟩,
               ⟨(some 20), (.load false 1 (.t 19)), none⟩,
               ⟨(some 7), (.move (.t 20)), none⟩])
             (.seq (.draw [⟨2, ⟨(some 23), (.move (.t 7)), none⟩, (.quiet [0])⟩,
                ⟨1, ⟨(some 22), (.move (.t 0)), none⟩, (.quiet [0])⟩,
                ⟨3, ⟨(some 24), (.call (.c (.func 15 [] [])) [.t 22, .t 23]), none⟩, (.eff)⟩,
                ⟨4, ⟨(some 25), (.buildSlice [.nilSlice] 1 [(0, 1, .t 24)]), none⟩, (.eff)⟩,
                ⟨0, ⟨(some 21), (.move (.t 4)), none⟩, (.quiet [0, 3, 4])⟩,
                ⟨5, ⟨(some 26), (.append 1 24 (.t 21) (.t 25)), none⟩, (.eff)⟩,
                ⟨7, ⟨(some 28), (.move (.t 0)), none⟩, (.quiet [0, 3, 4, 6])⟩,
                ⟨8, ⟨(some 29), (.nilCheck (.t 28)), none⟩, (.quiet [0, 3, 4, 6])⟩,
                ⟨9, ⟨(some 30), (.fieldAddr 0 (.t 29)), none⟩, (.quiet [0, 3, 4, 6])⟩,
                ⟨10, ⟨(some 31), (.load false 1 (.t 30)), none⟩, (.quiet [0, 3, 4, 6])⟩,
                ⟨11, ⟨(some 32), (.len (.slice) (.t 31)), none⟩, (.quiet [0, 3, 4, 6])⟩,
                ⟨12, ⟨(some 33), (.call (.c (.func 35 [] [])) [.t 32]), none⟩, (.eff)⟩,
                ⟨13, ⟨(some 34), (.buildSlice [.nilSlice] 1 [(0, 1, .t 33)]), none⟩, (.eff)⟩,
                ⟨6, ⟨(some 27), (.move (.t 5)), none⟩, (.quiet [0, 3, 4, 6, 12, 13])⟩,
                ⟨14, ⟨(some 35), (.append 1 24 (.t 27) (.t 34)), none⟩, (.eff)⟩,
                ⟨15, ⟨(some 4), (.move (.t 26)), none⟩, (.quiet [15])⟩,
                ⟨16, ⟨(some 5), (.move (.t 35)), none⟩, (.quiet [15])⟩] 0)
              (.seq (.draw [⟨4, ⟨(some 40), (.move (.t 7)), none⟩, (.quiet [0])⟩,
                 ⟨5, ⟨(some 41), (.call (.c (.func 21 [] [])) [.t 40]), none⟩, (.eff)⟩,
                 ⟨0, ⟨(some 36), (.move (.t 0)), none⟩, (.quiet [0, 2])⟩,
                 ⟨1, ⟨(some 37), (.nilCheck (.t 36)), none⟩, (.quiet [0, 2])⟩,
                 ⟨2, ⟨(some 38), (.fieldAddr 8 (.t 37)), none⟩, (.quiet [0, 2])⟩,
                 ⟨3, ⟨(some 39), (.load false 1 (.t 38)), none⟩, (.quiet [0, 2])⟩,
                 ⟨6, ⟨(some 42), (.call (.c (.func 36 [] [])) [.t 39, .t 41]), none⟩, (.eff)⟩,
                 ⟨7, ⟨(some 8), (.move (.t 42)), none⟩, (.quiet [7])⟩] 0)
               (.seq (.region [⟨(some 43), (.move (.t 8)), none⟩,
                  ⟨(some 44), (.bin (.geq) (.t 43) (.c (.int (.i64) 0))), none⟩])
                (.cond (.t 44) (.region [⟨(some 45), (.move (.t 5)), none⟩,
                   ⟨(some 46), (.move (.t 5)), none⟩,
                   ⟨(some 47), (.len (.slice) (.t 46)), none⟩,
                   ⟨(some 48), (.bin (.sub) (.t 47) (.c (.int (.i64) 1))), none⟩,
                   ⟨(some 49), (.move (.t 0)), none⟩,
                   ⟨(some 50), (.nilCheck (.t 49)), none⟩,
                   ⟨(some 51), (.fieldAddr 8 (.t 50)), none⟩,
                   ⟨(some 52), (.load false 1 (.t 51)), none⟩,
                   ⟨(some 53), (.move (.t 8)), none⟩,
                   ⟨(some 54), (.indexAddr 2 (.t 52) (.t 53)), none⟩,
                   ⟨(some 55), (.fieldAddr 1 (.t 54)), none⟩,
                   ⟨(some 56), (.load false 1 (.t 55)), none⟩,
                   ⟨(some 57), (.indexAddr 1 (.t 45) (.t 48)), none⟩,
                   ⟨none, (.store 1 (.t 57) (.t 56)), none⟩])
                 (.skip)))))))
           (.region [⟨(some 58), (.bin (.add) (.t 17) (.c (.int (.i64) 1))), none⟩,
             ⟨(some 17), (.move (.t 58)), none⟩])))))))
     (.seq (.seq (.region [⟨(some 59), (.move (.t 0)), none⟩,
         ⟨(some 60), (.nilCheck (.t 59)), none⟩,
         ⟨(some 61), (.fieldAddr 5 (.t 60)), none⟩,
         ⟨(some 62), (.load false 1 (.t 61)), none⟩,
         ⟨(some 63), (.move (.t 4)), none⟩,
         ⟨(some 64), (.move (.t 5)), none⟩,
         ⟨(some 65), (.call (.c (.func 37 [] [])) [.t 62, .t 63, .t 64]), none⟩,
         ⟨(some 66), (.len (.slice) (.t 65)), none⟩,
         ⟨(some 67), (.move (.c (.int (.i64) 0))), none⟩])
       (.block 2 (.loop (.seq (.region [⟨(some 68), (.bin (.lss) (.t 67) (.t 66)), none⟩])
          (.seq (.cond (.t 68) (.skip)
            (.exit 2))
           (.seq (.block 3 (.seq (.region [⟨(some 69), (.indexAddr 1 (.t 65) (.t 67)), none⟩,
                ⟨(some 70), (.load false 1 (.t 69)), none⟩,
                ⟨(some 10), (.move (.t 70)), none⟩])
              (.region [⟨(some 71), (.move (.t 2)), none⟩,
                ⟨(some 72), (.move (.t 3)), none⟩,
                ⟨(some 73), (.move (.t 10)), none⟩,
                ⟨(some 74), (.indexAddr 1 (.t 72) (.t 73)), none⟩,
                ⟨(some 75), (.load false 1 (.t 74)), none⟩,
                ⟨(some 76), (.buildSlice [.int (.i64) 0] 1 [(0, 1, .t 75)]), none⟩,
                ⟨(some 77), (.append 1 8 (.t 71) (.t 76)), none⟩,
                ⟨(some 2), (.move (.t 77)), none⟩])))
            (.region [⟨(some 78), (.bin (.add) (.t 67) (.c (.int (.i64) 1))), none⟩,
              ⟨(some 67), (.move (.t 78)), none⟩])))))))
      (.seq (.region [⟨(some 79), (.move (.t 2)), none⟩,
         ⟨(some 2), (.move (.t 79)), none⟩])
       (.ret)))))))⟩
theorem ok14 : compFunc prog glb 14 p14 = some c14 := by kernel_rfl
/-- (*signalbox/alloc.Alloc).Held -/
def p15 : List Plan := []
def c15 : CFunc := ⟨31, [.tmp 4],
 .seq (.region [⟨(some 4), (.move (.c (.nilSlice))), none⟩])
 (.seq (.seq (.region [⟨(some 6), (.move (.t 0)), none⟩,
     ⟨(some 7), (.move (.t 1)), none⟩,
     ⟨(some 8), (.call (.c (.func 18 [] [])) [.t 6, .t 7]), none⟩,
     ⟨(some 9), (.un (.not) (.t 8)), none⟩])
   (.cond (.t 9) (.seq (.region [⟨(some 4), (.move (.c (.nilSlice))), none⟩])
     (.ret))
    (.skip)))
  (.seq (.seq (.region [⟨(some 10), (.move (.t 0)), none⟩,
      ⟨(some 11), (.nilCheck (.t 10)), none⟩,
      ⟨(some 12), (.fieldAddr 0 (.t 11)), none⟩,
      ⟨(some 13), (.load false 1 (.t 12)), none⟩,
      ⟨(some 14), (.len (.slice) (.t 13)), none⟩,
      ⟨(some 15), (.move (.c (.int (.i64) 0))), none⟩])
    (.block 0 (.loop (.seq (.region [⟨(some 16), (.bin (.lss) (.t 15) (.t 14)), none⟩])
       (.seq (.cond (.t 16) (.skip)
         (.exit 0))
        (.seq (.block 1 (.seq (.region [⟨(some 17), (.move (.t 15)), none⟩,
             ⟨(some 5), (.move (.t 17)), none⟩])
           (.region [⟨(some 18), (.move (.t 4)), none⟩,
             ⟨(some 19), (.move (.t 0)), none⟩,
             ⟨(some 20), (.nilCheck (.t 19)), none⟩,
             ⟨(some 21), (.fieldAddr 6 (.t 20)), none⟩,
             ⟨(some 22), (.load false 1 (.t 21)), none⟩,
             ⟨(some 23), (.move (.t 1)), none⟩,
             ⟨(some 24), (.move (.t 5)), none⟩,
             ⟨(some 25), (.build [.int (.i64) 0, .int (.i64) 0] [(0, 1, .t 23), (1, 1, .t 24)]), none⟩,
             ⟨(some 26), (.lookup (.flat [.int, .int]) (.int (.i64) 0) false (.t 22) (.t 25)), none⟩,
             ⟨(some 27), (.buildSlice [.int (.i64) 0] 1 [(0, 1, .t 26)]), none⟩,
             ⟨(some 28), (.append 1 8 (.t 18) (.t 27)), none⟩,
             ⟨(some 4), (.move (.t 28)), none⟩])))
         (.region [⟨(some 29), (.bin (.add) (.t 15) (.c (.int (.i64) 1))), none⟩,
           ⟨(some 15), (.move (.t 29)), none⟩])))))))
   (.seq (.region [⟨(some 30), (.move (.t 4)), none⟩,
      ⟨(some 4), (.move (.t 30)), none⟩])
    (.ret))))⟩
theorem ok15 : compFunc prog glb 15 p15 = some c15 := by kernel_rfl
/-- (*signalbox/alloc.Alloc).Claim -/
def p16 : List Plan := []
def c16 : CFunc := ⟨16, [.tmp 4],
 .seq (.region [⟨(some 4), (.move (.c (.nilSlice))), none⟩])
 (.seq (.seq (.region [⟨(some 5), (.move (.t 0)), none⟩,
     ⟨(some 6), (.move (.t 1)), none⟩,
     ⟨(some 7), (.call (.c (.func 18 [] [])) [.t 5, .t 6]), none⟩,
     ⟨(some 8), (.un (.not) (.t 7)), none⟩])
   (.cond (.t 8) (.seq (.region [⟨(some 4), (.move (.c (.nilSlice))), none⟩])
     (.ret))
    (.skip)))
  (.seq (.region [⟨(some 9), (.move (.t 0)), none⟩,
     ⟨(some 10), (.nilCheck (.t 9)), none⟩,
     ⟨(some 11), (.fieldAddr 7 (.t 10)), none⟩,
     ⟨(some 12), (.load false 1 (.t 11)), none⟩,
     ⟨(some 13), (.move (.t 1)), none⟩,
     ⟨(some 14), (.lookup (.one (.int)) (.nilSlice) false (.t 12) (.t 13)), none⟩,
     ⟨(some 15), (.call (.c (.func 22 [] [])) [.t 14]), none⟩,
     ⟨(some 4), (.move (.t 15)), none⟩])
   (.ret)))⟩
theorem ok16 : compFunc prog glb 16 p16 = some c16 := by kernel_rfl
/-- signalbox/signalboxref1.Ints -/
def p17 : List Plan := [⟨[(5, .quiet [0]), (4, .quiet [0]), (6, .quiet [0]), (7, .quiet [0]), (1, .quiet [0]), (0, .quiet [0]), (2, .quiet [0]), (3, .quiet [0]), (8, .quiet [0])], 0, [0, 0, 3, 7, 0, 0, 48, 112, 255]⟩]
def c17 : CFunc := ⟨26, [.tmp 4],
 .seq (.region [⟨(some 4), (.move (.c (.bool false))), none⟩])
 (.seq (.seq (.region [⟨(some 6), (.move (.t 0)), none⟩,
     ⟨(some 7), (.len (.slice) (.t 6)), none⟩,
     ⟨(some 8), (.move (.t 1)), none⟩,
     ⟨(some 9), (.len (.slice) (.t 8)), none⟩,
     ⟨(some 10), (.bin (.neq) (.t 7) (.t 9)), none⟩])
   (.cond (.t 10) (.seq (.region [⟨(some 4), (.move (.c (.bool false))), none⟩])
     (.ret))
    (.skip)))
  (.seq (.seq (.region [⟨(some 5), (.move (.c (.int (.i64) 0))), none⟩])
    (.block 0 (.loop (.seq (.seq (.region [⟨(some 11), (.move (.t 5)), none⟩,
          ⟨(some 12), (.move (.t 0)), none⟩,
          ⟨(some 13), (.len (.slice) (.t 12)), none⟩,
          ⟨(some 14), (.bin (.lss) (.t 11) (.t 13)), none⟩])
        (.cond (.t 14) (.skip)
         (.exit 0)))
       (.seq (.block 1 (.seq (.draw [⟨5, ⟨(some 22), (.move (.t 5)), none⟩, (.quiet [0])⟩,
            ⟨4, ⟨(some 21), (.move (.t 1)), none⟩, (.quiet [0])⟩,
            ⟨6, ⟨(some 23), (.indexAddr 1 (.t 21) (.t 22)), none⟩, (.quiet [0])⟩,
            ⟨7, ⟨(some 24), (.load false 1 (.t 23)), none⟩, (.quiet [0])⟩,
            ⟨1, ⟨(some 18), (.move (.t 5)), none⟩, (.quiet [0])⟩,
            ⟨0, ⟨(some 17), (.move (.t 0)), none⟩, (.quiet [0])⟩,
            ⟨2, ⟨(some 19), (.indexAddr 1 (.t 17) (.t 18)), none⟩, (.quiet [0])⟩,
            ⟨3, ⟨(some 20), (.load false 1 (.t 19)), none⟩, (.quiet [0])⟩,
            ⟨8, ⟨(some 25), (.bin (.neq) (.t 20) (.t 24)), none⟩, (.quiet [0])⟩] 0)
          (.cond (.t 25) (.seq (.region [⟨(some 4), (.move (.c (.bool false))), none⟩])
            (.ret))
           (.skip))))
        (.region [⟨(some 15), (.move (.t 5)), none⟩,
          ⟨(some 16), (.bin (.add) (.t 15) (.c (.int (.i64) 1))), none⟩,
          ⟨(some 5), (.move (.t 16)), none⟩]))))))
   (.seq (.region [⟨(some 4), (.move (.c (.bool true))), none⟩])
    (.ret))))⟩
theorem ok17 : compFunc prog glb 17 p17 = some c17 := by kernel_rfl
/-- (*signalbox/alloc.Alloc).in -/
def p18 : List Plan := []
def c18 : CFunc := ⟨21, [.tmp 4],
 .seq (.region [⟨(some 4), (.move (.c (.bool false))), none⟩])
 (.seq (.seq (.region [⟨(some 7), (.move (.t 0)), none⟩,
     ⟨(some 8), (.eq (.ptr) false (.t 7) (.c (.nilPtr))), none⟩])
   (.cond (.t 8) (.seq (.region [⟨(some 4), (.move (.c (.bool false))), none⟩])
     (.ret))
    (.skip)))
  (.seq (.region [⟨(some 9), (.move (.t 0)), none⟩,
     ⟨(some 10), (.call (.c (.func 31 [] [])) [.t 9]), none⟩])
   (.seq (.region [⟨(some 12), (.move (.t 0)), none⟩,
      ⟨(some 13), (.nilCheck (.t 12)), none⟩,
      ⟨(some 14), (.fieldAddr 7 (.t 13)), none⟩,
      ⟨(some 15), (.load false 1 (.t 14)), none⟩,
      ⟨(some 16), (.move (.t 1)), none⟩,
      ⟨(some 17), (.lookup (.one (.int)) (.nilSlice) true (.t 15) (.t 16)), none⟩,
      ⟨(some 11), (.move (.t 17)), none⟩,
      ⟨(some 18), (.extract (.t 11) 0), none⟩,
      ⟨(some 19), (.extract (.t 11) 1), none⟩,
      ⟨(some 5), (.move (.t 18)), none⟩,
      ⟨(some 6), (.move (.t 19)), none⟩])
    (.seq (.region [⟨(some 20), (.move (.t 6)), none⟩,
       ⟨(some 4), (.move (.t 20)), none⟩])
     (.ret)))))⟩
theorem ok18 : compFunc prog glb 18 p18 = some c18 := by kernel_rfl
/-- (*signalbox/alloc.Alloc).are -/
def p19 : List Plan := []
def c19 : CFunc := ⟨12, [.tmp 4],
 .seq (.region [⟨(some 4), (.move (.c (.bool false))), none⟩])
 (.seq (.region [⟨(some 5), (.move (.t 1)), none⟩,
    ⟨(some 6), (.move (.t 0)), none⟩,
    ⟨(some 7), (.nilCheck (.t 6)), none⟩,
    ⟨(some 8), (.fieldAddr 0 (.t 7)), none⟩,
    ⟨(some 9), (.load false 1 (.t 8)), none⟩,
    ⟨(some 10), (.len (.slice) (.t 9)), none⟩,
    ⟨(some 11), (.call (.c (.func 29 [] [])) [.t 5, .t 10]), none⟩,
    ⟨(some 4), (.move (.t 11)), none⟩])
  (.ret))⟩
theorem ok19 : compFunc prog glb 19 p19 = some c19 := by kernel_rfl
/-- slices.ContainsFunc[[]signalbox/alloc.Ask,signalbox/alloc.Ask] -/
def p20 : List Plan := []
def c20 : CFunc := ⟨9, [.tmp 4],
 .seq (.region [⟨(some 4), (.move (.c (.bool false))), none⟩])
 (.seq (.region [⟨(some 5), (.move (.t 0)), none⟩,
    ⟨(some 6), (.move (.t 1)), none⟩,
    ⟨(some 7), (.call (.c (.func 36 [] [])) [.t 5, .t 6]), none⟩,
    ⟨(some 8), (.bin (.geq) (.t 7) (.c (.int (.i64) 0))), none⟩,
    ⟨(some 4), (.move (.t 8)), none⟩])
  (.ret))⟩
theorem ok20 : compFunc prog glb 20 p20 = some c20 := by kernel_rfl
/-- signalbox/alloc.of -/
def p21 : List Plan := []
def c21 : CFunc := ⟨4, [.tmp 2],
 .seq (.region [⟨(some 1), (.box (.t 0)), none⟩,
   ⟨(some 2), (.move (.c (.nilFunc))), none⟩])
 (.seq (.region [⟨(some 3), (.func 38 [] [.t 1]), none⟩,
    ⟨(some 2), (.move (.t 3)), none⟩])
  (.ret))⟩
theorem ok21 : compFunc prog glb 21 p21 = some c21 := by kernel_rfl
/-- slices.Clone[[]int,int] -/
def p22 : List Plan := []
def c22 : CFunc := ⟨8, [.tmp 2],
 .seq (.region [⟨(some 2), (.move (.c (.nilSlice))), none⟩])
 (.seq (.seq (.region [⟨(some 3), (.move (.t 0)), none⟩,
     ⟨(some 4), (.eq (.slice) false (.t 3) (.c (.nilSlice))), none⟩])
   (.cond (.t 4) (.seq (.region [⟨(some 2), (.move (.c (.nilSlice))), none⟩])
     (.ret))
    (.skip)))
  (.seq (.region [⟨(some 5), (.buildSlice [.int (.i64) 0] 0 []), none⟩,
     ⟨(some 6), (.move (.t 0)), none⟩,
     ⟨(some 7), (.append 1 8 (.t 5) (.t 6)), none⟩,
     ⟨(some 2), (.move (.t 7)), none⟩])
   (.ret)))⟩
theorem ok22 : compFunc prog glb 22 p22 = some c22 := by kernel_rfl
/-- (*signalbox/alloc.Alloc).scan -/
def p23 : List Plan := []
def c23 : CFunc := ⟨43, [.tmp 2],
 .seq (.region [⟨(some 2), (.move (.c (.nilSlice))), none⟩])
 (.seq (.region [⟨(some 3), (.move (.c (.nilSlice))), none⟩])
  (.seq (.seq (.region [⟨(some 6), (.move (.t 0)), none⟩,
      ⟨(some 7), (.nilCheck (.t 6)), none⟩,
      ⟨(some 8), (.fieldAddr 8 (.t 7)), none⟩,
      ⟨(some 9), (.load false 1 (.t 8)), none⟩,
      ⟨(some 10), (.len (.slice) (.t 9)), none⟩,
      ⟨(some 11), (.move (.c (.int (.i64) 0))), none⟩])
    (.block 0 (.loop (.seq (.region [⟨(some 12), (.bin (.lss) (.t 11) (.t 10)), none⟩])
       (.seq (.cond (.t 12) (.skip)
         (.exit 0))
        (.seq (.block 1 (.seq (.region [⟨(some 13), (.indexAddr 2 (.t 9) (.t 11)), none⟩,
             ⟨(some 14), (.load true 2 (.t 13)), none⟩,
             ⟨(some 5), (.new [.int (.i64) 0, .nilSlice]), none⟩,
             ⟨none, (.store 2 (.t 5) (.t 14)), none⟩])
           (.seq (.seq (.region [⟨(some 15), (.move (.t 0)), none⟩,
               ⟨(some 16), (.load true 2 (.t 5)), none⟩,
               ⟨(some 17), (.move (.t 3)), none⟩,
               ⟨(some 18), (.len (.slice) (.t 17)), none⟩,
               ⟨(some 19), (.bin (.gtr) (.t 18) (.c (.int (.i64) 0))), none⟩,
               ⟨(some 20), (.call (.c (.func 39 [] [])) [.t 15, .t 16, .t 19]), none⟩,
               ⟨(some 21), (.un (.not) (.t 20)), none⟩])
             (.cond (.t 21) (.seq (.region [⟨(some 22), (.move (.t 3)), none⟩,
                 ⟨(some 23), (.load true 2 (.t 5)), none⟩,
                 ⟨(some 24), (.buildSlice [.int (.i64) 0, .nilSlice] 1 [(0, 2, .t 23)]), none⟩,
                 ⟨(some 25), (.append 2 32 (.t 22) (.t 24)), none⟩,
                 ⟨(some 3), (.move (.t 25)), none⟩])
               (.exit 1))
              (.skip)))
            (.seq (.region [⟨(some 26), (.move (.t 0)), none⟩,
               ⟨(some 27), (.fieldAddr 0 (.t 5)), none⟩,
               ⟨(some 28), (.load false 1 (.t 27)), none⟩,
               ⟨(some 29), (.fieldAddr 1 (.t 5)), none⟩,
               ⟨(some 30), (.load false 1 (.t 29)), none⟩,
               ⟨(some 31), (.call (.c (.func 25 [] [])) [.t 26, .t 28, .t 30, .c (.int (.i64) 1)]), none⟩])
             (.region [⟨(some 32), (.move (.t 2)), none⟩,
               ⟨(some 33), (.fieldAddr 0 (.t 5)), none⟩,
               ⟨(some 34), (.load false 1 (.t 33)), none⟩,
               ⟨(some 35), (.buildSlice [.int (.i64) 0] 1 [(0, 1, .t 34)]), none⟩,
               ⟨(some 36), (.append 1 8 (.t 32) (.t 35)), none⟩,
               ⟨(some 2), (.move (.t 36)), none⟩])))))
         (.region [⟨(some 37), (.bin (.add) (.t 11) (.c (.int (.i64) 1))), none⟩,
           ⟨(some 11), (.move (.t 37)), none⟩])))))))
   (.seq (.region [⟨(some 38), (.move (.t 0)), none⟩,
      ⟨(some 39), (.move (.t 3)), none⟩,
      ⟨(some 40), (.nilCheck (.t 38)), none⟩,
      ⟨(some 41), (.fieldAddr 8 (.t 40)), none⟩,
      ⟨none, (.store 1 (.t 41) (.t 39)), none⟩])
    (.seq (.region [⟨(some 42), (.move (.t 2)), none⟩,
       ⟨(some 2), (.move (.t 42)), none⟩])
     (.ret)))))⟩
theorem ok23 : compFunc prog glb 23 p23 = some c23 := by kernel_rfl
/-- signalbox/units.Fits -/
def p24 : List Plan := []
def c24 : CFunc := ⟨20, [.cell 4 false 1],
 .seq (.region [⟨(some 4), (.new [.bool false]), none⟩])
 (.seq (.seq (.region [⟨(some 7), (.move (.t 0)), none⟩,
     ⟨(some 8), (.move (.t 1)), none⟩,
     ⟨(some 9), (.call (.c (.func 40 [] [])) [.t 7, .t 8]), none⟩])
   (.block 0 (.rangeF 24 0 2 (.t 9))))
  (.seq (.region [⟨(some 15), (.move (.t 0)), none⟩,
     ⟨(some 16), (.len (.slice) (.t 15)), none⟩,
     ⟨(some 17), (.move (.t 1)), none⟩,
     ⟨(some 18), (.len (.slice) (.t 17)), none⟩,
     ⟨(some 19), (.bin (.eql) (.t 16) (.t 18)), none⟩,
     ⟨none, (.store 1 (.t 4) (.t 19)), none⟩])
   (.ret)))⟩
theorem ok24 : compFunc prog glb 24 p24 = some c24 := by kernel_rfl
def pr24_0 : List Plan := []
def r24_0 : RoundC := ⟨[10, 11],
 (.seq (.region [⟨(some 5), (.move (.t 10)), none⟩])
 (.region [⟨(some 6), (.move (.t 11)), none⟩])),
 (.block 1 (.seq (.region [⟨(some 12), (.move (.t 5)), none⟩,
    ⟨(some 13), (.move (.t 6)), none⟩,
    ⟨(some 14), (.bin (.gtr) (.t 12) (.t 13)), none⟩])
  (.cond (.t 14) (.seq (.region [⟨none, (.store 1 (.t 4) (.c (.bool false))), none⟩])
    (.ret))
   (.skip))))⟩
theorem okr24_0 : compRound prog glb 24 0 pr24_0 = some r24_0 := by kernel_rfl
/-- (*signalbox/alloc.Alloc).move -/
def p25 : List Plan := [⟨[(9, .quiet [0]), (8, .quiet [0]), (10, .quiet [0]), (5, .quiet [0]), (4, .quiet [0]), (6, .quiet [0]), (0, .quiet [0]), (1, .quiet [0]), (2, .quiet [0]), (3, .quiet [0]), (12, .eff), (13, .quiet [11]), (7, .quiet [0, 11]), (11, .quiet [0, 11]), (14, .eff)], 0, [0, 1, 3, 7, 0, 0, 48, 127, 0, 0, 768, 2047, 1919, 6015, 16383]⟩]
def c25 : CFunc := ⟨44, [],
 .seq (.region [⟨(some 10), (.move (.t 2)), none⟩,
   ⟨(some 11), (.len (.slice) (.t 10)), none⟩,
   ⟨(some 12), (.move (.c (.int (.i64) 0))), none⟩])
 (.block 0 (.loop (.seq (.region [⟨(some 13), (.bin (.lss) (.t 12) (.t 11)), none⟩])
    (.seq (.cond (.t 13) (.skip)
      (.exit 0))
     (.seq (.block 1 (.seq (.region [⟨(some 14), (.move (.t 12)), none⟩,
          ⟨(some 15), (.indexAddr 1 (.t 10) (.t 12)), none⟩,
          ⟨(some 16), (.load false 1 (.t 15)), none⟩,
          ⟨(some 8), (.move (.t 14)), none⟩,
          ⟨(some 9), (.move (.t 16)), none⟩])
        (.seq (.region [⟨(some 17), (.move (.t 0)), none⟩,
           ⟨(some 18), (.nilCheck (.t 17)), none⟩,
           ⟨(some 19), (.fieldAddr 5 (.t 18)), none⟩,
           ⟨(some 20), (.load false 1 (.t 19)), none⟩,
           ⟨(some 21), (.move (.t 8)), none⟩,
           ⟨(some 22), (.indexAddr 1 (.t 20) (.t 21)), none⟩,
           ⟨(some 23), (.load false 1 (.t 22)), none⟩,
           ⟨(some 24), (.move (.t 3)), none⟩,
           ⟨(some 25), (.move (.t 9)), none⟩,
           ⟨(some 26), (.bin (.mul) (.t 24) (.t 25)), none⟩,
           ⟨(some 27), (.bin (.sub) (.t 23) (.t 26)), none⟩,
           ⟨(some 28), (.indexAddr 1 (.t 20) (.t 21)), none⟩,
           ⟨none, (.store 1 (.t 28) (.t 27)), none⟩])
         (.draw [⟨9, ⟨(some 38), (.move (.t 9)), none⟩, (.quiet [0])⟩,
           ⟨8, ⟨(some 37), (.move (.t 3)), none⟩, (.quiet [0])⟩,
           ⟨10, ⟨(some 39), (.bin (.mul) (.t 37) (.t 38)), none⟩, (.quiet [0])⟩,
           ⟨5, ⟨(some 34), (.move (.t 8)), none⟩, (.quiet [0])⟩,
           ⟨4, ⟨(some 33), (.move (.t 1)), none⟩, (.quiet [0])⟩,
           ⟨6, ⟨(some 35), (.build [.int (.i64) 0, .int (.i64) 0] [(0, 1, .t 33), (1, 1, .t 34)]), none⟩, (.quiet [0])⟩,
           ⟨0, ⟨(some 29), (.move (.t 0)), none⟩, (.quiet [0])⟩,
           ⟨1, ⟨(some 30), (.nilCheck (.t 29)), none⟩, (.quiet [0])⟩,
           ⟨2, ⟨(some 31), (.fieldAddr 6 (.t 30)), none⟩, (.quiet [0])⟩,
           ⟨3, ⟨(some 32), (.load false 1 (.t 31)), none⟩, (.quiet [0])⟩,
           ⟨12, ⟨(some 41), (.mapEntry (.flat [.int, .int]) (.int (.i64) 0) (.t 32) (.t 35)), none⟩, (.eff)⟩,
           ⟨13, ⟨(some 42), (.extract (.t 41) 1), none⟩, (.quiet [11])⟩,
           ⟨7, ⟨(some 36), (.lookup (.flat [.int, .int]) (.int (.i64) 0) false (.t 32) (.t 35)), none⟩, (.quiet [0, 11])⟩,
           ⟨11, ⟨(some 40), (.bin (.add) (.t 36) (.t 39)), none⟩, (.quiet [0, 11])⟩,
           ⟨14, ⟨none, (.entryStore (.t 32) (.t 42) (.t 40)), none⟩, (.eff)⟩] 0))))
      (.region [⟨(some 43), (.bin (.add) (.t 12) (.c (.int (.i64) 1))), none⟩,
        ⟨(some 12), (.move (.t 43)), none⟩]))))))⟩
theorem ok25 : compFunc prog glb 25 p25 = some c25 := by kernel_rfl
/-- slices.DeleteFunc[[]signalbox/alloc.Ask,signalbox/alloc.Ask] -/
def p26 : List Plan := []
def c26 : CFunc := ⟨42, [.tmp 4],
 .seq (.region [⟨(some 4), (.move (.c (.nilSlice))), none⟩])
 (.seq (.region [⟨(some 8), (.move (.t 0)), none⟩,
    ⟨(some 9), (.move (.t 1)), none⟩,
    ⟨(some 10), (.call (.c (.func 36 [] [])) [.t 8, .t 9]), none⟩,
    ⟨(some 5), (.move (.t 10)), none⟩])
  (.seq (.seq (.region [⟨(some 11), (.move (.t 5)), none⟩,
      ⟨(some 12), (.bin (.eql) (.t 11) (.c (.int (.i64) (-1)))), none⟩])
    (.cond (.t 12) (.seq (.region [⟨(some 13), (.move (.t 0)), none⟩,
        ⟨(some 4), (.move (.t 13)), none⟩])
      (.ret))
     (.skip)))
   (.seq (.seq (.region [⟨(some 14), (.move (.t 5)), none⟩,
       ⟨(some 15), (.bin (.add) (.t 14) (.c (.int (.i64) 1))), none⟩,
       ⟨(some 6), (.move (.t 15)), none⟩])
     (.block 0 (.loop (.seq (.seq (.region [⟨(some 16), (.move (.t 6)), none⟩,
           ⟨(some 17), (.move (.t 0)), none⟩,
           ⟨(some 18), (.len (.slice) (.t 17)), none⟩,
           ⟨(some 19), (.bin (.lss) (.t 16) (.t 18)), none⟩])
         (.cond (.t 19) (.skip)
          (.exit 0)))
        (.seq (.block 1 (.seq (.region [⟨(some 22), (.move (.t 0)), none⟩,
             ⟨(some 23), (.move (.t 6)), none⟩,
             ⟨(some 24), (.indexAddr 2 (.t 22) (.t 23)), none⟩,
             ⟨(some 25), (.load true 2 (.t 24)), none⟩,
             ⟨(some 7), (.new [.int (.i64) 0, .nilSlice]), none⟩,
             ⟨none, (.store 2 (.t 7) (.t 25)), none⟩])
           (.seq (.region [⟨(some 26), (.move (.t 1)), none⟩,
              ⟨(some 27), (.load true 2 (.t 7)), none⟩,
              ⟨(some 28), (.call (.t 26) [.t 27]), none⟩,
              ⟨(some 29), (.un (.not) (.t 28)), none⟩])
            (.cond (.t 29) (.seq (.region [⟨(some 30), (.move (.t 0)), none⟩,
                ⟨(some 31), (.move (.t 5)), none⟩,
                ⟨(some 32), (.load true 2 (.t 7)), none⟩,
                ⟨(some 33), (.indexAddr 2 (.t 30) (.t 31)), none⟩,
                ⟨none, (.store 2 (.t 33) (.t 32)), none⟩])
              (.region [⟨(some 34), (.move (.t 5)), none⟩,
                ⟨(some 35), (.bin (.add) (.t 34) (.c (.int (.i64) 1))), none⟩,
                ⟨(some 5), (.move (.t 35)), none⟩]))
             (.skip)))))
         (.region [⟨(some 20), (.move (.t 6)), none⟩,
           ⟨(some 21), (.bin (.add) (.t 20) (.c (.int (.i64) 1))), none⟩,
           ⟨(some 6), (.move (.t 21)), none⟩]))))))
    (.seq (.region [⟨(some 36), (.move (.t 0)), none⟩,
       ⟨(some 37), (.move (.t 5)), none⟩,
       ⟨(some 38), (.slice 2 (.t 36) (some (.t 37)) none none), none⟩,
       ⟨none, (.clear [.int (.i64) 0, .nilSlice] (.t 38)), none⟩])
     (.seq (.region [⟨(some 39), (.move (.t 0)), none⟩,
        ⟨(some 40), (.move (.t 5)), none⟩,
        ⟨(some 41), (.slice 2 (.t 39) none (some (.t 40)) none), none⟩,
        ⟨(some 4), (.move (.t 41)), none⟩])
      (.ret))))))⟩
theorem ok26 : compFunc prog glb 26 p26 = some c26 := by kernel_rfl
/-- signalbox/units.Is -/
def p29 : List Plan := []
def c29 : CFunc := ⟨13, [.tmp 4],
 .seq (.region [⟨(some 4), (.move (.c (.bool false))), none⟩])
 (.seq (.region [⟨(some 5), (.move (.t 0)), none⟩,
    ⟨(some 6), (.len (.slice) (.t 5)), none⟩,
    ⟨(some 7), (.move (.t 1)), none⟩,
    ⟨(some 8), (.bin (.eql) (.t 6) (.t 7)), none⟩,
    ⟨(some 9), (.move (.t 8)), none⟩,
    ⟨(some 10), (.move (.t 0)), (some (9, true))⟩,
    ⟨(some 11), (.call (.c (.func 41 [] [])) [.t 10]), (some (9, true))⟩,
    ⟨(some 12), (.pick (.t 9) (.t 11) (.c (.bool false))), none⟩,
    ⟨(some 4), (.move (.t 12)), none⟩])
  (.ret))⟩
theorem ok29 : compFunc prog glb 29 p29 = some c29 := by kernel_rfl
/-- slices.Contains[[]int,int] -/
def p30 : List Plan := []
def c30 : CFunc := ⟨9, [.tmp 4],
 .seq (.region [⟨(some 4), (.move (.c (.bool false))), none⟩])
 (.seq (.region [⟨(some 5), (.move (.t 0)), none⟩,
    ⟨(some 6), (.move (.t 1)), none⟩,
    ⟨(some 7), (.call (.c (.func 42 [] [])) [.t 5, .t 6]), none⟩,
    ⟨(some 8), (.bin (.geq) (.t 7) (.c (.int (.i64) 0))), none⟩,
    ⟨(some 4), (.move (.t 8)), none⟩])
  (.ret))⟩
theorem ok30 : compFunc prog glb 30 p30 = some c30 := by kernel_rfl
/-- (*signalbox/alloc.Alloc).begin -/
def p31 : List Plan := []
def c31 : CFunc := ⟨7, [],
 .seq (.region [⟨(some 1), (.box (.t 0)), none⟩])
 (.region [⟨(some 2), (.load false 1 (.t 1)), none⟩,
   ⟨(some 3), (.nilCheck (.t 2)), none⟩,
   ⟨(some 4), (.fieldAddr 2 (.t 3)), none⟩,
   ⟨(some 5), (.func 44 [] [.t 1]), none⟩,
   ⟨(some 6), (.call (.c (.func 43 [] [])) [.t 4, .t 5]), none⟩])⟩
theorem ok31 : compFunc prog glb 31 p31 = some c31 := by kernel_rfl
/-- signalbox/bank.Safe -/
def p34 : List Plan := []
def c34 : CFunc := ⟨17, [.tmp 6],
 .seq (.region [⟨(some 6), (.move (.c (.bool false))), none⟩])
 (.seq (.region [⟨(some 10), (.move (.t 0)), none⟩,
    ⟨(some 11), (.move (.t 1)), none⟩,
    ⟨(some 12), (.move (.t 2)), none⟩,
    ⟨(some 13), (.call (.c (.func 48 [] [])) [.t 10, .t 11, .t 12]), none⟩,
    ⟨(some 9), (.move (.t 13)), none⟩,
    ⟨(some 14), (.extract (.t 9) 0), none⟩,
    ⟨(some 15), (.extract (.t 9) 1), none⟩,
    ⟨(some 7), (.move (.t 14)), none⟩,
    ⟨(some 8), (.move (.t 15)), none⟩])
  (.seq (.region [⟨(some 16), (.move (.t 8)), none⟩,
     ⟨(some 6), (.move (.t 16)), none⟩])
   (.ret)))⟩
theorem ok34 : compFunc prog glb 34 p34 = some c34 := by kernel_rfl
/-- signalbox/units.Zero -/
def p35 : List Plan := []
def c35 : CFunc := ⟨11, [.tmp 2],
 .seq (.region [⟨(some 2), (.move (.c (.nilSlice))), none⟩])
 (.seq (.seq (.region [⟨(some 3), (.move (.t 0)), none⟩,
     ⟨(some 4), (.bin (.lss) (.t 3) (.c (.int (.i64) 1))), none⟩,
     ⟨(some 5), (.move (.t 4)), none⟩,
     ⟨(some 6), (.move (.t 0)), (some (5, false))⟩,
     ⟨(some 7), (.bin (.gtr) (.t 6) (.c (.int (.i64) 6))), (some (5, false))⟩,
     ⟨(some 8), (.pick (.t 5) (.c (.bool true)) (.t 7)), none⟩])
   (.cond (.t 8) (.seq (.region [⟨(some 2), (.move (.c (.nilSlice))), none⟩])
     (.ret))
    (.skip)))
  (.seq (.region [⟨(some 9), (.move (.t 0)), none⟩,
     ⟨(some 10), (.makeSlice [.int (.i64) 0] 8 (.t 9) (.t 9)), none⟩,
     ⟨(some 2), (.move (.t 10)), none⟩])
   (.ret)))⟩
theorem ok35 : compFunc prog glb 35 p35 = some c35 := by kernel_rfl
/-- slices.IndexFunc[[]signalbox/alloc.Ask,signalbox/alloc.Ask] -/
def p36 : List Plan := []
def c36 : CFunc := ⟨19, [.tmp 4],
 .seq (.region [⟨(some 4), (.move (.c (.int (.i64) 0))), none⟩])
 (.seq (.seq (.region [⟨(some 6), (.move (.t 0)), none⟩,
     ⟨(some 7), (.len (.slice) (.t 6)), none⟩,
     ⟨(some 8), (.move (.c (.int (.i64) 0))), none⟩])
   (.block 0 (.loop (.seq (.region [⟨(some 9), (.bin (.lss) (.t 8) (.t 7)), none⟩])
      (.seq (.cond (.t 9) (.skip)
        (.exit 0))
       (.seq (.block 1 (.seq (.region [⟨(some 10), (.move (.t 8)), none⟩,
            ⟨(some 5), (.move (.t 10)), none⟩])
          (.seq (.region [⟨(some 11), (.move (.t 1)), none⟩,
             ⟨(some 12), (.move (.t 0)), none⟩,
             ⟨(some 13), (.move (.t 5)), none⟩,
             ⟨(some 14), (.indexAddr 2 (.t 12) (.t 13)), none⟩,
             ⟨(some 15), (.load true 2 (.t 14)), none⟩,
             ⟨(some 16), (.call (.t 11) [.t 15]), none⟩])
           (.cond (.t 16) (.seq (.region [⟨(some 17), (.move (.t 5)), none⟩,
               ⟨(some 4), (.move (.t 17)), none⟩])
             (.ret))
            (.skip)))))
        (.region [⟨(some 18), (.bin (.add) (.t 8) (.c (.int (.i64) 1))), none⟩,
          ⟨(some 8), (.move (.t 18)), none⟩])))))))
  (.seq (.region [⟨(some 4), (.move (.c (.int (.i64) (-1)))), none⟩])
   (.ret)))⟩
theorem ok36 : compFunc prog glb 36 p36 = some c36 := by kernel_rfl
/-- signalbox/holt.Stuck -/
def p37 : List Plan := []
def c37 : CFunc := ⟨32, [.tmp 6],
 .seq (.region [⟨(some 4), (.box (.t 1)), none⟩,
   ⟨(some 5), (.box (.t 2)), none⟩,
   ⟨(some 6), (.move (.c (.nilSlice))), none⟩])
 (.seq (.seq (.region [⟨(some 12), (.move (.t 0)), none⟩,
     ⟨(some 13), (.load false 1 (.t 4)), none⟩,
     ⟨(some 14), (.load false 1 (.t 5)), none⟩,
     ⟨(some 15), (.call (.c (.func 49 [] [])) [.t 12, .t 13, .t 14]), none⟩,
     ⟨(some 16), (.un (.not) (.t 15)), none⟩])
   (.cond (.t 16) (.seq (.region [⟨(some 6), (.move (.c (.nilSlice))), none⟩])
     (.ret))
    (.skip)))
  (.seq (.region [⟨(some 17), (.move (.t 0)), none⟩,
     ⟨(some 18), (.call (.c (.func 22 [] [])) [.t 17]), none⟩,
     ⟨(some 7), (.new [.nilSlice]), none⟩,
     ⟨none, (.store 1 (.t 7) (.t 18)), none⟩])
   (.seq (.region [⟨(some 19), (.newMap), none⟩,
      ⟨(some 8), (.new [.nilMap]), none⟩,
      ⟨none, (.store 1 (.t 8) (.t 19)), none⟩])
    (.seq (.seq (.region [⟨(some 20), (.load false 1 (.t 4)), none⟩,
        ⟨(some 21), (.len (.slice) (.t 20)), none⟩,
        ⟨(some 22), (.move (.c (.int (.i64) 0))), none⟩])
      (.block 0 (.loop (.seq (.region [⟨(some 23), (.bin (.lss) (.t 22) (.t 21)), none⟩])
         (.seq (.cond (.t 23) (.skip)
           (.exit 0))
          (.seq (.block 1 (.seq (.region [⟨(some 24), (.move (.t 22)), none⟩,
               ⟨(some 9), (.move (.t 24)), none⟩])
             (.region [⟨(some 25), (.load false 1 (.t 8)), none⟩,
               ⟨(some 26), (.move (.t 9)), none⟩,
               ⟨none, (.mapUpdate (.one (.int)) (.t 25) (.t 26) (.c (.bool true))), none⟩])))
           (.region [⟨(some 27), (.bin (.add) (.t 22) (.c (.int (.i64) 1))), none⟩,
             ⟨(some 22), (.move (.t 27)), none⟩])))))))
     (.seq (.region [⟨(some 10), (.new [.nilSlice]), none⟩])
      (.seq (.region [⟨(some 11), (.new [.nilFunc]), none⟩])
       (.seq (.region [⟨(some 28), (.func 50 [] [.t 10, .t 4, .t 8, .t 5, .t 7, .t 11]), none⟩,
          ⟨none, (.store 1 (.t 11) (.t 28)), none⟩])
        (.seq (.region [⟨(some 29), (.load false 1 (.t 11)), none⟩,
           ⟨(some 30), (.call (.t 29) []), none⟩])
         (.seq (.region [⟨(some 31), (.load false 1 (.t 10)), none⟩,
            ⟨(some 6), (.move (.t 31)), none⟩])
          (.ret))))))))))⟩
theorem ok37 : compFunc prog glb 37 p37 = some c37 := by kernel_rfl
/-- signalbox/alloc.of$1 -/
def p38 : List Plan := []
def c38 : CFunc := ⟨8, [.tmp 3],
 .seq (.region [⟨(some 2), (.box (.t 0)), none⟩,
   ⟨(some 3), (.move (.c (.bool false))), none⟩])
 (.seq (.region [⟨(some 4), (.fieldAddr 0 (.t 2)), none⟩,
    ⟨(some 5), (.load false 1 (.t 4)), none⟩,
    ⟨(some 6), (.load false 1 (.t 1)), none⟩,
    ⟨(some 7), (.bin (.eql) (.t 5) (.t 6)), none⟩,
    ⟨(some 3), (.move (.t 7)), none⟩])
  (.ret))⟩
theorem ok38 : compFunc prog glb 38 p38 = some c38 := by kernel_rfl
/-- (*signalbox/alloc.Alloc).may -/
def p39 : List Plan := [⟨[(2, .quiet [0]), (3, .quiet [0]), (4, .quiet [0]), (5, .quiet [0]), (0, .quiet [0]), (1, .quiet [0]), (6, .eff), (7, .quiet [7])], 0, [0, 1, 0, 4, 12, 28, 63, 127]⟩]
def c39 : CFunc := ⟨41, [.tmp 6],
 .seq (.region [⟨(some 4), (.box (.t 1)), none⟩,
   ⟨(some 6), (.move (.c (.bool false))), none⟩])
 (.seq (.seq (.draw [⟨2, ⟨(some 9), (.move (.t 0)), none⟩, (.quiet [0])⟩,
     ⟨3, ⟨(some 10), (.nilCheck (.t 9)), none⟩, (.quiet [0])⟩,
     ⟨4, ⟨(some 11), (.fieldAddr 5 (.t 10)), none⟩, (.quiet [0])⟩,
     ⟨5, ⟨(some 12), (.load false 1 (.t 11)), none⟩, (.quiet [0])⟩,
     ⟨0, ⟨(some 7), (.fieldAddr 1 (.t 4)), none⟩, (.quiet [0])⟩,
     ⟨1, ⟨(some 8), (.load false 1 (.t 7)), none⟩, (.quiet [0])⟩,
     ⟨6, ⟨(some 13), (.call (.c (.func 24 [] [])) [.t 8, .t 12]), none⟩, (.eff)⟩,
     ⟨7, ⟨(some 14), (.un (.not) (.t 13)), none⟩, (.quiet [7])⟩] 0)
   (.cond (.t 14) (.seq (.region [⟨(some 6), (.move (.c (.bool false))), none⟩])
     (.ret))
    (.skip)))
  (.seq (.seq (.region [⟨(some 15), (.move (.t 0)), none⟩,
      ⟨(some 16), (.nilCheck (.t 15)), none⟩,
      ⟨(some 17), (.fieldAddr 1 (.t 16)), none⟩,
      ⟨(some 18), (.load false 1 (.t 17)), none⟩,
      ⟨(some 19), (.un (.not) (.t 18)), none⟩])
    (.cond (.t 19) (.seq (.region [⟨(some 6), (.move (.c (.bool true))), none⟩])
      (.ret))
     (.skip)))
   (.seq (.seq (.region [⟨(some 20), (.move (.t 2)), none⟩,
       ⟨(some 21), (.move (.t 20)), none⟩,
       ⟨(some 22), (.move (.t 0)), (some (21, true))⟩,
       ⟨(some 23), (.fieldAddr 0 (.t 4)), (some (21, true))⟩,
       ⟨(some 24), (.load false 1 (.t 23)), (some (21, true))⟩,
       ⟨(some 25), (.call (.c (.func 15 [] [])) [.t 22, .t 24]), (some (21, true))⟩,
       ⟨(some 26), (.call (.c (.func 52 [] [])) [.t 25]), (some (21, true))⟩,
       ⟨(some 27), (.pick (.t 21) (.t 26) (.c (.bool false))), none⟩])
     (.cond (.t 27) (.seq (.region [⟨(some 6), (.move (.c (.bool false))), none⟩])
       (.ret))
      (.skip)))
    (.seq (.region [⟨(some 28), (.move (.t 0)), none⟩,
       ⟨(some 29), (.fieldAddr 0 (.t 4)), none⟩,
       ⟨(some 30), (.load false 1 (.t 29)), none⟩,
       ⟨(some 31), (.fieldAddr 1 (.t 4)), none⟩,
       ⟨(some 32), (.load false 1 (.t 31)), none⟩,
       ⟨(some 33), (.call (.c (.func 25 [] [])) [.t 28, .t 30, .t 32, .c (.int (.i64) 1)]), none⟩])
     (.seq (.region [⟨(some 34), (.move (.t 0)), none⟩,
        ⟨(some 35), (.fieldAddr 0 (.t 4)), none⟩,
        ⟨(some 36), (.load false 1 (.t 35)), none⟩,
        ⟨(some 37), (.fieldAddr 1 (.t 4)), none⟩,
        ⟨(some 38), (.load false 1 (.t 37)), none⟩,
        ⟨none, (.defer (.c (.func 25 [] [])) [.t 34, .t 36, .t 38, .c (.int (.i64) (-1))]), none⟩])
      (.seq (.region [⟨(some 39), (.move (.t 0)), none⟩,
         ⟨(some 40), (.call (.c (.func 13 [] [])) [.t 39]), none⟩,
         ⟨(some 6), (.move (.t 40)), none⟩])
       (.ret)))))))⟩
theorem ok39 : compFunc prog glb 39 p39 = some c39 := by kernel_rfl
/-- signalbox/units.pairs -/
def p40 : List Plan := []
def c40 : CFunc := ⟨6, [.tmp 4],
 .seq (.region [⟨(some 2), (.box (.t 0)), none⟩,
   ⟨(some 3), (.box (.t 1)), none⟩,
   ⟨(some 4), (.move (.c (.nilFunc))), none⟩])
 (.seq (.region [⟨(some 5), (.func 53 [] [.t 2, .t 3]), none⟩,
    ⟨(some 4), (.move (.t 5)), none⟩])
  (.ret))⟩
theorem ok40 : compFunc prog glb 40 p40 = some c40 := by kernel_rfl
/-- signalbox/units.may -/
def p41 : List Plan := []
def c41 : CFunc := ⟨18, [.tmp 2],
 .seq (.region [⟨(some 2), (.move (.c (.bool false))), none⟩])
 (.seq (.seq (.region [⟨(some 5), (.move (.t 0)), none⟩,
     ⟨(some 6), (.len (.slice) (.t 5)), none⟩,
     ⟨(some 7), (.move (.c (.int (.i64) 0))), none⟩])
   (.block 0 (.loop (.seq (.region [⟨(some 8), (.bin (.lss) (.t 7) (.t 6)), none⟩])
      (.seq (.cond (.t 8) (.skip)
        (.exit 0))
       (.seq (.block 1 (.seq (.region [⟨(some 9), (.indexAddr 1 (.t 5) (.t 7)), none⟩,
            ⟨(some 10), (.load false 1 (.t 9)), none⟩,
            ⟨(some 4), (.move (.t 10)), none⟩])
          (.seq (.region [⟨(some 11), (.move (.t 4)), none⟩,
             ⟨(some 12), (.bin (.lss) (.t 11) (.c (.int (.i64) 0))), none⟩,
             ⟨(some 13), (.move (.t 12)), none⟩,
             ⟨(some 14), (.move (.t 4)), (some (13, false))⟩,
             ⟨(some 15), (.bin (.gtr) (.t 14) (.c (.int (.i64) 1000))), (some (13, false))⟩,
             ⟨(some 16), (.pick (.t 13) (.c (.bool true)) (.t 15)), none⟩])
           (.cond (.t 16) (.seq (.region [⟨(some 2), (.move (.c (.bool false))), none⟩])
             (.ret))
            (.skip)))))
        (.region [⟨(some 17), (.bin (.add) (.t 7) (.c (.int (.i64) 1))), none⟩,
          ⟨(some 7), (.move (.t 17)), none⟩])))))))
  (.seq (.region [⟨(some 2), (.move (.c (.bool true))), none⟩])
   (.ret)))⟩
theorem ok41 : compFunc prog glb 41 p41 = some c41 := by kernel_rfl
/-- slices.Index[[]int,int] -/
def p42 : List Plan := []
def c42 : CFunc := ⟨19, [.tmp 4],
 .seq (.region [⟨(some 4), (.move (.c (.int (.i64) 0))), none⟩])
 (.seq (.seq (.region [⟨(some 6), (.move (.t 0)), none⟩,
     ⟨(some 7), (.len (.slice) (.t 6)), none⟩,
     ⟨(some 8), (.move (.c (.int (.i64) 0))), none⟩])
   (.block 0 (.loop (.seq (.region [⟨(some 9), (.bin (.lss) (.t 8) (.t 7)), none⟩])
      (.seq (.cond (.t 9) (.skip)
        (.exit 0))
       (.seq (.block 1 (.seq (.region [⟨(some 10), (.move (.t 8)), none⟩,
            ⟨(some 5), (.move (.t 10)), none⟩])
          (.seq (.region [⟨(some 11), (.move (.t 1)), none⟩,
             ⟨(some 12), (.move (.t 0)), none⟩,
             ⟨(some 13), (.move (.t 5)), none⟩,
             ⟨(some 14), (.indexAddr 1 (.t 12) (.t 13)), none⟩,
             ⟨(some 15), (.load false 1 (.t 14)), none⟩,
             ⟨(some 16), (.bin (.eql) (.t 11) (.t 15)), none⟩])
           (.cond (.t 16) (.seq (.region [⟨(some 17), (.move (.t 5)), none⟩,
               ⟨(some 4), (.move (.t 17)), none⟩])
             (.ret))
            (.skip)))))
        (.region [⟨(some 18), (.bin (.add) (.t 8) (.c (.int (.i64) 1))), none⟩,
          ⟨(some 8), (.move (.t 18)), none⟩])))))))
  (.seq (.region [⟨(some 4), (.move (.c (.int (.i64) (-1)))), none⟩])
   (.ret)))⟩
theorem ok42 : compFunc prog glb 42 p42 = some c42 := by kernel_rfl
/-- (*sync.Once).Do -/
def p43 : List Plan := []
def c43 : CFunc := ⟨12, [],
 .seq (.region [⟨(some 4), (.move (.t 0)), none⟩,
   ⟨(some 5), (.nilCheck (.t 4)), none⟩,
   ⟨(some 6), (.fieldAddr 0 (.t 5)), none⟩,
   ⟨(some 7), (.call (.c (.func 54 [] [])) [.t 6]), none⟩,
   ⟨(some 8), (.un (.not) (.t 7)), none⟩])
 (.cond (.t 8) (.region [⟨(some 9), (.move (.t 0)), none⟩,
    ⟨(some 10), (.move (.t 1)), none⟩,
    ⟨(some 11), (.call (.c (.func 55 [] [])) [.t 9, .t 10]), none⟩])
  (.skip))⟩
theorem ok43 : compFunc prog glb 43 p43 = some c43 := by kernel_rfl
/-- (*signalbox/alloc.Alloc).begin$1 -/
def p44 : List Plan := [⟨[(3, .quiet [0]), (4, .quiet [0]), (5, .quiet [0]), (6, .quiet [0]), (7, .eff), (0, .quiet [0, 5]), (10, .quiet [5]), (11, .quiet [5]), (12, .eff), (8, .alloc 0), (1, .quiet [0, 5, 9]), (13, .quiet [9]), (14, .quiet [9]), (15, .eff), (9, .alloc 1), (2, .quiet [0, 5, 9, 14]), (16, .quiet [14]), (17, .quiet [14]), (18, .eff)], 2, [0, 0, 0, 0, 8, 24, 56, 120, 0, 0, 249, 1273, 3321, 7675, 15867, 32251, 65535, 131071, 262143]⟩]
def c44 : CFunc := ⟨17, [],
 .draw [⟨3, ⟨(some 4), (.load false 1 (.t 0)), none⟩, (.quiet [0])⟩,
  ⟨4, ⟨(some 5), (.nilCheck (.t 4)), none⟩, (.quiet [0])⟩,
  ⟨5, ⟨(some 6), (.fieldAddr 0 (.t 5)), none⟩, (.quiet [0])⟩,
  ⟨6, ⟨(some 7), (.load false 1 (.t 6)), none⟩, (.quiet [0])⟩,
  ⟨7, ⟨(some 8), (.call (.c (.func 22 [] [])) [.t 7]), none⟩, (.eff)⟩,
  ⟨0, ⟨(some 1), (.load false 1 (.t 0)), none⟩, (.quiet [0, 5])⟩,
  ⟨10, ⟨(some 11), (.nilCheck (.t 1)), none⟩, (.quiet [5])⟩,
  ⟨11, ⟨(some 12), (.fieldAddr 5 (.t 11)), none⟩, (.quiet [5])⟩,
  ⟨12, ⟨none, (.store 1 (.t 12) (.t 8)), none⟩, (.eff)⟩,
  ⟨8, ⟨(some 9), (.newMap), none⟩, (.alloc 0)⟩,
  ⟨1, ⟨(some 2), (.load false 1 (.t 0)), none⟩, (.quiet [0, 5, 9])⟩,
  ⟨13, ⟨(some 13), (.nilCheck (.t 2)), none⟩, (.quiet [9])⟩,
  ⟨14, ⟨(some 14), (.fieldAddr 6 (.t 13)), none⟩, (.quiet [9])⟩,
  ⟨15, ⟨none, (.store 1 (.t 14) (.t 9)), none⟩, (.eff)⟩,
  ⟨9, ⟨(some 10), (.newMap), none⟩, (.alloc 1)⟩,
  ⟨2, ⟨(some 3), (.load false 1 (.t 0)), none⟩, (.quiet [0, 5, 9, 14])⟩,
  ⟨16, ⟨(some 15), (.nilCheck (.t 3)), none⟩, (.quiet [14])⟩,
  ⟨17, ⟨(some 16), (.fieldAddr 7 (.t 15)), none⟩, (.quiet [14])⟩,
  ⟨18, ⟨none, (.store 1 (.t 16) (.t 10)), none⟩, (.eff)⟩] 2⟩
theorem ok44 : compFunc prog glb 44 p44 = some c44 := by kernel_rfl
/-- signalbox/bank.Order -/
def p48 : List Plan := []
def c48 : CFunc := ⟨40, [.tmp 6, .tmp 7],
 .seq (.region [⟨(some 6), (.move (.c (.nilSlice))), none⟩,
   ⟨(some 7), (.move (.c (.bool false))), none⟩])
 (.scope (.seq (.seq (.region [⟨(some 10), (.move (.t 0)), none⟩,
      ⟨(some 11), (.move (.t 1)), none⟩,
      ⟨(some 12), (.move (.t 2)), none⟩,
      ⟨(some 13), (.call (.c (.func 59 [] [])) [.t 10, .t 11, .t 12]), none⟩,
      ⟨(some 14), (.un (.not) (.t 13)), none⟩])
    (.cond (.t 14) (.seq (.region [⟨(some 6), (.move (.c (.nilSlice))), none⟩,
        ⟨(some 7), (.move (.c (.bool false))), none⟩])
      (.ret))
     (.skip)))
   (.seq (.region [⟨(some 15), (.move (.t 0)), none⟩,
      ⟨(some 16), (.move (.t 1)), none⟩,
      ⟨(some 17), (.move (.t 2)), none⟩,
      ⟨(some 18), (.call (.c (.func 60 [] [])) [.t 15, .t 16, .t 17]), none⟩,
      ⟨(some 8), (.new [.nilSlice, .nilMap, .nilMap]), none⟩,
      ⟨none, (.store 3 (.t 8) (.t 18)), none⟩])
    (.seq (.skip)
     (.seq (.block 0 (.loop (.seq (.seq (.region [⟨(some 19), (.fieldAddr 1 (.t 8)), none⟩,
            ⟨(some 20), (.load false 1 (.t 19)), none⟩,
            ⟨(some 21), (.len (.map) (.t 20)), none⟩,
            ⟨(some 22), (.bin (.gtr) (.t 21) (.c (.int (.i64) 0))), none⟩])
          (.cond (.t 22) (.skip)
           (.exit 0)))
         (.block 1 (.seq (.seq (.region [⟨(some 23), (.move (.t 1)), none⟩,
              ⟨(some 24), (.len (.slice) (.t 23)), none⟩,
              ⟨(some 25), (.move (.c (.int (.i64) 0))), none⟩])
            (.block 2 (.loop (.seq (.region [⟨(some 26), (.bin (.lss) (.t 25) (.t 24)), none⟩])
               (.seq (.cond (.t 26) (.skip)
                 (.exit 2))
                (.seq (.block 3 (.seq (.region [⟨(some 27), (.move (.t 25)), none⟩,
                     ⟨(some 9), (.move (.t 27)), none⟩])
                   (.seq (.region [⟨(some 28), (.load true 3 (.t 8)), none⟩,
                      ⟨(some 29), (.move (.t 9)), none⟩,
                      ⟨(some 30), (.call (.c (.func 61 [] [])) [.t 28, .t 29]), none⟩])
                    (.cond (.t 30) (.seq (.region [⟨(some 31), (.load true 3 (.t 8)), none⟩,
                        ⟨(some 32), (.move (.t 9)), none⟩,
                        ⟨(some 33), (.call (.c (.func 62 [] [])) [.t 31, .t 32]), none⟩])
                      (.seq (.region [⟨(some 34), (.move (.t 6)), none⟩,
                         ⟨(some 35), (.move (.t 9)), none⟩,
                         ⟨(some 36), (.buildSlice [.int (.i64) 0] 1 [(0, 1, .t 35)]), none⟩,
                         ⟨(some 37), (.append 1 8 (.t 34) (.t 36)), none⟩,
                         ⟨(some 6), (.move (.t 37)), none⟩])
                       (.exit 1)))
                     (.skip)))))
                 (.region [⟨(some 38), (.bin (.add) (.t 25) (.c (.int (.i64) 1))), none⟩,
                   ⟨(some 25), (.move (.t 38)), none⟩])))))))
           (.seq (.region [⟨(some 6), (.move (.c (.nilSlice))), none⟩,
              ⟨(some 7), (.move (.c (.bool false))), none⟩])
            (.ret)))))))
      (.seq (.region [⟨(some 39), (.move (.t 6)), none⟩,
         ⟨(some 6), (.move (.t 39)), none⟩,
         ⟨(some 7), (.move (.c (.bool true))), none⟩])
       (.ret)))))) [(0, .seq (.skip)
   (.seq (.block 0 (.loop (.seq (.seq (.region [⟨(some 19), (.fieldAddr 1 (.t 8)), none⟩,
          ⟨(some 20), (.load false 1 (.t 19)), none⟩,
          ⟨(some 21), (.len (.map) (.t 20)), none⟩,
          ⟨(some 22), (.bin (.gtr) (.t 21) (.c (.int (.i64) 0))), none⟩])
        (.cond (.t 22) (.skip)
         (.exit 0)))
       (.block 1 (.seq (.seq (.region [⟨(some 23), (.move (.t 1)), none⟩,
            ⟨(some 24), (.len (.slice) (.t 23)), none⟩,
            ⟨(some 25), (.move (.c (.int (.i64) 0))), none⟩])
          (.block 2 (.loop (.seq (.region [⟨(some 26), (.bin (.lss) (.t 25) (.t 24)), none⟩])
             (.seq (.cond (.t 26) (.skip)
               (.exit 2))
              (.seq (.block 3 (.seq (.region [⟨(some 27), (.move (.t 25)), none⟩,
                   ⟨(some 9), (.move (.t 27)), none⟩])
                 (.seq (.region [⟨(some 28), (.load true 3 (.t 8)), none⟩,
                    ⟨(some 29), (.move (.t 9)), none⟩,
                    ⟨(some 30), (.call (.c (.func 61 [] [])) [.t 28, .t 29]), none⟩])
                  (.cond (.t 30) (.seq (.region [⟨(some 31), (.load true 3 (.t 8)), none⟩,
                      ⟨(some 32), (.move (.t 9)), none⟩,
                      ⟨(some 33), (.call (.c (.func 62 [] [])) [.t 31, .t 32]), none⟩])
                    (.seq (.region [⟨(some 34), (.move (.t 6)), none⟩,
                       ⟨(some 35), (.move (.t 9)), none⟩,
                       ⟨(some 36), (.buildSlice [.int (.i64) 0] 1 [(0, 1, .t 35)]), none⟩,
                       ⟨(some 37), (.append 1 8 (.t 34) (.t 36)), none⟩,
                       ⟨(some 6), (.move (.t 37)), none⟩])
                     (.exit 1)))
                   (.skip)))))
               (.region [⟨(some 38), (.bin (.add) (.t 25) (.c (.int (.i64) 1))), none⟩,
                 ⟨(some 25), (.move (.t 38)), none⟩])))))))
         (.seq (.region [⟨(some 6), (.move (.c (.nilSlice))), none⟩,
            ⟨(some 7), (.move (.c (.bool false))), none⟩])
          (.ret)))))))
    (.seq (.region [⟨(some 39), (.move (.t 6)), none⟩,
       ⟨(some 6), (.move (.t 39)), none⟩,
       ⟨(some 7), (.move (.c (.bool true))), none⟩])
     (.ret))))])⟩
theorem ok48 : compFunc prog glb 48 p48 = some c48 := by kernel_rfl
/-- signalbox/holt.May -/
def p49 : List Plan := []
def c49 : CFunc := ⟨53, [.tmp 6],
 .seq (.region [⟨(some 6), (.move (.c (.bool false))), none⟩])
 (.seq (.region [⟨(some 9), (.move (.t 0)), none⟩,
    ⟨(some 10), (.len (.slice) (.t 9)), none⟩,
    ⟨(some 7), (.move (.t 10)), none⟩])
  (.seq (.seq (.region [⟨(some 11), (.move (.t 7)), none⟩,
      ⟨(some 12), (.bin (.gtr) (.t 11) (.c (.int (.i64) 6))), none⟩,
      ⟨(some 13), (.move (.t 12)), none⟩,
      ⟨(some 14), (.move (.t 0)), (some (13, false))⟩,
      ⟨(some 15), (.move (.t 7)), (some (13, false))⟩,
      ⟨(some 16), (.call (.c (.func 29 [] [])) [.t 14, .t 15]), (some (13, false))⟩,
      ⟨(some 17), (.un (.not) (.t 16)), (some (13, false))⟩,
      ⟨(some 18), (.pick (.t 13) (.c (.bool true)) (.t 17)), none⟩,
      ⟨(some 19), (.move (.t 18)), none⟩,
      ⟨(some 20), (.move (.t 1)), (some (19, false))⟩,
      ⟨(some 21), (.len (.slice) (.t 20)), (some (19, false))⟩,
      ⟨(some 22), (.move (.t 2)), (some (19, false))⟩,
      ⟨(some 23), (.len (.slice) (.t 22)), (some (19, false))⟩,
      ⟨(some 24), (.bin (.neq) (.t 21) (.t 23)), (some (19, false))⟩,
      ⟨(some 25), (.pick (.t 19) (.c (.bool true)) (.t 24)), none⟩,
      ⟨(some 26), (.move (.t 25)), none⟩,
      ⟨(some 27), (.move (.t 1)), (some (26, false))⟩,
      ⟨(some 28), (.len (.slice) (.t 27)), (some (26, false))⟩,
      ⟨(some 29), (.bin (.gtr) (.t 28) (.c (.int (.i64) 32))), (some (26, false))⟩,
      ⟨(some 30), (.pick (.t 26) (.c (.bool true)) (.t 29)), none⟩])
    (.cond (.t 30) (.seq (.region [⟨(some 6), (.move (.c (.bool false))), none⟩])
      (.ret))
     (.skip)))
   (.seq (.seq (.region [⟨(some 31), (.move (.t 1)), none⟩,
       ⟨(some 32), (.len (.slice) (.t 31)), none⟩,
       ⟨(some 33), (.move (.c (.int (.i64) 0))), none⟩])
     (.block 0 (.loop (.seq (.region [⟨(some 34), (.bin (.lss) (.t 33) (.t 32)), none⟩])
        (.seq (.cond (.t 34) (.skip)
          (.exit 0))
         (.seq (.block 1 (.seq (.region [⟨(some 35), (.move (.t 33)), none⟩,
              ⟨(some 8), (.move (.t 35)), none⟩])
            (.seq (.region [⟨(some 36), (.move (.t 1)), none⟩,
               ⟨(some 37), (.move (.t 8)), none⟩,
               ⟨(some 38), (.indexAddr 1 (.t 36) (.t 37)), none⟩,
               ⟨(some 39), (.load false 1 (.t 38)), none⟩,
               ⟨(some 40), (.move (.t 7)), none⟩,
               ⟨(some 41), (.call (.c (.func 29 [] [])) [.t 39, .t 40]), none⟩,
               ⟨(some 42), (.un (.not) (.t 41)), none⟩,
               ⟨(some 43), (.move (.t 42)), none⟩,
               ⟨(some 44), (.move (.t 2)), (some (43, false))⟩,
               ⟨(some 45), (.move (.t 8)), (some (43, false))⟩,
               ⟨(some 46), (.indexAddr 1 (.t 44) (.t 45)), (some (43, false))⟩,
               ⟨(some 47), (.load false 1 (.t 46)), (some (43, false))⟩,
               ⟨(some 48), (.move (.t 7)), (some (43, false))⟩,
               ⟨(some 49), (.call (.c (.func 29 [] [])) [.t 47, .t 48]), (some (43, false))⟩,
               ⟨(some 50), (.un (.not) (.t 49)), (some (43, false))⟩,
               ⟨(some 51), (.pick (.t 43) (.c (.bool true)) (.t 50)), none⟩])
             (.cond (.t 51) (.seq (.region [⟨(some 6), (.move (.c (.bool false))), none⟩])
               (.ret))
              (.skip)))))
          (.region [⟨(some 52), (.bin (.add) (.t 33) (.c (.int (.i64) 1))), none⟩,
            ⟨(some 33), (.move (.t 52)), none⟩])))))))
    (.seq (.region [⟨(some 6), (.move (.c (.bool true))), none⟩])
     (.ret)))))⟩
theorem ok49 : compFunc prog glb 49 p49 = some c49 := by kernel_rfl
/-- signalbox/holt.Stuck$1 -/
def p50 : List Plan := [⟨[(4, .quiet [0]), (1, .quiet [0]), (0, .quiet [0]), (2, .quiet [0]), (3, .quiet [0]), (5, .eff), (6, .quiet [6])], 0, [0, 0, 3, 7, 0, 31, 63]⟩, ⟨[(2, .quiet [0]), (1, .quiet [0]), (3, .quiet [0]), (4, .quiet [0]), (0, .quiet [0]), (5, .eff)], 0, [0, 0, 0, 6, 14, 31]⟩]
def c50 : CFunc := ⟨44, [],
 .seq (.region [⟨(some 8), (.load false 1 (.t 0)), none⟩,
   ⟨none, (.clear [.int (.i64) 0] (.t 8)), none⟩])
 (.seq (.region [⟨(some 9), (.load false 1 (.t 0)), none⟩,
    ⟨(some 10), (.slice 1 (.t 9) none (some (.c (.int (.i64) 0))) none), none⟩,
    ⟨none, (.store 1 (.t 0) (.t 10)), none⟩])
  (.seq (.region [⟨(some 6), (.move (.c (.bool false))), none⟩])
   (.seq (.seq (.region [⟨(some 11), (.load false 1 (.t 1)), none⟩,
       ⟨(some 12), (.len (.slice) (.t 11)), none⟩,
       ⟨(some 13), (.move (.c (.int (.i64) 0))), none⟩])
     (.block 0 (.loop (.seq (.region [⟨(some 14), (.bin (.lss) (.t 13) (.t 12)), none⟩])
        (.seq (.cond (.t 14) (.skip)
          (.exit 0))
         (.seq (.block 1 (.seq (.region [⟨(some 15), (.move (.t 13)), none⟩,
              ⟨(some 7), (.move (.t 15)), none⟩])
            (.block 2 (.seq (.region [⟨(some 21), (.load false 1 (.t 2)), none⟩,
                ⟨(some 22), (.move (.t 7)), none⟩,
                ⟨(some 23), (.lookup (.one (.int)) (.bool false) false (.t 21) (.t 22)), none⟩,
                ⟨(some 24), (.un (.not) (.t 23)), none⟩,
                ⟨(some 20), (.move (.t 24)), none⟩])
              (.cond (.t 20) (.skip)
               (.seq (.draw [⟨4, ⟨(some 30), (.load false 1 (.t 4)), none⟩, (.quiet [0])⟩,
                  ⟨1, ⟨(some 27), (.move (.t 7)), none⟩, (.quiet [0])⟩,
                  ⟨0, ⟨(some 26), (.load false 1 (.t 3)), none⟩, (.quiet [0])⟩,
                  ⟨2, ⟨(some 28), (.indexAddr 1 (.t 26) (.t 27)), none⟩, (.quiet [0])⟩,
                  ⟨3, ⟨(some 29), (.load false 1 (.t 28)), none⟩, (.quiet [0])⟩,
                  ⟨5, ⟨(some 31), (.call (.c (.func 24 [] [])) [.t 29, .t 30]), none⟩, (.eff)⟩,
                  ⟨6, ⟨(some 25), (.move (.t 31)), none⟩, (.quiet [6])⟩] 0)
                (.cond (.t 25) (.seq (.draw [⟨2, ⟨(some 34), (.move (.t 7)), none⟩, (.quiet [0])⟩,
                    ⟨1, ⟨(some 33), (.load false 1 (.t 1)), none⟩, (.quiet [0])⟩,
                    ⟨3, ⟨(some 35), (.indexAddr 1 (.t 33) (.t 34)), none⟩, (.quiet [0])⟩,
                    ⟨4, ⟨(some 36), (.load false 1 (.t 35)), none⟩, (.quiet [0])⟩,
                    ⟨0, ⟨(some 32), (.load false 1 (.t 4)), none⟩, (.quiet [0])⟩,
                    ⟨5, ⟨(some 37), (.call (.c (.func 51 [] [])) [.t 32, .t 36]), none⟩, (.eff)⟩] 0)
                  (.region [⟨(some 38), (.load false 1 (.t 2)), none⟩,
                    ⟨(some 39), (.move (.t 7)), none⟩,
                    ⟨none, (.mapUpdate (.one (.int)) (.t 38) (.t 39) (.c (.bool false))), none⟩,
                    ⟨(some 6), (.move (.c (.bool true))), none⟩]))
                 (.region [⟨(some 16), (.load false 1 (.t 0)), none⟩,
                   ⟨(some 17), (.move (.t 7)), none⟩,
                   ⟨(some 18), (.buildSlice [.int (.i64) 0] 1 [(0, 1, .t 17)]), none⟩,
                   ⟨(some 19), (.append 1 8 (.t 16) (.t 18)), none⟩,
                   ⟨none, (.store 1 (.t 0) (.t 19)), none⟩]))))))))
          (.region [⟨(some 40), (.bin (.add) (.t 13) (.c (.int (.i64) 1))), none⟩,
            ⟨(some 13), (.move (.t 40)), none⟩])))))))
    (.seq (.region [⟨(some 41), (.move (.t 6)), none⟩])
     (.cond (.t 41) (.region [⟨(some 42), (.load false 1 (.t 5)), none⟩,
        ⟨(some 43), (.call (.t 42) []), none⟩])
      (.skip))))))⟩
theorem ok50 : compFunc prog glb 50 p50 = some c50 := by kernel_rfl
/-- signalbox/holt.add -/
def p51 : List Plan := []
def c51 : CFunc := ⟨21, [],
 .seq (.region [⟨(some 6), (.move (.t 1)), none⟩,
   ⟨(some 7), (.len (.slice) (.t 6)), none⟩,
   ⟨(some 8), (.move (.c (.int (.i64) 0))), none⟩])
 (.block 0 (.loop (.seq (.region [⟨(some 9), (.bin (.lss) (.t 8) (.t 7)), none⟩])
    (.seq (.cond (.t 9) (.skip)
      (.exit 0))
     (.seq (.block 1 (.seq (.region [⟨(some 10), (.move (.t 8)), none⟩,
          ⟨(some 11), (.indexAddr 1 (.t 6) (.t 8)), none⟩,
          ⟨(some 12), (.load false 1 (.t 11)), none⟩,
          ⟨(some 4), (.move (.t 10)), none⟩,
          ⟨(some 5), (.move (.t 12)), none⟩])
        (.region [⟨(some 13), (.move (.t 0)), none⟩,
          ⟨(some 14), (.move (.t 4)), none⟩,
          ⟨(some 15), (.indexAddr 1 (.t 13) (.t 14)), none⟩,
          ⟨(some 16), (.load false 1 (.t 15)), none⟩,
          ⟨(some 17), (.move (.t 5)), none⟩,
          ⟨(some 18), (.bin (.add) (.t 16) (.t 17)), none⟩,
          ⟨(some 19), (.indexAddr 1 (.t 13) (.t 14)), none⟩,
          ⟨none, (.store 1 (.t 19) (.t 18)), none⟩])))
      (.region [⟨(some 20), (.bin (.add) (.t 8) (.c (.int (.i64) 1))), none⟩,
        ⟨(some 8), (.move (.t 20)), none⟩]))))))⟩
theorem ok51 : compFunc prog glb 51 p51 = some c51 := by kernel_rfl
/-- signalbox/units.None -/
def p52 : List Plan := []
def c52 : CFunc := ⟨14, [.tmp 2],
 .seq (.region [⟨(some 2), (.move (.c (.bool false))), none⟩])
 (.seq (.seq (.region [⟨(some 5), (.move (.t 0)), none⟩,
     ⟨(some 6), (.len (.slice) (.t 5)), none⟩,
     ⟨(some 7), (.move (.c (.int (.i64) 0))), none⟩])
   (.block 0 (.loop (.seq (.region [⟨(some 8), (.bin (.lss) (.t 7) (.t 6)), none⟩])
      (.seq (.cond (.t 8) (.skip)
        (.exit 0))
       (.seq (.block 1 (.seq (.region [⟨(some 9), (.indexAddr 1 (.t 5) (.t 7)), none⟩,
            ⟨(some 10), (.load false 1 (.t 9)), none⟩,
            ⟨(some 4), (.move (.t 10)), none⟩])
          (.seq (.region [⟨(some 11), (.move (.t 4)), none⟩,
             ⟨(some 12), (.bin (.neq) (.t 11) (.c (.int (.i64) 0))), none⟩])
           (.cond (.t 12) (.seq (.region [⟨(some 2), (.move (.c (.bool false))), none⟩])
             (.ret))
            (.skip)))))
        (.region [⟨(some 13), (.bin (.add) (.t 7) (.c (.int (.i64) 1))), none⟩,
          ⟨(some 7), (.move (.t 13)), none⟩])))))))
  (.seq (.region [⟨(some 2), (.move (.c (.bool true))), none⟩])
   (.ret)))⟩
theorem ok52 : compFunc prog glb 52 p52 = some c52 := by kernel_rfl
/-- signalbox/units.pairs$1 -/
def p53 : List Plan := [⟨[(6, .quiet [0]), (5, .quiet [0]), (7, .quiet [0]), (8, .quiet [0]), (2, .quiet [0]), (1, .quiet [0]), (3, .quiet [0]), (4, .quiet [0]), (0, .quiet [0]), (9, .eff), (10, .quiet [10])], 0, [0, 0, 0, 6, 14, 0, 0, 96, 224, 511, 1023]⟩]
def c53 : CFunc := ⟨25, [],
 .seq (.region [⟨(some 5), (.load false 1 (.t 1)), none⟩,
   ⟨(some 6), (.len (.slice) (.t 5)), none⟩,
   ⟨(some 7), (.load false 1 (.t 2)), none⟩,
   ⟨(some 8), (.len (.slice) (.t 7)), none⟩,
   ⟨(some 9), (.maxmin false (.t 6) [.t 8]), none⟩,
   ⟨(some 10), (.move (.c (.int (.i64) 0))), none⟩])
 (.block 0 (.loop (.seq (.region [⟨(some 11), (.bin (.lss) (.t 10) (.t 9)), none⟩])
    (.seq (.cond (.t 11) (.skip)
      (.exit 0))
     (.seq (.block 1 (.seq (.region [⟨(some 12), (.move (.t 10)), none⟩,
          ⟨(some 4), (.move (.t 12)), none⟩])
        (.seq (.draw [⟨6, ⟨(some 19), (.move (.t 4)), none⟩, (.quiet [0])⟩,
           ⟨5, ⟨(some 18), (.load false 1 (.t 2)), none⟩, (.quiet [0])⟩,
           ⟨7, ⟨(some 20), (.indexAddr 1 (.t 18) (.t 19)), none⟩, (.quiet [0])⟩,
           ⟨8, ⟨(some 21), (.load false 1 (.t 20)), none⟩, (.quiet [0])⟩,
           ⟨2, ⟨(some 15), (.move (.t 4)), none⟩, (.quiet [0])⟩,
           ⟨1, ⟨(some 14), (.load false 1 (.t 1)), none⟩, (.quiet [0])⟩,
           ⟨3, ⟨(some 16), (.indexAddr 1 (.t 14) (.t 15)), none⟩, (.quiet [0])⟩,
           ⟨4, ⟨(some 17), (.load false 1 (.t 16)), none⟩, (.quiet [0])⟩,
           ⟨0, ⟨(some 13), (.move (.t 0)), none⟩, (.quiet [0])⟩,
           ⟨9, ⟨(some 22), (.call (.t 13) [.t 17, .t 21]), none⟩, (.eff)⟩,
           ⟨10, ⟨(some 23), (.un (.not) (.t 22)), none⟩, (.quiet [10])⟩] 0)
         (.cond (.t 23) (.ret)
          (.skip)))))
      (.region [⟨(some 24), (.bin (.add) (.t 10) (.c (.int (.i64) 1))), none⟩,
        ⟨(some 10), (.move (.t 24)), none⟩]))))))⟩
theorem ok53 : compFunc prog glb 53 p53 = some c53 := by kernel_rfl
/-- (*sync/atomic.Bool).Load -/
def p54 : List Plan := []
def c54 : CFunc := ⟨8, [.tmp 2],
 .seq (.region [⟨(some 2), (.move (.c (.bool false))), none⟩])
 (.seq (.region [⟨(some 3), (.move (.t 0)), none⟩,
    ⟨(some 4), (.nilCheck (.t 3)), none⟩,
    ⟨(some 5), (.fieldAddr 0 (.t 4)), none⟩,
    ⟨(some 6), (.ext (Ext.atomicLoad (.u32)) [.t 5]), none⟩,
    ⟨(some 7), (.bin (.neq) (.t 6) (.c (.int (.u32) 0))), none⟩,
    ⟨(some 2), (.move (.t 7)), none⟩])
  (.ret))⟩
theorem ok54 : compFunc prog glb 54 p54 = some c54 := by kernel_rfl
/-- (*sync.Once).doSlow -/
def p55 : List Plan := []
def c55 : CFunc := ⟨21, [],
 .seq (.region [⟨(some 4), (.move (.t 0)), none⟩,
   ⟨(some 5), (.nilCheck (.t 4)), none⟩,
   ⟨(some 6), (.fieldAddr 1 (.t 5)), none⟩,
   ⟨(some 7), (.call (.c (.func 64 [] [])) [.t 6]), none⟩])
 (.seq (.region [⟨(some 8), (.move (.t 0)), none⟩,
    ⟨(some 9), (.nilCheck (.t 8)), none⟩,
    ⟨(some 10), (.fieldAddr 1 (.t 9)), none⟩,
    ⟨none, (.defer (.c (.func 65 [] [])) [.t 10]), none⟩])
  (.seq (.region [⟨(some 11), (.move (.t 0)), none⟩,
     ⟨(some 12), (.nilCheck (.t 11)), none⟩,
     ⟨(some 13), (.fieldAddr 0 (.t 12)), none⟩,
     ⟨(some 14), (.call (.c (.func 54 [] [])) [.t 13]), none⟩,
     ⟨(some 15), (.un (.not) (.t 14)), none⟩])
   (.cond (.t 15) (.seq (.region [⟨(some 16), (.move (.t 0)), none⟩,
       ⟨(some 17), (.nilCheck (.t 16)), none⟩,
       ⟨(some 18), (.fieldAddr 0 (.t 17)), none⟩,
       ⟨none, (.defer (.c (.func 66 [] [])) [.t 18, .c (.bool true)]), none⟩])
     (.region [⟨(some 19), (.move (.t 1)), none⟩,
       ⟨(some 20), (.call (.t 19) []), none⟩]))
    (.skip))))⟩
theorem ok55 : compFunc prog glb 55 p55 = some c55 := by kernel_rfl
/-- signalbox/bank.May -/
def p59 : List Plan := [⟨[(4, .quiet [0]), (1, .quiet [0]), (0, .quiet [0]), (2, .quiet [0]), (3, .quiet [0]), (5, .eff), (6, .quiet [6]), (7, .quiet [6]), (12, .quiet [6]), (9, .quiet [6]), (8, .quiet [6]), (10, .quiet [6]), (11, .quiet [6]), (13, .eff), (14, .quiet [14]), (15, .quiet [14]), (16, .quiet [14]), (22, .quiet [14]), (21, .quiet [14]), (23, .quiet [14]), (24, .quiet [14]), (18, .quiet [14]), (17, .quiet [14]), (19, .quiet [14]), (20, .quiet [14]), (25, .eff), (26, .quiet [26]), (27, .quiet [26])], 0, [0, 0, 3, 7, 0, 31, 63, 127, 255, 255, 1023, 2047, 255, 8191, 16383, 32767, 65535, 131071, 131071, 524287, 1048575, 131071, 131071, 6422527, 14811135, 33554431, 67108863, 134217727]⟩]
def c59 : CFunc := ⟨65, [.tmp 6],
 .seq (.region [⟨(some 6), (.move (.c (.bool false))), none⟩])
 (.seq (.region [⟨(some 9), (.move (.t 0)), none⟩,
    ⟨(some 10), (.len (.slice) (.t 9)), none⟩,
    ⟨(some 7), (.move (.t 10)), none⟩])
  (.seq (.seq (.region [⟨(some 11), (.move (.t 7)), none⟩,
      ⟨(some 12), (.bin (.gtr) (.t 11) (.c (.int (.i64) 6))), none⟩,
      ⟨(some 13), (.move (.t 12)), none⟩,
      ⟨(some 14), (.move (.t 0)), (some (13, false))⟩,
      ⟨(some 15), (.move (.t 7)), (some (13, false))⟩,
      ⟨(some 16), (.call (.c (.func 29 [] [])) [.t 14, .t 15]), (some (13, false))⟩,
      ⟨(some 17), (.un (.not) (.t 16)), (some (13, false))⟩,
      ⟨(some 18), (.pick (.t 13) (.c (.bool true)) (.t 17)), none⟩,
      ⟨(some 19), (.move (.t 18)), none⟩,
      ⟨(some 20), (.move (.t 1)), (some (19, false))⟩,
      ⟨(some 21), (.len (.slice) (.t 20)), (some (19, false))⟩,
      ⟨(some 22), (.move (.t 2)), (some (19, false))⟩,
      ⟨(some 23), (.len (.slice) (.t 22)), (some (19, false))⟩,
      ⟨(some 24), (.bin (.neq) (.t 21) (.t 23)), (some (19, false))⟩,
      ⟨(some 25), (.pick (.t 19) (.c (.bool true)) (.t 24)), none⟩,
      ⟨(some 26), (.move (.t 25)), none⟩,
      ⟨(some 27), (.move (.t 1)), (some (26, false))⟩,
      ⟨(some 28), (.len (.slice) (.t 27)), (some (26, false))⟩,
      ⟨(some 29), (.bin (.gtr) (.t 28) (.c (.int (.i64) 32))), (some (26, false))⟩,
      ⟨(some 30), (.pick (.t 26) (.c (.bool true)) (.t 29)), none⟩])
    (.cond (.t 30) (.seq (.region [⟨(some 6), (.move (.c (.bool false))), none⟩])
      (.ret))
     (.skip)))
   (.seq (.seq (.region [⟨(some 31), (.move (.t 1)), none⟩,
       ⟨(some 32), (.len (.slice) (.t 31)), none⟩,
       ⟨(some 33), (.move (.c (.int (.i64) 0))), none⟩])
     (.block 0 (.loop (.seq (.region [⟨(some 34), (.bin (.lss) (.t 33) (.t 32)), none⟩])
        (.seq (.cond (.t 34) (.skip)
          (.exit 0))
         (.seq (.block 1 (.seq (.region [⟨(some 35), (.move (.t 33)), none⟩,
              ⟨(some 8), (.move (.t 35)), none⟩])
            (.seq (.draw [⟨4, ⟨(some 40), (.move (.t 7)), none⟩, (.quiet [0])⟩,
               ⟨1, ⟨(some 37), (.move (.t 8)), none⟩, (.quiet [0])⟩,
               ⟨0, ⟨(some 36), (.move (.t 1)), none⟩, (.quiet [0])⟩,
               ⟨2, ⟨(some 38), (.indexAddr 1 (.t 36) (.t 37)), none⟩, (.quiet [0])⟩,
               ⟨3, ⟨(some 39), (.load false 1 (.t 38)), none⟩, (.quiet [0])⟩,
               ⟨5, ⟨(some 41), (.call (.c (.func 29 [] [])) [.t 39, .t 40]), none⟩, (.eff)⟩,
               ⟨6, ⟨(some 42), (.un (.not) (.t 41)), none⟩, (.quiet [6])⟩,
               ⟨7, ⟨(some 43), (.move (.t 42)), none⟩, (.quiet [6])⟩,
               ⟨12, ⟨(some 48), (.move (.t 7)), (some (43, false))⟩, (.quiet [6])⟩,
               ⟨9, ⟨(some 45), (.move (.t 8)), (some (43, false))⟩, (.quiet [6])⟩,
               ⟨8, ⟨(some 44), (.move (.t 2)), (some (43, false))⟩, (.quiet [6])⟩,
               ⟨10, ⟨(some 46), (.indexAddr 1 (.t 44) (.t 45)), (some (43, false))⟩, (.quiet [6])⟩,
               ⟨11, ⟨(some 47), (.load false 1 (.t 46)), (some (43, false))⟩, (.quiet [6])⟩,
               ⟨13, ⟨(some 49), (.call (.c (.func 29 [] [])) [.t 47, .t 48]), (some (43, false))⟩, (.eff)⟩,
               ⟨14, ⟨(some 50), (.un (.not) (.t 49)), (some (43, false))⟩, (.quiet [14])⟩,
               ⟨15, ⟨(some 51), (.pick (.t 43) (.c (.bool true)) (.t 50)), none⟩, (.quiet [14])⟩,
               ⟨16, ⟨(some 52), (.move (.t 51)), none⟩, (.quiet [14])⟩,
               ⟨22, ⟨(some 58), (.move (.t 8)), (some (52, false))⟩, (.quiet [14])⟩,
               ⟨21, ⟨(some 57), (.move (.t 2)), (some (52, false))⟩, (.quiet [14])⟩,
               ⟨23, ⟨(some 59), (.indexAddr 1 (.t 57) (.t 58)), (some (52, false))⟩, (.quiet [14])⟩,
               ⟨24, ⟨(some 60), (.load false 1 (.t 59)), (some (52, false))⟩, (.quiet [14])⟩,
               ⟨18, ⟨(some 54), (.move (.t 8)), (some (52, false))⟩, (.quiet [14])⟩,
               ⟨17, ⟨(some 53), (.move (.t 1)), (some (52, false))⟩, (.quiet [14])⟩,
               ⟨19, ⟨(some 55), (.indexAddr 1 (.t 53) (.t 54)), (some (52, false))⟩, (.quiet [14])⟩,
               ⟨20, ⟨(some 56), (.load false 1 (.t 55)), (some (52, false))⟩, (.quiet [14])⟩,
               ⟨25, ⟨(some 61), (.call (.c (.func 24 [] [])) [.t 56, .t 60]), (some (52, false))⟩, (.eff)⟩,
               ⟨26, ⟨(some 62), (.un (.not) (.t 61)), (some (52, false))⟩, (.quiet [26])⟩,
               ⟨27, ⟨(some 63), (.pick (.t 52) (.c (.bool true)) (.t 62)), none⟩, (.quiet [26])⟩] 0)
             (.cond (.t 63) (.seq (.region [⟨(some 6), (.move (.c (.bool false))), none⟩])
               (.ret))
              (.skip)))))
          (.region [⟨(some 64), (.bin (.add) (.t 33) (.c (.int (.i64) 1))), none⟩,
            ⟨(some 33), (.move (.t 64)), none⟩])))))))
    (.seq (.region [⟨(some 6), (.move (.c (.bool true))), none⟩])
     (.ret)))))⟩
theorem ok59 : compFunc prog glb 59 p59 = some c59 := by kernel_rfl
/-- signalbox/bank.begin -/
def p60 : List Plan := [⟨[(11, .quiet [0]), (10, .quiet [0]), (12, .quiet [0]), (13, .quiet [0]), (2, .quiet [0]), (0, .quiet [0]), (1, .quiet [0]), (14, .eff), (15, .quiet [8]), (7, .quiet [0, 8]), (6, .quiet [0, 8]), (8, .quiet [0, 8]), (9, .quiet [0, 8]), (16, .eff), (5, .quiet [0, 8, 14]), (3, .quiet [0, 8, 14]), (4, .quiet [0, 8, 14]), (17, .eff), (18, .quiet [18]), (19, .eff)], 0, [0, 1, 0, 0, 8, 0, 0, 0, 192, 448, 0, 0, 3072, 7168, 15367, 31751, 65479, 131071, 262143, 524287]⟩]
def c60 : CFunc := ⟨39, [.cell 6 true 3],
 .seq (.region [⟨(some 6), (.new [.nilSlice, .nilMap, .nilMap]), none⟩])
 (.seq (.region [⟨(some 9), (.move (.t 0)), none⟩,
    ⟨(some 10), (.call (.c (.func 22 [] [])) [.t 9]), none⟩,
    ⟨(some 11), (.newMap), none⟩,
    ⟨(some 12), (.newMap), none⟩,
    ⟨(some 13), (.build [.nilSlice, .nilMap, .nilMap] [(0, 1, .t 10), (1, 1, .t 11), (2, 1, .t 12)]), none⟩,
    ⟨(some 7), (.new [.nilSlice, .nilMap, .nilMap]), none⟩,
    ⟨none, (.store 3 (.t 7) (.t 13)), none⟩])
  (.seq (.seq (.region [⟨(some 14), (.move (.t 1)), none⟩,
      ⟨(some 15), (.len (.slice) (.t 14)), none⟩,
      ⟨(some 16), (.move (.c (.int (.i64) 0))), none⟩])
    (.block 0 (.loop (.seq (.region [⟨(some 17), (.bin (.lss) (.t 16) (.t 15)), none⟩])
       (.seq (.cond (.t 17) (.skip)
         (.exit 0))
        (.seq (.block 1 (.seq (.region [⟨(some 18), (.move (.t 16)), none⟩,
             ⟨(some 8), (.move (.t 18)), none⟩])
           (.draw [⟨11, ⟨(some 30), (.move (.t 8)), none⟩, (.quiet [0])⟩,
             ⟨10, ⟨(some 29), (.move (.t 2)), none⟩, (.quiet [0])⟩,
             ⟨12, ⟨(some 31), (.indexAddr 1 (.t 29) (.t 30)), none⟩, (.quiet [0])⟩,
             ⟨13, ⟨(some 32), (.load false 1 (.t 31)), none⟩, (.quiet [0])⟩,
             ⟨2, ⟨(some 21), (.move (.t 8)), none⟩, (.quiet [0])⟩,
             ⟨0, ⟨(some 19), (.fieldAddr 1 (.t 7)), none⟩, (.quiet [0])⟩,
             ⟨1, ⟨(some 20), (.load false 1 (.t 19)), none⟩, (.quiet [0])⟩,
             ⟨14, ⟨(some 33), (.mapEntry (.one (.int)) (.nilSlice) (.t 20) (.t 21)), none⟩, (.eff)⟩,
             ⟨15, ⟨(some 34), (.extract (.t 33) 1), none⟩, (.quiet [8])⟩,
             ⟨7, ⟨(some 26), (.move (.t 8)), none⟩, (.quiet [0, 8])⟩,
             ⟨6, ⟨(some 25), (.move (.t 1)), none⟩, (.quiet [0, 8])⟩,
             ⟨8, ⟨(some 27), (.indexAddr 1 (.t 25) (.t 26)), none⟩, (.quiet [0, 8])⟩,
             ⟨9, ⟨(some 28), (.load false 1 (.t 27)), none⟩, (.quiet [0, 8])⟩,
             ⟨16, ⟨none, (.entryStore (.t 20) (.t 34) (.t 28)), none⟩, (.eff)⟩,
             ⟨5, ⟨(some 24), (.move (.t 8)), none⟩, (.quiet [0, 8, 14])⟩,
             ⟨3, ⟨(some 22), (.fieldAddr 2 (.t 7)), none⟩, (.quiet [0, 8, 14])⟩,
             ⟨4, ⟨(some 23), (.load false 1 (.t 22)), none⟩, (.quiet [0, 8, 14])⟩,
             ⟨17, ⟨(some 35), (.mapEntry (.one (.int)) (.nilSlice) (.t 23) (.t 24)), none⟩, (.eff)⟩,
             ⟨18, ⟨(some 36), (.extract (.t 35) 1), none⟩, (.quiet [18])⟩,
             ⟨19, ⟨none, (.entryStore (.t 23) (.t 36) (.t 32)), none⟩, (.eff)⟩] 0)))
         (.region [⟨(some 37), (.bin (.add) (.t 16) (.c (.int (.i64) 1))), none⟩,
           ⟨(some 16), (.move (.t 37)), none⟩])))))))
   (.seq (.region [⟨(some 38), (.load true 3 (.t 7)), none⟩,
      ⟨none, (.store 3 (.t 6) (.t 38)), none⟩])
    (.ret))))⟩
theorem ok60 : compFunc prog glb 60 p60 = some c60 := by kernel_rfl
/-- (signalbox/bank.state).can -/
def p61 : List Plan := [⟨[(8, .quiet [0]), (6, .quiet [0]), (7, .quiet [0]), (9, .quiet [0]), (10, .quiet [0]), (2, .quiet [0]), (1, .quiet [0]), (3, .quiet [0]), (4, .quiet [0]), (0, .quiet [0]), (5, .quiet [0]), (11, .quiet [0])], 0, [0, 0, 0, 6, 14, 31, 0, 64, 0, 448, 960, 2047]⟩]
def c61 : CFunc := ⟨41, [.tmp 4],
 .seq (.region [⟨(some 2), (.box (.t 0)), none⟩,
   ⟨(some 4), (.move (.c (.bool false))), none⟩])
 (.seq (.region [⟨(some 10), (.fieldAddr 1 (.t 2)), none⟩,
    ⟨(some 11), (.load false 1 (.t 10)), none⟩,
    ⟨(some 12), (.move (.t 1)), none⟩,
    ⟨(some 13), (.lookup (.one (.int)) (.nilSlice) true (.t 11) (.t 12)), none⟩,
    ⟨(some 9), (.move (.t 13)), none⟩,
    ⟨(some 14), (.extract (.t 9) 0), none⟩,
    ⟨(some 15), (.extract (.t 9) 1), none⟩,
    ⟨(some 5), (.move (.t 14)), none⟩,
    ⟨(some 6), (.move (.t 15)), none⟩])
  (.seq (.seq (.region [⟨(some 16), (.move (.t 6)), none⟩,
      ⟨(some 17), (.un (.not) (.t 16)), none⟩])
    (.cond (.t 17) (.seq (.region [⟨(some 4), (.move (.c (.bool false))), none⟩])
      (.ret))
     (.skip)))
   (.seq (.seq (.region [⟨(some 18), (.fieldAddr 2 (.t 2)), none⟩,
       ⟨(some 19), (.load false 1 (.t 18)), none⟩,
       ⟨(some 20), (.move (.t 1)), none⟩,
       ⟨(some 21), (.lookup (.one (.int)) (.nilSlice) false (.t 19) (.t 20)), none⟩,
       ⟨(some 22), (.len (.slice) (.t 21)), none⟩,
       ⟨(some 23), (.move (.c (.int (.i64) 0))), none⟩])
     (.block 0 (.loop (.seq (.region [⟨(some 24), (.bin (.lss) (.t 23) (.t 22)), none⟩])
        (.seq (.cond (.t 24) (.skip)
          (.exit 0))
         (.seq (.block 1 (.seq (.region [⟨(some 25), (.move (.t 23)), none⟩,
              ⟨(some 26), (.indexAddr 1 (.t 21) (.t 23)), none⟩,
              ⟨(some 27), (.load false 1 (.t 26)), none⟩,
              ⟨(some 7), (.move (.t 25)), none⟩,
              ⟨(some 8), (.move (.t 27)), none⟩])
            (.seq (.draw [⟨8, ⟨(some 36), (.move (.t 7)), none⟩, (.quiet [0])⟩,
               ⟨6, ⟨(some 34), (.fieldAddr 0 (.t 2)), none⟩, (.quiet [0])⟩,
               ⟨7, ⟨(some 35), (.load false 1 (.t 34)), none⟩, (.quiet [0])⟩,
               ⟨9, ⟨(some 37), (.indexAddr 1 (.t 35) (.t 36)), none⟩, (.quiet [0])⟩,
               ⟨10, ⟨(some 38), (.load false 1 (.t 37)), none⟩, (.quiet [0])⟩,
               ⟨2, ⟨(some 30), (.move (.t 7)), none⟩, (.quiet [0])⟩,
               ⟨1, ⟨(some 29), (.move (.t 5)), none⟩, (.quiet [0])⟩,
               ⟨3, ⟨(some 31), (.indexAddr 1 (.t 29) (.t 30)), none⟩, (.quiet [0])⟩,
               ⟨4, ⟨(some 32), (.load false 1 (.t 31)), none⟩, (.quiet [0])⟩,
               ⟨0, ⟨(some 28), (.move (.t 8)), none⟩, (.quiet [0])⟩,
               ⟨5, ⟨(some 33), (.bin (.sub) (.t 28) (.t 32)), none⟩, (.quiet [0])⟩,
               ⟨11, ⟨(some 39), (.bin (.gtr) (.t 33) (.t 38)), none⟩, (.quiet [0])⟩] 0)
             (.cond (.t 39) (.seq (.region [⟨(some 4), (.move (.c (.bool false))), none⟩])
               (.ret))
              (.skip)))))
          (.region [⟨(some 40), (.bin (.add) (.t 23) (.c (.int (.i64) 1))), none⟩,
            ⟨(some 23), (.move (.t 40)), none⟩])))))))
    (.seq (.region [⟨(some 4), (.move (.c (.bool true))), none⟩])
     (.ret)))))⟩
theorem ok61 : compFunc prog glb 61 p61 = some c61 := by kernel_rfl
/-- (signalbox/bank.state).complete -/
def p62 : List Plan := []
def c62 : CFunc := ⟨28, [],
 .seq (.region [⟨(some 2), (.box (.t 0)), none⟩])
 (.seq (.seq (.region [⟨(some 6), (.fieldAddr 1 (.t 2)), none⟩,
     ⟨(some 7), (.load false 1 (.t 6)), none⟩,
     ⟨(some 8), (.move (.t 1)), none⟩,
     ⟨(some 9), (.lookup (.one (.int)) (.nilSlice) false (.t 7) (.t 8)), none⟩,
     ⟨(some 10), (.len (.slice) (.t 9)), none⟩,
     ⟨(some 11), (.move (.c (.int (.i64) 0))), none⟩])
   (.block 0 (.loop (.seq (.region [⟨(some 12), (.bin (.lss) (.t 11) (.t 10)), none⟩])
      (.seq (.cond (.t 12) (.skip)
        (.exit 0))
       (.seq (.block 1 (.seq (.region [⟨(some 13), (.move (.t 11)), none⟩,
            ⟨(some 14), (.indexAddr 1 (.t 9) (.t 11)), none⟩,
            ⟨(some 15), (.load false 1 (.t 14)), none⟩,
            ⟨(some 4), (.move (.t 13)), none⟩,
            ⟨(some 5), (.move (.t 15)), none⟩])
          (.region [⟨(some 16), (.fieldAddr 0 (.t 2)), none⟩,
            ⟨(some 17), (.load false 1 (.t 16)), none⟩,
            ⟨(some 18), (.move (.t 4)), none⟩,
            ⟨(some 19), (.indexAddr 1 (.t 17) (.t 18)), none⟩,
            ⟨(some 20), (.load false 1 (.t 19)), none⟩,
            ⟨(some 21), (.move (.t 5)), none⟩,
            ⟨(some 22), (.bin (.add) (.t 20) (.t 21)), none⟩,
            ⟨(some 23), (.indexAddr 1 (.t 17) (.t 18)), none⟩,
            ⟨none, (.store 1 (.t 23) (.t 22)), none⟩])))
        (.region [⟨(some 24), (.bin (.add) (.t 11) (.c (.int (.i64) 1))), none⟩,
          ⟨(some 11), (.move (.t 24)), none⟩])))))))
  (.region [⟨(some 25), (.fieldAddr 1 (.t 2)), none⟩,
    ⟨(some 26), (.load false 1 (.t 25)), none⟩,
    ⟨(some 27), (.move (.t 1)), none⟩,
    ⟨none, (.delete (.one (.int)) (.t 26) (.t 27)), none⟩]))⟩
theorem ok62 : compFunc prog glb 62 p62 = some c62 := by kernel_rfl
/-- (*sync.Mutex).Lock -/
def p64 : List Plan := []
def c64 : CFunc := ⟨6, [],
 .region [⟨(some 2), (.move (.t 0)), none⟩,
  ⟨(some 3), (.nilCheck (.t 2)), none⟩,
  ⟨(some 4), (.fieldAddr 0 (.t 3)), none⟩,
  ⟨(some 5), (.call (.c (.func 78 [] [])) [.t 4]), none⟩]⟩
theorem ok64 : compFunc prog glb 64 p64 = some c64 := by kernel_rfl
/-- (*sync.Mutex).Unlock -/
def p65 : List Plan := []
def c65 : CFunc := ⟨6, [],
 .region [⟨(some 2), (.move (.t 0)), none⟩,
  ⟨(some 3), (.nilCheck (.t 2)), none⟩,
  ⟨(some 4), (.fieldAddr 0 (.t 3)), none⟩,
  ⟨(some 5), (.call (.c (.func 79 [] [])) [.t 4]), none⟩]⟩
theorem ok65 : compFunc prog glb 65 p65 = some c65 := by kernel_rfl
/-- (*sync/atomic.Bool).Store -/
def p66 : List Plan := [⟨[(3, .quiet [0]), (4, .eff), (0, .quiet [0, 2]), (1, .quiet [0, 2]), (2, .quiet [0, 2]), (5, .eff)], 0, [0, 1, 3, 0, 8, 31]⟩]
def c66 : CFunc := ⟨10, [],
 .draw [⟨3, ⟨(some 7), (.move (.t 1)), none⟩, (.quiet [0])⟩,
  ⟨4, ⟨(some 8), (.call (.c (.func 81 [] [])) [.t 7]), none⟩, (.eff)⟩,
  ⟨0, ⟨(some 4), (.move (.t 0)), none⟩, (.quiet [0, 2])⟩,
  ⟨1, ⟨(some 5), (.nilCheck (.t 4)), none⟩, (.quiet [0, 2])⟩,
  ⟨2, ⟨(some 6), (.fieldAddr 0 (.t 5)), none⟩, (.quiet [0, 2])⟩,
  ⟨5, ⟨(some 9), (.ext (Ext.atomicStore (.u32)) [.t 6, .t 8]), none⟩, (.eff)⟩] 0⟩
theorem ok66 : compFunc prog glb 66 p66 = some c66 := by kernel_rfl
/-- (*internal/sync.Mutex).Lock -/
def p78 : List Plan := []
def c78 : CFunc := ⟨13, [],
 .seq (.region [⟨(some 2), (.ext (Ext.mark0) []), none⟩])
 (.seq (.seq (.region [⟨(some 3), (.move (.t 0)), none⟩,
     ⟨(some 4), (.nilCheck (.t 3)), none⟩,
     ⟨(some 5), (.fieldAddr 0 (.t 4)), none⟩,
     ⟨(some 6), (.ext (Ext.atomicCas (.i32)) [.t 5, .c (.int (.i32) 0), .c (.int (.i32) 1)]), none⟩])
   (.cond (.t 6) (.seq (.cond (.c (.bool true)) (.seq (.region [⟨(some 7), (.ext (Ext.mark0) []), none⟩])
       (.region [⟨(some 8), (.move (.t 0)), none⟩,
         ⟨(some 9), (.ext (Ext.uptr) [.t 8]), none⟩,
         ⟨(some 10), (.ext (Ext.mark1) [.t 9]), none⟩]))
      (.skip))
     (.ret))
    (.skip)))
  (.region [⟨(some 11), (.move (.t 0)), none⟩,
    ⟨(some 12), (.call (.c (.func 92 [] [])) [.t 11]), none⟩]))⟩
theorem ok78 : compFunc prog glb 78 p78 = some c78 := by kernel_rfl
/-- (*internal/sync.Mutex).Unlock -/
def p79 : List Plan := []
def c79 : CFunc := ⟨21, [],
 .seq (.cond (.c (.bool true)) (.seq (.region [⟨(some 3), (.move (.t 0)), none⟩,
     ⟨(some 4), (.nilCheck (.t 3)), none⟩,
     ⟨(some 5), (.fieldAddr 0 (.t 4)), none⟩,
     ⟨(some 6), (.load false 1 (.t 5)), none⟩])
   (.seq (.region [⟨(some 7), (.move (.t 0)), none⟩,
      ⟨(some 8), (.ext (Ext.uptr) [.t 7]), none⟩,
      ⟨(some 9), (.ext (Ext.mark1) [.t 8]), none⟩])
    (.region [⟨(some 10), (.ext (Ext.mark0) []), none⟩])))
  (.skip))
 (.seq (.region [⟨(some 11), (.move (.t 0)), none⟩,
    ⟨(some 12), (.nilCheck (.t 11)), none⟩,
    ⟨(some 13), (.fieldAddr 0 (.t 12)), none⟩,
    ⟨(some 14), (.ext (Ext.atomicAdd (.i32)) [.t 13, .c (.int (.i32) (-1))]), none⟩,
    ⟨(some 2), (.move (.t 14)), none⟩])
  (.seq (.seq (.region [⟨(some 15), (.move (.t 2)), none⟩,
      ⟨(some 16), (.bin (.neq) (.t 15) (.c (.int (.i32) 0))), none⟩])
    (.cond (.t 16) (.region [⟨(some 17), (.move (.t 0)), none⟩,
       ⟨(some 18), (.move (.t 2)), none⟩,
       ⟨(some 19), (.call (.c (.func 95 [] [])) [.t 17, .t 18]), none⟩])
     (.skip)))
   (.region [⟨(some 20), (.ext (Ext.mark0) []), none⟩])))⟩
theorem ok79 : compFunc prog glb 79 p79 = some c79 := by kernel_rfl
/-- sync/atomic.b32 -/
def p81 : List Plan := []
def c81 : CFunc := ⟨4, [.tmp 2],
 .seq (.region [⟨(some 2), (.move (.c (.int (.u32) 0))), none⟩])
 (.seq (.seq (.region [⟨(some 3), (.move (.t 0)), none⟩])
   (.cond (.t 3) (.seq (.region [⟨(some 2), (.move (.c (.int (.u32) 1))), none⟩])
     (.ret))
    (.skip)))
  (.seq (.region [⟨(some 2), (.move (.c (.int (.u32) 0))), none⟩])
   (.ret)))⟩
theorem ok81 : compFunc prog glb 81 p81 = some c81 := by kernel_rfl
end Go.Proofs.Ytncmoaggkdlkhaa.Cm
