/-
  The functions that this seat's laws reach, each as a clean function, and that it is the program's.
-/
import Derived.Test.YthcmiceheohpjaaCmXS
import Derived.Test.YthcmiceheohpjaaProg
import Derived.KernelRfl
namespace Go.Proofs.Ythcmiceheohpjaa.Cm
noncomputable abbrev prog := Go.Proofs.Try.prog
abbrev glb : Nat := 0
theorem mixed : prog.follows .mixedOrders = true := by kernel_rfl

/-- signalbox/signalboxlaw3.SegsApart -/
def p3 : List Plan := []
def c3 : CFunc := ⟨103, [CRV.tmp 6],
 .seq (.region [⟨(some 6), (COp.move (CX.c (CVal.bool false))), none⟩])
 (.seq (.seq (.region [⟨(some 15), (COp.move (CX.t 0)), none⟩,
     ⟨(some 16), (COp.bin (Go.BinOp.lss) (CX.t 15) (CX.c (CVal.int (Go.IntKind.i64) 0))), none⟩,
     ⟨(some 17), (COp.move (CX.t 16)), none⟩,
     ⟨(some 18), (COp.move (CX.t 1)), (some (17, false))⟩,
     ⟨(some 19), (COp.move (CX.t 0)), (some (17, false))⟩,
     ⟨(some 20), (COp.bin (Go.BinOp.lss) (CX.t 18) (CX.t 19)), (some (17, false))⟩,
     ⟨(some 21), (COp.pick (CX.t 17) (CX.c (CVal.bool true)) (CX.t 20)), none⟩,
     ⟨(some 22), (COp.move (CX.t 21)), none⟩,
     ⟨(some 23), (COp.move (CX.t 1)), (some (22, false))⟩,
     ⟨(some 24), (COp.bin (Go.BinOp.gtr) (CX.t 23) (CX.c (CVal.int (Go.IntKind.i64) 2000))), (some (22, false))⟩,
     ⟨(some 25), (COp.pick (CX.t 22) (CX.c (CVal.bool true)) (CX.t 24)), none⟩,
     ⟨(some 26), (COp.move (CX.t 25)), none⟩,
     ⟨(some 27), (COp.move (CX.t 2)), (some (26, false))⟩,
     ⟨(some 28), (COp.bin (Go.BinOp.lss) (CX.t 27) (CX.c (CVal.int (Go.IntKind.i64) 1))), (some (26, false))⟩,
     ⟨(some 29), (COp.pick (CX.t 26) (CX.c (CVal.bool true)) (CX.t 28)), none⟩,
     ⟨(some 30), (COp.move (CX.t 29)), none⟩,
     ⟨(some 31), (COp.move (CX.t 2)), (some (30, false))⟩,
     ⟨(some 32), (COp.bin (Go.BinOp.gtr) (CX.t 31) (CX.c (CVal.int (Go.IntKind.i64) 2000))), (some (30, false))⟩,
     ⟨(some 33), (COp.pick (CX.t 30) (CX.c (CVal.bool true)) (CX.t 32)), none⟩])
   (.cond (CX.t 33) (.seq (.region [⟨(some 34), (COp.call (CX.c (CVal.func 8 [] [])) []), none⟩,
       ⟨(some 6), (COp.move (CX.t 34)), none⟩])
     (.ret))
    (.skip)))
  (.seq (.region [⟨(some 36), (COp.move (CX.t 0)), none⟩,
     ⟨(some 37), (COp.move (CX.t 1)), none⟩,
     ⟨(some 38), (COp.move (CX.t 2)), none⟩,
     ⟨(some 39), (COp.call (CX.c (CVal.func 9 [] [])) [CX.t 36, CX.t 37, CX.t 38]), none⟩,
     ⟨(some 35), (COp.move (CX.t 39)), none⟩,
     ⟨(some 40), (COp.extract (CX.t 35) 0), none⟩,
     ⟨(some 41), (COp.extract (CX.t 35) 1), none⟩,
     ⟨(some 7), (COp.move (CX.t 40)), none⟩,
     ⟨(some 8), (COp.move (CX.t 41)), none⟩])
   (.seq (.seq (.region [⟨(some 42), (COp.move (CX.t 8)), none⟩,
       ⟨(some 43), (COp.bin (Go.BinOp.neq) (CX.t 42) (CX.c (CVal.int (Go.IntKind.i64) 0))), none⟩])
     (.cond (CX.t 43) (.seq (.region [⟨(some 6), (COp.move (CX.c (CVal.bool false))), none⟩])
       (.ret))
      (.skip)))
    (.seq (.region [⟨(some 44), (COp.move (CX.t 1)), none⟩,
       ⟨(some 45), (COp.move (CX.t 0)), none⟩,
       ⟨(some 46), (COp.bin (Go.BinOp.sub) (CX.t 44) (CX.t 45)), none⟩,
       ⟨(some 47), (COp.move (CX.t 2)), none⟩,
       ⟨(some 48), (COp.bin (Go.BinOp.quo) (CX.t 46) (CX.t 47)), none⟩,
       ⟨(some 9), (COp.move (CX.t 48)), none⟩])
     (.seq (.seq (.region [⟨(some 10), (COp.move (CX.c (CVal.int (Go.IntKind.i64) 0))), none⟩])
       (.block 0 (.loop (.seq (.seq (.region [⟨(some 49), (COp.move (CX.t 10)), none⟩,
             ⟨(some 50), (COp.move (CX.t 9)), none⟩,
             ⟨(some 51), (COp.bin (Go.BinOp.lss) (CX.t 49) (CX.t 50)), none⟩])
           (.cond (CX.t 51) (.skip)
            (.exit 0)))
          (.seq (.block 1 (.seq (.region [⟨(some 55), (COp.move (CX.t 7)), none⟩,
               ⟨(some 56), (COp.call (CX.c (CVal.func 10 [] [])) [CX.t 55]), none⟩,
               ⟨(some 54), (COp.move (CX.t 56)), none⟩,
               ⟨(some 57), (COp.extract (CX.t 54) 0), none⟩,
               ⟨(some 58), (COp.extract (CX.t 54) 1), none⟩,
               ⟨(some 11), (COp.move (CX.t 57)), none⟩,
               ⟨(some 12), (COp.move (CX.t 58)), none⟩])
             (.seq (.region [⟨(some 59), (COp.move (CX.t 12)), none⟩,
                ⟨(some 60), (COp.un (Go.UnOp.not) (CX.t 59)), none⟩,
                ⟨(some 61), (COp.move (CX.t 60)), none⟩,
                ⟨(some 62), (COp.move (CX.t 11)), (some (61, false))⟩,
                ⟨(some 63), (COp.move (CX.t 0)), (some (61, false))⟩,
                ⟨(some 64), (COp.move (CX.t 10)), (some (61, false))⟩,
                ⟨(some 65), (COp.move (CX.t 2)), (some (61, false))⟩,
                ⟨(some 66), (COp.bin (Go.BinOp.mul) (CX.t 64) (CX.t 65)), (some (61, false))⟩,
                ⟨(some 67), (COp.bin (Go.BinOp.add) (CX.t 63) (CX.t 66)), (some (61, false))⟩,
                ⟨(some 68), (COp.bin (Go.BinOp.neq) (CX.t 62) (CX.t 67)), (some (61, false))⟩,
                ⟨(some 69), (COp.pick (CX.t 61) (CX.c (CVal.bool true)) (CX.t 68)), none⟩,
                ⟨(some 70), (COp.move (CX.t 69)), none⟩,
                ⟨(some 71), (COp.move (CX.t 11)), (some (70, false))⟩,
                ⟨(some 72), (COp.move (CX.t 2)), (some (70, false))⟩,
                ⟨(some 73), (COp.bin (Go.BinOp.add) (CX.t 71) (CX.t 72)), (some (70, false))⟩,
                ⟨(some 74), (COp.move (CX.t 1)), (some (70, false))⟩,
                ⟨(some 75), (COp.bin (Go.BinOp.gtr) (CX.t 73) (CX.t 74)), (some (70, false))⟩,
                ⟨(some 76), (COp.pick (CX.t 70) (CX.c (CVal.bool true)) (CX.t 75)), none⟩,
                ⟨(some 77), (COp.move (CX.t 76)), none⟩,
                ⟨(some 78), (COp.move (CX.t 7)), (some (77, false))⟩,
                ⟨(some 79), (COp.call (CX.c (CVal.func 11 [] [])) [CX.t 78]), (some (77, false))⟩,
                ⟨(some 80), (COp.move (CX.t 9)), (some (77, false))⟩,
                ⟨(some 81), (COp.move (CX.t 10)), (some (77, false))⟩,
                ⟨(some 82), (COp.bin (Go.BinOp.sub) (CX.t 80) (CX.t 81)), (some (77, false))⟩,
                ⟨(some 83), (COp.bin (Go.BinOp.sub) (CX.t 82) (CX.c (CVal.int (Go.IntKind.i64) 1))), (some (77, false))⟩,
                ⟨(some 84), (COp.bin (Go.BinOp.neq) (CX.t 79) (CX.t 83)), (some (77, false))⟩,
                ⟨(some 85), (COp.pick (CX.t 77) (CX.c (CVal.bool true)) (CX.t 84)), none⟩])
              (.cond (CX.t 85) (.seq (.region [⟨(some 6), (COp.move (CX.c (CVal.bool false))), none⟩])
                (.ret))
               (.skip)))))
           (.region [⟨(some 52), (COp.move (CX.t 10)), none⟩,
             ⟨(some 53), (COp.bin (Go.BinOp.add) (CX.t 52) (CX.c (CVal.int (Go.IntKind.i64) 1))), none⟩,
             ⟨(some 10), (COp.move (CX.t 53)), none⟩]))))))
      (.seq (.region [⟨(some 87), (COp.move (CX.t 7)), none⟩,
         ⟨(some 88), (COp.call (CX.c (CVal.func 10 [] [])) [CX.t 87]), none⟩,
         ⟨(some 86), (COp.move (CX.t 88)), none⟩,
         ⟨(some 89), (COp.extract (CX.t 86) 0), none⟩,
         ⟨(some 90), (COp.extract (CX.t 86) 1), none⟩,
         ⟨(some 13), (COp.move (CX.t 89)), none⟩,
         ⟨(some 14), (COp.move (CX.t 90)), none⟩])
       (.seq (.region [⟨(some 91), (COp.move (CX.t 14)), none⟩,
          ⟨(some 92), (COp.un (Go.UnOp.not) (CX.t 91)), none⟩,
          ⟨(some 93), (COp.move (CX.t 92)), none⟩,
          ⟨(some 94), (COp.move (CX.t 7)), (some (93, true))⟩,
          ⟨(some 95), (COp.call (CX.c (CVal.func 12 [] [])) [CX.t 94]), (some (93, true))⟩,
          ⟨(some 96), (COp.len (LK.slice) (CX.t 95)), (some (93, true))⟩,
          ⟨(some 97), (COp.move (CX.t 9)), (some (93, true))⟩,
          ⟨(some 98), (COp.bin (Go.BinOp.eql) (CX.t 96) (CX.t 97)), (some (93, true))⟩,
          ⟨(some 99), (COp.pick (CX.t 93) (CX.t 98) (CX.c (CVal.bool false))), none⟩,
          ⟨(some 100), (COp.move (CX.t 99)), none⟩,
          ⟨(some 101), (COp.call (CX.c (CVal.func 8 [] [])) []), (some (100, true))⟩,
          ⟨(some 102), (COp.pick (CX.t 100) (CX.t 101) (CX.c (CVal.bool false))), none⟩,
          ⟨(some 6), (COp.move (CX.t 102)), none⟩])
        (.ret))))))))⟩
theorem ok3 : compFunc prog glb 3 p3 = some c3 := by kernel_rfl
/-- signalbox/signalboxlaw3.SegsAgain -/
def p4 : List Plan := []
def c4 : CFunc := ⟨135, [CRV.tmp 6],
 .seq (.region [⟨(some 6), (COp.move (CX.c (CVal.bool false))), none⟩])
 (.seq (.seq (.region [⟨(some 18), (COp.move (CX.t 0)), none⟩,
     ⟨(some 19), (COp.bin (Go.BinOp.lss) (CX.t 18) (CX.c (CVal.int (Go.IntKind.i64) 2))), none⟩,
     ⟨(some 20), (COp.move (CX.t 19)), none⟩,
     ⟨(some 21), (COp.move (CX.t 0)), (some (20, false))⟩,
     ⟨(some 22), (COp.bin (Go.BinOp.gtr) (CX.t 21) (CX.c (CVal.int (Go.IntKind.i64) 100))), (some (20, false))⟩,
     ⟨(some 23), (COp.pick (CX.t 20) (CX.c (CVal.bool true)) (CX.t 22)), none⟩,
     ⟨(some 24), (COp.move (CX.t 23)), none⟩,
     ⟨(some 25), (COp.move (CX.t 1)), (some (24, false))⟩,
     ⟨(some 26), (COp.bin (Go.BinOp.lss) (CX.t 25) (CX.c (CVal.int (Go.IntKind.i64) 0))), (some (24, false))⟩,
     ⟨(some 27), (COp.pick (CX.t 24) (CX.c (CVal.bool true)) (CX.t 26)), none⟩,
     ⟨(some 28), (COp.move (CX.t 27)), none⟩,
     ⟨(some 29), (COp.move (CX.t 2)), (some (28, false))⟩,
     ⟨(some 30), (COp.bin (Go.BinOp.lss) (CX.t 29) (CX.c (CVal.int (Go.IntKind.i64) 0))), (some (28, false))⟩,
     ⟨(some 31), (COp.pick (CX.t 28) (CX.c (CVal.bool true)) (CX.t 30)), none⟩,
     ⟨(some 32), (COp.move (CX.t 31)), none⟩,
     ⟨(some 33), (COp.move (CX.t 1)), (some (32, false))⟩,
     ⟨(some 34), (COp.move (CX.t 0)), (some (32, false))⟩,
     ⟨(some 35), (COp.bin (Go.BinOp.geq) (CX.t 33) (CX.t 34)), (some (32, false))⟩,
     ⟨(some 36), (COp.pick (CX.t 32) (CX.c (CVal.bool true)) (CX.t 35)), none⟩,
     ⟨(some 37), (COp.move (CX.t 36)), none⟩,
     ⟨(some 38), (COp.move (CX.t 2)), (some (37, false))⟩,
     ⟨(some 39), (COp.move (CX.t 0)), (some (37, false))⟩,
     ⟨(some 40), (COp.bin (Go.BinOp.geq) (CX.t 38) (CX.t 39)), (some (37, false))⟩,
     ⟨(some 41), (COp.pick (CX.t 37) (CX.c (CVal.bool true)) (CX.t 40)), none⟩,
     ⟨(some 42), (COp.move (CX.t 41)), none⟩,
     ⟨(some 43), (COp.move (CX.t 1)), (some (42, false))⟩,
     ⟨(some 44), (COp.move (CX.t 2)), (some (42, false))⟩,
     ⟨(some 45), (COp.bin (Go.BinOp.eql) (CX.t 43) (CX.t 44)), (some (42, false))⟩,
     ⟨(some 46), (COp.pick (CX.t 42) (CX.c (CVal.bool true)) (CX.t 45)), none⟩])
   (.cond (CX.t 46) (.seq (.region [⟨(some 47), (COp.call (CX.c (CVal.func 8 [] [])) []), none⟩,
       ⟨(some 6), (COp.move (CX.t 47)), none⟩])
     (.ret))
    (.skip)))
  (.seq (.region [⟨(some 49), (COp.move (CX.t 0)), none⟩,
     ⟨(some 50), (COp.bin (Go.BinOp.mul) (CX.t 49) (CX.c (CVal.int (Go.IntKind.i64) 5))), none⟩,
     ⟨(some 51), (COp.call (CX.c (CVal.func 9 [] [])) [CX.c (CVal.int (Go.IntKind.i64) 0), CX.t 50, CX.c (CVal.int (Go.IntKind.i64) 5)]), none⟩,
     ⟨(some 48), (COp.move (CX.t 51)), none⟩,
     ⟨(some 52), (COp.extract (CX.t 48) 0), none⟩,
     ⟨(some 53), (COp.extract (CX.t 48) 1), none⟩,
     ⟨(some 7), (COp.move (CX.t 52)), none⟩,
     ⟨(some 8), (COp.move (CX.t 53)), none⟩])
   (.seq (.seq (.region [⟨(some 54), (COp.move (CX.t 8)), none⟩,
       ⟨(some 55), (COp.bin (Go.BinOp.neq) (CX.t 54) (CX.c (CVal.int (Go.IntKind.i64) 0))), none⟩])
     (.cond (CX.t 55) (.seq (.region [⟨(some 6), (COp.move (CX.c (CVal.bool false))), none⟩])
       (.ret))
      (.skip)))
    (.seq (.seq (.region [⟨(some 9), (COp.move (CX.c (CVal.int (Go.IntKind.i64) 0))), none⟩])
      (.block 0 (.loop (.seq (.seq (.region [⟨(some 56), (COp.move (CX.t 9)), none⟩,
            ⟨(some 57), (COp.move (CX.t 0)), none⟩,
            ⟨(some 58), (COp.bin (Go.BinOp.lss) (CX.t 56) (CX.t 57)), none⟩])
          (.cond (CX.t 58) (.skip)
           (.exit 0)))
         (.seq (.block 1 (.seq (.region [⟨(some 62), (COp.move (CX.t 7)), none⟩,
              ⟨(some 63), (COp.call (CX.c (CVal.func 10 [] [])) [CX.t 62]), none⟩,
              ⟨(some 61), (COp.move (CX.t 63)), none⟩,
              ⟨(some 64), (COp.extract (CX.t 61) 0), none⟩,
              ⟨(some 65), (COp.extract (CX.t 61) 1), none⟩,
              ⟨(some 10), (COp.move (CX.t 64)), none⟩,
              ⟨(some 11), (COp.move (CX.t 65)), none⟩])
            (.seq (.region [⟨(some 66), (COp.move (CX.t 11)), none⟩,
               ⟨(some 67), (COp.un (Go.UnOp.not) (CX.t 66)), none⟩])
             (.cond (CX.t 67) (.seq (.region [⟨(some 6), (COp.move (CX.c (CVal.bool false))), none⟩])
               (.ret))
              (.skip)))))
          (.region [⟨(some 59), (COp.move (CX.t 9)), none⟩,
            ⟨(some 60), (COp.bin (Go.BinOp.add) (CX.t 59) (CX.c (CVal.int (Go.IntKind.i64) 1))), none⟩,
            ⟨(some 9), (COp.move (CX.t 60)), none⟩]))))))
     (.seq (.seq (.region [⟨(some 68), (COp.move (CX.t 7)), none⟩,
         ⟨(some 69), (COp.move (CX.t 1)), none⟩,
         ⟨(some 70), (COp.bin (Go.BinOp.mul) (CX.t 69) (CX.c (CVal.int (Go.IntKind.i64) 5))), none⟩,
         ⟨(some 71), (COp.call (CX.c (CVal.func 13 [] [])) [CX.t 68, CX.t 70]), none⟩,
         ⟨(some 72), (COp.un (Go.UnOp.not) (CX.t 71)), none⟩,
         ⟨(some 73), (COp.move (CX.t 72)), none⟩,
         ⟨(some 74), (COp.move (CX.t 7)), (some (73, false))⟩,
         ⟨(some 75), (COp.move (CX.t 2)), (some (73, false))⟩,
         ⟨(some 76), (COp.bin (Go.BinOp.mul) (CX.t 75) (CX.c (CVal.int (Go.IntKind.i64) 5))), (some (73, false))⟩,
         ⟨(some 77), (COp.call (CX.c (CVal.func 13 [] [])) [CX.t 74, CX.t 76]), (some (73, false))⟩,
         ⟨(some 78), (COp.un (Go.UnOp.not) (CX.t 77)), (some (73, false))⟩,
         ⟨(some 79), (COp.pick (CX.t 73) (CX.c (CVal.bool true)) (CX.t 78)), none⟩,
         ⟨(some 80), (COp.move (CX.t 79)), none⟩,
         ⟨(some 81), (COp.move (CX.t 7)), (some (80, false))⟩,
         ⟨(some 82), (COp.move (CX.t 1)), (some (80, false))⟩,
         ⟨(some 83), (COp.bin (Go.BinOp.mul) (CX.t 82) (CX.c (CVal.int (Go.IntKind.i64) 5))), (some (80, false))⟩,
         ⟨(some 84), (COp.call (CX.c (CVal.func 13 [] [])) [CX.t 81, CX.t 83]), (some (80, false))⟩,
         ⟨(some 85), (COp.pick (CX.t 80) (CX.c (CVal.bool true)) (CX.t 84)), none⟩,
         ⟨(some 86), (COp.move (CX.t 85)), none⟩,
         ⟨(some 87), (COp.move (CX.t 7)), (some (86, false))⟩,
         ⟨(some 88), (COp.move (CX.t 1)), (some (86, false))⟩,
         ⟨(some 89), (COp.bin (Go.BinOp.mul) (CX.t 88) (CX.c (CVal.int (Go.IntKind.i64) 5))), (some (86, false))⟩,
         ⟨(some 90), (COp.bin (Go.BinOp.add) (CX.t 89) (CX.c (CVal.int (Go.IntKind.i64) 1))), (some (86, false))⟩,
         ⟨(some 91), (COp.call (CX.c (CVal.func 13 [] [])) [CX.t 87, CX.t 90]), (some (86, false))⟩,
         ⟨(some 92), (COp.pick (CX.t 86) (CX.c (CVal.bool true)) (CX.t 91)), none⟩])
       (.cond (CX.t 92) (.seq (.region [⟨(some 6), (COp.move (CX.c (CVal.bool false))), none⟩])
         (.ret))
        (.skip)))
      (.seq (.region [⟨(some 94), (COp.move (CX.t 7)), none⟩,
         ⟨(some 95), (COp.call (CX.c (CVal.func 10 [] [])) [CX.t 94]), none⟩,
         ⟨(some 93), (COp.move (CX.t 95)), none⟩,
         ⟨(some 96), (COp.extract (CX.t 93) 0), none⟩,
         ⟨(some 97), (COp.extract (CX.t 93) 1), none⟩,
         ⟨(some 12), (COp.move (CX.t 96)), none⟩,
         ⟨(some 13), (COp.move (CX.t 97)), none⟩])
       (.seq (.region [⟨(some 99), (COp.move (CX.t 7)), none⟩,
          ⟨(some 100), (COp.call (CX.c (CVal.func 10 [] [])) [CX.t 99]), none⟩,
          ⟨(some 98), (COp.move (CX.t 100)), none⟩,
          ⟨(some 101), (COp.extract (CX.t 98) 0), none⟩,
          ⟨(some 102), (COp.extract (CX.t 98) 1), none⟩,
          ⟨(some 14), (COp.move (CX.t 101)), none⟩,
          ⟨(some 15), (COp.move (CX.t 102)), none⟩])
        (.seq (.region [⟨(some 104), (COp.move (CX.t 7)), none⟩,
           ⟨(some 105), (COp.call (CX.c (CVal.func 10 [] [])) [CX.t 104]), none⟩,
           ⟨(some 103), (COp.move (CX.t 105)), none⟩,
           ⟨(some 106), (COp.extract (CX.t 103) 0), none⟩,
           ⟨(some 107), (COp.extract (CX.t 103) 1), none⟩,
           ⟨(some 16), (COp.move (CX.t 106)), none⟩,
           ⟨(some 17), (COp.move (CX.t 107)), none⟩])
         (.seq (.region [⟨(some 108), (COp.move (CX.t 13)), none⟩,
            ⟨(some 109), (COp.move (CX.t 108)), none⟩,
            ⟨(some 110), (COp.move (CX.t 15)), (some (109, true))⟩,
            ⟨(some 111), (COp.pick (CX.t 109) (CX.t 110) (CX.c (CVal.bool false))), none⟩,
            ⟨(some 112), (COp.move (CX.t 111)), none⟩,
            ⟨(some 113), (COp.move (CX.t 17)), (some (112, true))⟩,
            ⟨(some 114), (COp.un (Go.UnOp.not) (CX.t 113)), (some (112, true))⟩,
            ⟨(some 115), (COp.pick (CX.t 112) (CX.t 114) (CX.c (CVal.bool false))), none⟩,
            ⟨(some 116), (COp.move (CX.t 115)), none⟩,
            ⟨(some 117), (COp.move (CX.t 12)), (some (116, true))⟩,
            ⟨(some 118), (COp.move (CX.t 1)), (some (116, true))⟩,
            ⟨(some 119), (COp.move (CX.t 2)), (some (116, true))⟩,
            ⟨(some 120), (COp.maxmin false (CX.t 118) [CX.t 119]), (some (116, true))⟩,
            ⟨(some 121), (COp.bin (Go.BinOp.mul) (CX.t 120) (CX.c (CVal.int (Go.IntKind.i64) 5))), (some (116, true))⟩,
            ⟨(some 122), (COp.bin (Go.BinOp.eql) (CX.t 117) (CX.t 121)), (some (116, true))⟩,
            ⟨(some 123), (COp.pick (CX.t 116) (CX.t 122) (CX.c (CVal.bool false))), none⟩,
            ⟨(some 124), (COp.move (CX.t 123)), none⟩,
            ⟨(some 125), (COp.move (CX.t 14)), (some (124, true))⟩,
            ⟨(some 126), (COp.move (CX.t 1)), (some (124, true))⟩,
            ⟨(some 127), (COp.move (CX.t 2)), (some (124, true))⟩,
            ⟨(some 128), (COp.maxmin true (CX.t 126) [CX.t 127]), (some (124, true))⟩,
            ⟨(some 129), (COp.bin (Go.BinOp.mul) (CX.t 128) (CX.c (CVal.int (Go.IntKind.i64) 5))), (some (124, true))⟩,
            ⟨(some 130), (COp.bin (Go.BinOp.eql) (CX.t 125) (CX.t 129)), (some (124, true))⟩,
            ⟨(some 131), (COp.pick (CX.t 124) (CX.t 130) (CX.c (CVal.bool false))), none⟩,
            ⟨(some 132), (COp.move (CX.t 131)), none⟩,
            ⟨(some 133), (COp.call (CX.c (CVal.func 8 [] [])) []), (some (132, true))⟩,
            ⟨(some 134), (COp.pick (CX.t 132) (CX.t 133) (CX.c (CVal.bool false))), none⟩,
            ⟨(some 6), (COp.move (CX.t 134)), none⟩])
          (.ret))))))))))⟩
theorem ok4 : compFunc prog glb 4 p4 = some c4 := by kernel_rfl
/-- signalbox/signalboxlaw3.SegsNothing -/
def p5 : List Plan := []
def c5 : CFunc := ⟨77, [CRV.tmp 6],
 .seq (.region [⟨(some 6), (COp.move (CX.c (CVal.bool false))), none⟩])
 (.seq (.region [⟨(some 7), (COp.move (CX.c (CVal.nilPtr))), none⟩])
  (.seq (.region [⟨(some 14), (COp.move (CX.t 7)), none⟩,
     ⟨(some 15), (COp.call (CX.c (CVal.func 10 [] [])) [CX.t 14]), none⟩,
     ⟨(some 13), (COp.move (CX.t 15)), none⟩,
     ⟨(some 16), (COp.extract (CX.t 13) 0), none⟩,
     ⟨(some 17), (COp.extract (CX.t 13) 1), none⟩,
     ⟨(some 8), (COp.move (CX.t 16)), none⟩,
     ⟨(some 9), (COp.move (CX.t 17)), none⟩])
   (.seq (.region [⟨(some 19), (COp.move (CX.t 0)), none⟩,
      ⟨(some 20), (COp.move (CX.t 1)), none⟩,
      ⟨(some 21), (COp.move (CX.t 2)), none⟩,
      ⟨(some 22), (COp.call (CX.c (CVal.func 9 [] [])) [CX.t 19, CX.t 20, CX.t 21]), none⟩,
      ⟨(some 18), (COp.move (CX.t 22)), none⟩,
      ⟨(some 23), (COp.extract (CX.t 18) 0), none⟩,
      ⟨(some 24), (COp.extract (CX.t 18) 1), none⟩,
      ⟨(some 10), (COp.move (CX.t 23)), none⟩,
      ⟨(some 11), (COp.move (CX.t 24)), none⟩])
    (.seq (.region [⟨(some 25), (COp.move (CX.t 0)), none⟩,
       ⟨(some 26), (COp.bin (Go.BinOp.geq) (CX.t 25) (CX.c (CVal.int (Go.IntKind.i64) 0))), none⟩,
       ⟨(some 27), (COp.move (CX.t 26)), none⟩,
       ⟨(some 28), (COp.move (CX.t 0)), (some (27, true))⟩,
       ⟨(some 29), (COp.move (CX.t 1)), (some (27, true))⟩,
       ⟨(some 30), (COp.bin (Go.BinOp.leq) (CX.t 28) (CX.t 29)), (some (27, true))⟩,
       ⟨(some 31), (COp.pick (CX.t 27) (CX.t 30) (CX.c (CVal.bool false))), none⟩,
       ⟨(some 32), (COp.move (CX.t 31)), none⟩,
       ⟨(some 33), (COp.move (CX.t 1)), (some (32, true))⟩,
       ⟨(some 34), (COp.bin (Go.BinOp.leq) (CX.t 33) (CX.c (CVal.int (Go.IntKind.i64) 8192))), (some (32, true))⟩,
       ⟨(some 35), (COp.pick (CX.t 32) (CX.t 34) (CX.c (CVal.bool false))), none⟩,
       ⟨(some 36), (COp.move (CX.t 35)), none⟩,
       ⟨(some 37), (COp.move (CX.t 2)), (some (36, true))⟩,
       ⟨(some 38), (COp.bin (Go.BinOp.geq) (CX.t 37) (CX.c (CVal.int (Go.IntKind.i64) 1))), (some (36, true))⟩,
       ⟨(some 39), (COp.pick (CX.t 36) (CX.t 38) (CX.c (CVal.bool false))), none⟩,
       ⟨(some 40), (COp.move (CX.t 39)), none⟩,
       ⟨(some 41), (COp.move (CX.t 2)), (some (40, true))⟩,
       ⟨(some 42), (COp.bin (Go.BinOp.leq) (CX.t 41) (CX.c (CVal.int (Go.IntKind.i64) 8192))), (some (40, true))⟩,
       ⟨(some 43), (COp.pick (CX.t 40) (CX.t 42) (CX.c (CVal.bool false))), none⟩,
       ⟨(some 12), (COp.move (CX.t 43)), none⟩])
     (.seq (.region [⟨(some 44), (COp.move (CX.t 9)), none⟩,
        ⟨(some 45), (COp.un (Go.UnOp.not) (CX.t 44)), none⟩,
        ⟨(some 46), (COp.move (CX.t 45)), none⟩,
        ⟨(some 47), (COp.move (CX.t 7)), (some (46, true))⟩,
        ⟨(some 48), (COp.move (CX.t 0)), (some (46, true))⟩,
        ⟨(some 49), (COp.call (CX.c (CVal.func 13 [] [])) [CX.t 47, CX.t 48]), (some (46, true))⟩,
        ⟨(some 50), (COp.un (Go.UnOp.not) (CX.t 49)), (some (46, true))⟩,
        ⟨(some 51), (COp.pick (CX.t 46) (CX.t 50) (CX.c (CVal.bool false))), none⟩,
        ⟨(some 52), (COp.move (CX.t 51)), none⟩,
        ⟨(some 53), (COp.move (CX.t 7)), (some (52, true))⟩,
        ⟨(some 54), (COp.call (CX.c (CVal.func 11 [] [])) [CX.t 53]), (some (52, true))⟩,
        ⟨(some 55), (COp.bin (Go.BinOp.eql) (CX.t 54) (CX.c (CVal.int (Go.IntKind.i64) 0))), (some (52, true))⟩,
        ⟨(some 56), (COp.pick (CX.t 52) (CX.t 55) (CX.c (CVal.bool false))), none⟩,
        ⟨(some 57), (COp.move (CX.t 56)), none⟩,
        ⟨(some 58), (COp.move (CX.t 7)), (some (57, true))⟩,
        ⟨(some 59), (COp.call (CX.c (CVal.func 14 [] [])) [CX.t 58]), (some (57, true))⟩,
        ⟨(some 60), (COp.bin (Go.BinOp.eql) (CX.t 59) (CX.c (CVal.int (Go.IntKind.i64) 0))), (some (57, true))⟩,
        ⟨(some 61), (COp.pick (CX.t 57) (CX.t 60) (CX.c (CVal.bool false))), none⟩,
        ⟨(some 62), (COp.move (CX.t 61)), none⟩,
        ⟨(some 63), (COp.move (CX.t 7)), (some (62, true))⟩,
        ⟨(some 64), (COp.call (CX.c (CVal.func 12 [] [])) [CX.t 63]), (some (62, true))⟩,
        ⟨(some 65), (COp.len (LK.slice) (CX.t 64)), (some (62, true))⟩,
        ⟨(some 66), (COp.bin (Go.BinOp.eql) (CX.t 65) (CX.c (CVal.int (Go.IntKind.i64) 0))), (some (62, true))⟩,
        ⟨(some 67), (COp.pick (CX.t 62) (CX.t 66) (CX.c (CVal.bool false))), none⟩,
        ⟨(some 68), (COp.move (CX.t 67)), none⟩,
        ⟨(some 69), (COp.move (CX.t 11)), (some (68, true))⟩,
        ⟨(some 70), (COp.bin (Go.BinOp.eql) (CX.t 69) (CX.c (CVal.int (Go.IntKind.i64) 0))), (some (68, true))⟩,
        ⟨(some 71), (COp.move (CX.t 12)), (some (68, true))⟩,
        ⟨(some 72), (COp.eq (TK.bool) false (CX.t 70) (CX.t 71)), (some (68, true))⟩,
        ⟨(some 73), (COp.pick (CX.t 68) (CX.t 72) (CX.c (CVal.bool false))), none⟩,
        ⟨(some 74), (COp.move (CX.t 73)), none⟩,
        ⟨(some 75), (COp.call (CX.c (CVal.func 8 [] [])) []), (some (74, true))⟩,
        ⟨(some 76), (COp.pick (CX.t 74) (CX.t 75) (CX.c (CVal.bool false))), none⟩,
        ⟨(some 6), (COp.move (CX.t 76)), none⟩])
      (.ret))))))⟩
theorem ok5 : compFunc prog glb 5 p5 = some c5 := by kernel_rfl
/-- signalbox/signalboxlaw34.FairAsks -/
def p6 : List Plan := [⟨[(9, DK.quiet [0]), (8, DK.quiet [0]), (10, DK.quiet [0]), (11, DK.quiet [0]), (12, DK.quiet [0]), (13, DK.quiet [0]), (2, DK.quiet [0]), (1, DK.quiet [0]), (3, DK.quiet [0]), (4, DK.quiet [0]), (5, DK.quiet [0]), (6, DK.quiet [0]), (0, DK.quiet [0]), (7, DK.quiet [0]), (14, DK.quiet [0]), (15, DK.quiet [0])], 0, [0, 0, 0, 6, 14, 30, 62, 127, 0, 0, 768, 1792, 3840, 7936, 16383, 32767]⟩]
def c6 : CFunc := ⟨67, [CRV.tmp 4],
 .seq (.region [⟨(some 4), (COp.move (CX.c (CVal.bool false))), none⟩])
 (.seq (.region [⟨(some 5), (COp.move (CX.c (CVal.int (Go.IntKind.i64) 0))), none⟩])
  (.seq (.seq (.region [⟨(some 6), (COp.move (CX.c (CVal.int (Go.IntKind.i64) 0))), none⟩])
    (.block 0 (.loop (.seq (.seq (.region [⟨(some 8), (COp.move (CX.t 6)), none⟩,
          ⟨(some 9), (COp.move (CX.t 0)), none⟩,
          ⟨(some 10), (COp.len (LK.slice) (CX.t 9)), none⟩,
          ⟨(some 11), (COp.bin (Go.BinOp.lss) (CX.t 8) (CX.t 10)), none⟩,
          ⟨(some 12), (COp.move (CX.t 11)), none⟩,
          ⟨(some 13), (COp.move (CX.t 6)), (some (12, true))⟩,
          ⟨(some 14), (COp.bin (Go.BinOp.lss) (CX.t 13) (CX.c (CVal.int (Go.IntKind.i64) 100))), (some (12, true))⟩,
          ⟨(some 15), (COp.pick (CX.t 12) (CX.t 14) (CX.c (CVal.bool false))), none⟩])
        (.cond (CX.t 15) (.skip)
         (.exit 0)))
       (.seq (.block 1 (.draw [⟨9, ⟨(some 27), (COp.move (CX.t 6)), none⟩, (DK.quiet [0])⟩,
           ⟨8, ⟨(some 26), (COp.move (CX.t 0)), none⟩, (DK.quiet [0])⟩,
           ⟨10, ⟨(some 28), (COp.indexAddr 3 (CX.t 26) (CX.t 27)), none⟩, (DK.quiet [0])⟩,
           ⟨11, ⟨(some 29), (COp.fieldAddr 1 (CX.t 28)), none⟩, (DK.quiet [0])⟩,
           ⟨12, ⟨(some 30), (COp.load false 1 (CX.t 29)), none⟩, (DK.quiet [0])⟩,
           ⟨13, ⟨(some 31), (COp.len (LK.slice) (CX.t 30)), none⟩, (DK.quiet [0])⟩,
           ⟨2, ⟨(some 20), (COp.move (CX.t 6)), none⟩, (DK.quiet [0])⟩,
           ⟨1, ⟨(some 19), (COp.move (CX.t 0)), none⟩, (DK.quiet [0])⟩,
           ⟨3, ⟨(some 21), (COp.indexAddr 3 (CX.t 19) (CX.t 20)), none⟩, (DK.quiet [0])⟩,
           ⟨4, ⟨(some 22), (COp.fieldAddr 0 (CX.t 21)), none⟩, (DK.quiet [0])⟩,
           ⟨5, ⟨(some 23), (COp.load false 1 (CX.t 22)), none⟩, (DK.quiet [0])⟩,
           ⟨6, ⟨(some 24), (COp.len (LK.slice) (CX.t 23)), none⟩, (DK.quiet [0])⟩,
           ⟨0, ⟨(some 18), (COp.move (CX.t 5)), none⟩, (DK.quiet [0])⟩,
           ⟨7, ⟨(some 25), (COp.bin (Go.BinOp.add) (CX.t 18) (CX.t 24)), none⟩, (DK.quiet [0])⟩,
           ⟨14, ⟨(some 32), (COp.bin (Go.BinOp.add) (CX.t 25) (CX.t 31)), none⟩, (DK.quiet [0])⟩,
           ⟨15, ⟨(some 5), (COp.move (CX.t 32)), none⟩, (DK.quiet [0])⟩] 0))
        (.region [⟨(some 16), (COp.move (CX.t 6)), none⟩,
          ⟨(some 17), (COp.bin (Go.BinOp.add) (CX.t 16) (CX.c (CVal.int (Go.IntKind.i64) 1))), none⟩,
          ⟨(some 6), (COp.move (CX.t 17)), none⟩]))))))
   (.seq (.seq (.region [⟨(some 33), (COp.move (CX.t 0)), none⟩,
       ⟨(some 34), (COp.len (LK.slice) (CX.t 33)), none⟩,
       ⟨(some 35), (COp.bin (Go.BinOp.gtr) (CX.t 34) (CX.c (CVal.int (Go.IntKind.i64) 80))), none⟩,
       ⟨(some 36), (COp.move (CX.t 35)), none⟩,
       ⟨(some 37), (COp.move (CX.t 5)), (some (36, false))⟩,
       ⟨(some 38), (COp.bin (Go.BinOp.gtr) (CX.t 37) (CX.c (CVal.int (Go.IntKind.i64) 600))), (some (36, false))⟩,
       ⟨(some 39), (COp.pick (CX.t 36) (CX.c (CVal.bool true)) (CX.t 38)), none⟩])
     (.cond (CX.t 39) (.seq (.region [⟨(some 40), (COp.call (CX.c (CVal.func 15 [] [])) []), none⟩,
         ⟨(some 4), (COp.move (CX.t 40)), none⟩])
       (.ret))
      (.skip)))
    (.seq (.region [⟨(some 41), (COp.move (CX.t 0)), none⟩,
       ⟨(some 42), (COp.call (CX.c (CVal.func 16 [] [])) [CX.t 41]), none⟩,
       ⟨(some 7), (COp.move (CX.t 42)), none⟩])
     (.seq (.region [⟨(some 43), (COp.move (CX.t 1)), none⟩,
        ⟨(some 44), (COp.move (CX.t 0)), none⟩,
        ⟨(some 45), (COp.call (CX.c (CVal.func 17 [] [])) [CX.t 43, CX.t 44]), none⟩,
        ⟨(some 46), (COp.move (CX.t 1)), none⟩,
        ⟨(some 47), (COp.move (CX.t 7)), none⟩,
        ⟨(some 48), (COp.call (CX.c (CVal.func 18 [] [])) [CX.t 46, CX.t 47]), none⟩,
        ⟨(some 49), (COp.eq (TK.bool) false (CX.t 45) (CX.t 48)), none⟩,
        ⟨(some 50), (COp.move (CX.t 49)), none⟩,
        ⟨(some 51), (COp.move (CX.t 0)), (some (50, true))⟩,
        ⟨(some 52), (COp.call (CX.c (CVal.func 17 [] [])) [CX.c (CVal.int (Go.IntKind.i64) 3), CX.t 51]), (some (50, true))⟩,
        ⟨(some 53), (COp.move (CX.t 7)), (some (50, true))⟩,
        ⟨(some 54), (COp.call (CX.c (CVal.func 18 [] [])) [CX.c (CVal.int (Go.IntKind.i64) 3), CX.t 53]), (some (50, true))⟩,
        ⟨(some 55), (COp.eq (TK.bool) false (CX.t 52) (CX.t 54)), (some (50, true))⟩,
        ⟨(some 56), (COp.pick (CX.t 50) (CX.t 55) (CX.c (CVal.bool false))), none⟩,
        ⟨(some 57), (COp.move (CX.t 56)), none⟩,
        ⟨(some 58), (COp.move (CX.t 0)), (some (57, true))⟩,
        ⟨(some 59), (COp.call (CX.c (CVal.func 19 [] [])) [CX.t 58]), (some (57, true))⟩,
        ⟨(some 60), (COp.move (CX.t 7)), (some (57, true))⟩,
        ⟨(some 61), (COp.call (CX.c (CVal.func 20 [] [])) [CX.t 60]), (some (57, true))⟩,
        ⟨(some 62), (COp.bin (Go.BinOp.eql) (CX.t 59) (CX.t 61)), (some (57, true))⟩,
        ⟨(some 63), (COp.pick (CX.t 57) (CX.t 62) (CX.c (CVal.bool false))), none⟩,
        ⟨(some 64), (COp.move (CX.t 63)), none⟩,
        ⟨(some 65), (COp.call (CX.c (CVal.func 15 [] [])) []), (some (64, true))⟩,
        ⟨(some 66), (COp.pick (CX.t 64) (CX.t 65) (CX.c (CVal.bool false))), none⟩,
        ⟨(some 4), (COp.move (CX.t 66)), none⟩])
      (.ret))))))⟩
theorem ok6 : compFunc prog glb 6 p6 = some c6 := by kernel_rfl
/-- signalbox/signalboxlaw34.FairBounds -/
def p7 : List Plan := []
def c7 : CFunc := ⟨78, [CRV.tmp 8],
 .seq (.region [⟨(some 8), (COp.move (CX.c (CVal.bool false))), none⟩])
 (.seq (.region [⟨(some 18), (COp.move (CX.t 0)), none⟩,
    ⟨(some 19), (COp.move (CX.t 1)), none⟩,
    ⟨(some 20), (COp.move (CX.t 2)), none⟩,
    ⟨(some 21), (COp.move (CX.t 3)), none⟩,
    ⟨(some 22), (COp.call (CX.c (CVal.func 21 [] [])) [CX.t 18, CX.t 19, CX.t 20, CX.t 21]), none⟩,
    ⟨(some 17), (COp.move (CX.t 22)), none⟩,
    ⟨(some 23), (COp.extract (CX.t 17) 0), none⟩,
    ⟨(some 24), (COp.extract (CX.t 17) 1), none⟩,
    ⟨(some 9), (COp.move (CX.t 23)), none⟩,
    ⟨(some 10), (COp.move (CX.t 24)), none⟩])
  (.seq (.region [⟨(some 26), (COp.move (CX.t 0)), none⟩,
     ⟨(some 27), (COp.move (CX.t 1)), none⟩,
     ⟨(some 28), (COp.move (CX.t 2)), none⟩,
     ⟨(some 29), (COp.move (CX.t 3)), none⟩,
     ⟨(some 30), (COp.call (CX.c (CVal.func 22 [] [])) [CX.t 26, CX.t 27, CX.t 28, CX.t 29]), none⟩,
     ⟨(some 25), (COp.move (CX.t 30)), none⟩,
     ⟨(some 31), (COp.extract (CX.t 25) 0), none⟩,
     ⟨(some 32), (COp.extract (CX.t 25) 1), none⟩,
     ⟨(some 11), (COp.move (CX.t 31)), none⟩,
     ⟨(some 12), (COp.move (CX.t 32)), none⟩])
   (.seq (.region [⟨(some 34), (COp.move (CX.t 0)), none⟩,
      ⟨(some 35), (COp.bin (Go.BinOp.rem) (CX.t 34) (CX.c (CVal.int (Go.IntKind.i64) 1000))), none⟩,
      ⟨(some 36), (COp.move (CX.t 1)), none⟩,
      ⟨(some 37), (COp.bin (Go.BinOp.rem) (CX.t 36) (CX.c (CVal.int (Go.IntKind.i64) 1000))), none⟩,
      ⟨(some 38), (COp.move (CX.t 2)), none⟩,
      ⟨(some 39), (COp.bin (Go.BinOp.rem) (CX.t 38) (CX.c (CVal.int (Go.IntKind.i64) 100))), none⟩,
      ⟨(some 40), (COp.move (CX.t 3)), none⟩,
      ⟨(some 41), (COp.bin (Go.BinOp.rem) (CX.t 40) (CX.c (CVal.int (Go.IntKind.i64) 100))), none⟩,
      ⟨(some 42), (COp.call (CX.c (CVal.func 21 [] [])) [CX.t 35, CX.t 37, CX.t 39, CX.t 41]), none⟩,
      ⟨(some 33), (COp.move (CX.t 42)), none⟩,
      ⟨(some 43), (COp.extract (CX.t 33) 0), none⟩,
      ⟨(some 44), (COp.extract (CX.t 33) 1), none⟩,
      ⟨(some 13), (COp.move (CX.t 43)), none⟩,
      ⟨(some 14), (COp.move (CX.t 44)), none⟩])
    (.seq (.region [⟨(some 46), (COp.move (CX.t 0)), none⟩,
       ⟨(some 47), (COp.bin (Go.BinOp.rem) (CX.t 46) (CX.c (CVal.int (Go.IntKind.i64) 1000))), none⟩,
       ⟨(some 48), (COp.move (CX.t 1)), none⟩,
       ⟨(some 49), (COp.bin (Go.BinOp.rem) (CX.t 48) (CX.c (CVal.int (Go.IntKind.i64) 1000))), none⟩,
       ⟨(some 50), (COp.move (CX.t 2)), none⟩,
       ⟨(some 51), (COp.bin (Go.BinOp.rem) (CX.t 50) (CX.c (CVal.int (Go.IntKind.i64) 100))), none⟩,
       ⟨(some 52), (COp.move (CX.t 3)), none⟩,
       ⟨(some 53), (COp.bin (Go.BinOp.rem) (CX.t 52) (CX.c (CVal.int (Go.IntKind.i64) 100))), none⟩,
       ⟨(some 54), (COp.call (CX.c (CVal.func 22 [] [])) [CX.t 47, CX.t 49, CX.t 51, CX.t 53]), none⟩,
       ⟨(some 45), (COp.move (CX.t 54)), none⟩,
       ⟨(some 55), (COp.extract (CX.t 45) 0), none⟩,
       ⟨(some 56), (COp.extract (CX.t 45) 1), none⟩,
       ⟨(some 15), (COp.move (CX.t 55)), none⟩,
       ⟨(some 16), (COp.move (CX.t 56)), none⟩])
     (.seq (.region [⟨(some 57), (COp.move (CX.t 9)), none⟩,
        ⟨(some 58), (COp.move (CX.t 11)), none⟩,
        ⟨(some 59), (COp.bin (Go.BinOp.eql) (CX.t 57) (CX.t 58)), none⟩,
        ⟨(some 60), (COp.move (CX.t 59)), none⟩,
        ⟨(some 61), (COp.move (CX.t 10)), (some (60, true))⟩,
        ⟨(some 62), (COp.move (CX.t 12)), (some (60, true))⟩,
        ⟨(some 63), (COp.eq (TK.bool) false (CX.t 61) (CX.t 62)), (some (60, true))⟩,
        ⟨(some 64), (COp.pick (CX.t 60) (CX.t 63) (CX.c (CVal.bool false))), none⟩,
        ⟨(some 65), (COp.move (CX.t 64)), none⟩,
        ⟨(some 66), (COp.move (CX.t 13)), (some (65, true))⟩,
        ⟨(some 67), (COp.move (CX.t 15)), (some (65, true))⟩,
        ⟨(some 68), (COp.bin (Go.BinOp.eql) (CX.t 66) (CX.t 67)), (some (65, true))⟩,
        ⟨(some 69), (COp.pick (CX.t 65) (CX.t 68) (CX.c (CVal.bool false))), none⟩,
        ⟨(some 70), (COp.move (CX.t 69)), none⟩,
        ⟨(some 71), (COp.move (CX.t 14)), (some (70, true))⟩,
        ⟨(some 72), (COp.move (CX.t 16)), (some (70, true))⟩,
        ⟨(some 73), (COp.eq (TK.bool) false (CX.t 71) (CX.t 72)), (some (70, true))⟩,
        ⟨(some 74), (COp.pick (CX.t 70) (CX.t 73) (CX.c (CVal.bool false))), none⟩,
        ⟨(some 75), (COp.move (CX.t 74)), none⟩,
        ⟨(some 76), (COp.call (CX.c (CVal.func 15 [] [])) []), (some (75, true))⟩,
        ⟨(some 77), (COp.pick (CX.t 75) (CX.t 76) (CX.c (CVal.bool false))), none⟩,
        ⟨(some 8), (COp.move (CX.t 77)), none⟩])
      (.ret))))))⟩
theorem ok7 : compFunc prog glb 7 p7 = some c7 := by kernel_rfl
/-- signalbox/signalboxlaw3.awake -/
def p8 : List Plan := []
def c8 : CFunc := ⟨85, [CRV.tmp 0],
 .seq (.region [⟨(some 0), (COp.move (CX.c (CVal.bool false))), none⟩])
 (.seq (.region [⟨(some 12), (COp.call (CX.c (CVal.func 9 [] [])) [CX.c (CVal.int (Go.IntKind.i64) 3), CX.c (CVal.int (Go.IntKind.i64) 10), CX.c (CVal.int (Go.IntKind.i64) 3)]), none⟩,
    ⟨(some 11), (COp.move (CX.t 12)), none⟩,
    ⟨(some 13), (COp.extract (CX.t 11) 0), none⟩,
    ⟨(some 14), (COp.extract (CX.t 11) 1), none⟩,
    ⟨(some 1), (COp.move (CX.t 13)), none⟩,
    ⟨(some 2), (COp.move (CX.t 14)), none⟩])
  (.seq (.region [⟨(some 16), (COp.call (CX.c (CVal.func 9 [] [])) [CX.c (CVal.int (Go.IntKind.i64) 3), CX.c (CVal.int (Go.IntKind.i64) 2), CX.c (CVal.int (Go.IntKind.i64) 1)]), none⟩,
     ⟨(some 15), (COp.move (CX.t 16)), none⟩,
     ⟨(some 17), (COp.extract (CX.t 15) 0), none⟩,
     ⟨(some 18), (COp.extract (CX.t 15) 1), none⟩,
     ⟨(some 3), (COp.move (CX.t 17)), none⟩,
     ⟨(some 4), (COp.move (CX.t 18)), none⟩])
   (.seq (.seq (.region [⟨(some 19), (COp.move (CX.t 2)), none⟩,
       ⟨(some 20), (COp.bin (Go.BinOp.neq) (CX.t 19) (CX.c (CVal.int (Go.IntKind.i64) 0))), none⟩,
       ⟨(some 21), (COp.move (CX.t 20)), none⟩,
       ⟨(some 22), (COp.move (CX.t 4)), (some (21, false))⟩,
       ⟨(some 23), (COp.bin (Go.BinOp.neq) (CX.t 22) (CX.c (CVal.int (Go.IntKind.i64) 1))), (some (21, false))⟩,
       ⟨(some 24), (COp.pick (CX.t 21) (CX.c (CVal.bool true)) (CX.t 23)), none⟩,
       ⟨(some 25), (COp.move (CX.t 24)), none⟩,
       ⟨(some 26), (COp.move (CX.t 1)), (some (25, false))⟩,
       ⟨(some 27), (COp.eq (TK.ptr) false (CX.t 26) (CX.c (CVal.nilPtr))), (some (25, false))⟩,
       ⟨(some 28), (COp.pick (CX.t 25) (CX.c (CVal.bool true)) (CX.t 27)), none⟩])
     (.cond (CX.t 28) (.seq (.region [⟨(some 0), (COp.move (CX.c (CVal.bool false))), none⟩])
       (.ret))
      (.skip)))
    (.seq (.region [⟨(some 30), (COp.move (CX.t 1)), none⟩,
       ⟨(some 31), (COp.call (CX.c (CVal.func 10 [] [])) [CX.t 30]), none⟩,
       ⟨(some 29), (COp.move (CX.t 31)), none⟩,
       ⟨(some 32), (COp.extract (CX.t 29) 0), none⟩,
       ⟨(some 33), (COp.extract (CX.t 29) 1), none⟩,
       ⟨(some 5), (COp.move (CX.t 32)), none⟩,
       ⟨(some 6), (COp.move (CX.t 33)), none⟩])
     (.seq (.region [⟨(some 35), (COp.move (CX.t 1)), none⟩,
        ⟨(some 36), (COp.call (CX.c (CVal.func 10 [] [])) [CX.t 35]), none⟩,
        ⟨(some 34), (COp.move (CX.t 36)), none⟩,
        ⟨(some 37), (COp.extract (CX.t 34) 0), none⟩,
        ⟨(some 38), (COp.extract (CX.t 34) 1), none⟩,
        ⟨(some 7), (COp.move (CX.t 37)), none⟩,
        ⟨(some 8), (COp.move (CX.t 38)), none⟩])
      (.seq (.region [⟨(some 40), (COp.move (CX.t 1)), none⟩,
         ⟨(some 41), (COp.call (CX.c (CVal.func 10 [] [])) [CX.t 40]), none⟩,
         ⟨(some 39), (COp.move (CX.t 41)), none⟩,
         ⟨(some 42), (COp.extract (CX.t 39) 0), none⟩,
         ⟨(some 43), (COp.extract (CX.t 39) 1), none⟩,
         ⟨(some 9), (COp.move (CX.t 42)), none⟩,
         ⟨(some 10), (COp.move (CX.t 43)), none⟩])
       (.seq (.region [⟨(some 44), (COp.move (CX.t 5)), none⟩,
          ⟨(some 45), (COp.bin (Go.BinOp.eql) (CX.t 44) (CX.c (CVal.int (Go.IntKind.i64) 3))), none⟩,
          ⟨(some 46), (COp.move (CX.t 45)), none⟩,
          ⟨(some 47), (COp.move (CX.t 6)), (some (46, true))⟩,
          ⟨(some 48), (COp.pick (CX.t 46) (CX.t 47) (CX.c (CVal.bool false))), none⟩,
          ⟨(some 49), (COp.move (CX.t 48)), none⟩,
          ⟨(some 50), (COp.move (CX.t 7)), (some (49, true))⟩,
          ⟨(some 51), (COp.bin (Go.BinOp.eql) (CX.t 50) (CX.c (CVal.int (Go.IntKind.i64) 6))), (some (49, true))⟩,
          ⟨(some 52), (COp.pick (CX.t 49) (CX.t 51) (CX.c (CVal.bool false))), none⟩,
          ⟨(some 53), (COp.move (CX.t 52)), none⟩,
          ⟨(some 54), (COp.move (CX.t 8)), (some (53, true))⟩,
          ⟨(some 55), (COp.pick (CX.t 53) (CX.t 54) (CX.c (CVal.bool false))), none⟩,
          ⟨(some 56), (COp.move (CX.t 55)), none⟩,
          ⟨(some 57), (COp.move (CX.t 10)), (some (56, true))⟩,
          ⟨(some 58), (COp.un (Go.UnOp.not) (CX.t 57)), (some (56, true))⟩,
          ⟨(some 59), (COp.pick (CX.t 56) (CX.t 58) (CX.c (CVal.bool false))), none⟩,
          ⟨(some 60), (COp.move (CX.t 59)), none⟩,
          ⟨(some 61), (COp.move (CX.t 1)), (some (60, true))⟩,
          ⟨(some 62), (COp.call (CX.c (CVal.func 13 [] [])) [CX.t 61, CX.c (CVal.int (Go.IntKind.i64) 3)]), (some (60, true))⟩,
          ⟨(some 63), (COp.pick (CX.t 60) (CX.t 62) (CX.c (CVal.bool false))), none⟩,
          ⟨(some 64), (COp.move (CX.t 63)), none⟩,
          ⟨(some 65), (COp.move (CX.t 1)), (some (64, true))⟩,
          ⟨(some 66), (COp.call (CX.c (CVal.func 13 [] [])) [CX.t 65, CX.c (CVal.int (Go.IntKind.i64) 4)]), (some (64, true))⟩,
          ⟨(some 67), (COp.un (Go.UnOp.not) (CX.t 66)), (some (64, true))⟩,
          ⟨(some 68), (COp.pick (CX.t 64) (CX.t 67) (CX.c (CVal.bool false))), none⟩,
          ⟨(some 69), (COp.move (CX.t 68)), none⟩,
          ⟨(some 70), (COp.move (CX.t 1)), (some (69, true))⟩,
          ⟨(some 71), (COp.call (CX.c (CVal.func 11 [] [])) [CX.t 70]), (some (69, true))⟩,
          ⟨(some 72), (COp.bin (Go.BinOp.eql) (CX.t 71) (CX.c (CVal.int (Go.IntKind.i64) 1))), (some (69, true))⟩,
          ⟨(some 73), (COp.pick (CX.t 69) (CX.t 72) (CX.c (CVal.bool false))), none⟩,
          ⟨(some 74), (COp.move (CX.t 73)), none⟩,
          ⟨(some 75), (COp.move (CX.t 1)), (some (74, true))⟩,
          ⟨(some 76), (COp.call (CX.c (CVal.func 12 [] [])) [CX.t 75]), (some (74, true))⟩,
          ⟨(some 77), (COp.buildSlice [CVal.int (Go.IntKind.i64) 0] 1 [(0, 1, CX.c (CVal.int (Go.IntKind.i64) 6))]), (some (74, true))⟩,
          ⟨(some 78), (COp.call (CX.c (CVal.func 23 [] [])) [CX.t 76, CX.t 77]), (some (74, true))⟩,
          ⟨(some 79), (COp.pick (CX.t 74) (CX.t 78) (CX.c (CVal.bool false))), none⟩,
          ⟨(some 80), (COp.move (CX.t 79)), none⟩,
          ⟨(some 81), (COp.move (CX.t 1)), (some (80, true))⟩,
          ⟨(some 82), (COp.call (CX.c (CVal.func 14 [] [])) [CX.t 81]), (some (80, true))⟩,
          ⟨(some 83), (COp.bin (Go.BinOp.eql) (CX.t 82) (CX.c (CVal.int (Go.IntKind.i64) 3))), (some (80, true))⟩,
          ⟨(some 84), (COp.pick (CX.t 80) (CX.t 83) (CX.c (CVal.bool false))), none⟩,
          ⟨(some 0), (COp.move (CX.t 84)), none⟩])
        (.ret))))))))⟩
theorem ok8 : compFunc prog glb 8 p8 = some c8 := by kernel_rfl
/-- signalbox/segs.New -/
def p9 : List Plan := []
def c9 : CFunc := ⟨37, [CRV.tmp 6, CRV.tmp 7],
 .seq (.region [⟨(some 6), (COp.move (CX.c (CVal.nilPtr))), none⟩,
   ⟨(some 7), (COp.move (CX.c (CVal.int (Go.IntKind.i64) 0))), none⟩])
 (.seq (.seq (.region [⟨(some 8), (COp.move (CX.t 0)), none⟩,
     ⟨(some 9), (COp.bin (Go.BinOp.lss) (CX.t 8) (CX.c (CVal.int (Go.IntKind.i64) 0))), none⟩,
     ⟨(some 10), (COp.move (CX.t 9)), none⟩,
     ⟨(some 11), (COp.move (CX.t 0)), (some (10, false))⟩,
     ⟨(some 12), (COp.move (CX.t 1)), (some (10, false))⟩,
     ⟨(some 13), (COp.bin (Go.BinOp.gtr) (CX.t 11) (CX.t 12)), (some (10, false))⟩,
     ⟨(some 14), (COp.pick (CX.t 10) (CX.c (CVal.bool true)) (CX.t 13)), none⟩,
     ⟨(some 15), (COp.move (CX.t 14)), none⟩,
     ⟨(some 16), (COp.move (CX.t 1)), (some (15, false))⟩,
     ⟨(some 17), (COp.bin (Go.BinOp.gtr) (CX.t 16) (CX.c (CVal.int (Go.IntKind.i64) 8192))), (some (15, false))⟩,
     ⟨(some 18), (COp.pick (CX.t 15) (CX.c (CVal.bool true)) (CX.t 17)), none⟩,
     ⟨(some 19), (COp.move (CX.t 18)), none⟩,
     ⟨(some 20), (COp.move (CX.t 2)), (some (19, false))⟩,
     ⟨(some 21), (COp.bin (Go.BinOp.lss) (CX.t 20) (CX.c (CVal.int (Go.IntKind.i64) 1))), (some (19, false))⟩,
     ⟨(some 22), (COp.pick (CX.t 19) (CX.c (CVal.bool true)) (CX.t 21)), none⟩,
     ⟨(some 23), (COp.move (CX.t 22)), none⟩,
     ⟨(some 24), (COp.move (CX.t 2)), (some (23, false))⟩,
     ⟨(some 25), (COp.bin (Go.BinOp.gtr) (CX.t 24) (CX.c (CVal.int (Go.IntKind.i64) 8192))), (some (23, false))⟩,
     ⟨(some 26), (COp.pick (CX.t 23) (CX.c (CVal.bool true)) (CX.t 25)), none⟩])
   (.cond (CX.t 26) (.seq (.region [⟨(some 6), (COp.move (CX.c (CVal.nilPtr))), none⟩,
       ⟨(some 7), (COp.move (CX.c (CVal.int (Go.IntKind.i64) 1))), none⟩])
     (.ret))
    (.skip)))
  (.seq (.region [⟨(some 27), (COp.move (CX.t 0)), none⟩,
     ⟨(some 28), (COp.move (CX.t 2)), none⟩,
     ⟨(some 29), (COp.move (CX.t 1)), none⟩,
     ⟨(some 30), (COp.move (CX.t 0)), none⟩,
     ⟨(some 31), (COp.bin (Go.BinOp.sub) (CX.t 29) (CX.t 30)), none⟩,
     ⟨(some 32), (COp.move (CX.t 2)), none⟩,
     ⟨(some 33), (COp.bin (Go.BinOp.quo) (CX.t 31) (CX.t 32)), none⟩,
     ⟨(some 34), (COp.makeSlice [CVal.bool false] 1 (CX.t 33) (CX.t 33)), none⟩,
     ⟨(some 35), (COp.build [CVal.int (Go.IntKind.i64) 0, CVal.int (Go.IntKind.i64) 0, CVal.nilSlice] [(0, 1, CX.t 27), (1, 1, CX.t 28), (2, 1, CX.t 34)]), none⟩,
     ⟨(some 36), (COp.box (CX.t 35)), none⟩,
     ⟨(some 6), (COp.move (CX.t 36)), none⟩,
     ⟨(some 7), (COp.move (CX.c (CVal.int (Go.IntKind.i64) 0))), none⟩])
   (.ret)))⟩
theorem ok9 : compFunc prog glb 9 p9 = some c9 := by kernel_rfl
/-- (*signalbox/segs.Segs).Take -/
def p10 : List Plan := [⟨[(0, DK.quiet [0]), (2, DK.eff), (1, DK.quiet [0, 2]), (3, DK.eff)], 0, [0, 0, 1, 7]⟩]
def c10 : CFunc := ⟨9, [CRV.cell 2 false 1, CRV.cell 3 false 1],
 .seq (.region [⟨(some 1), (COp.box (CX.t 0)), none⟩,
   ⟨(some 2), (COp.new [CVal.int (Go.IntKind.i64) 0]), none⟩,
   ⟨(some 3), (COp.new [CVal.bool false]), none⟩])
 (.seq (.region [⟨(some 4), (COp.load false 1 (CX.t 1)), none⟩,
    ⟨(some 5), (COp.func 25 [] [CX.t 1, CX.t 2, CX.t 3]), none⟩,
    ⟨(some 6), (COp.call (CX.c (CVal.func 24 [] [])) [CX.t 4, CX.c (CVal.bool false), CX.t 5]), none⟩])
  (.seq (.draw [⟨0, ⟨(some 7), (COp.load false 1 (CX.t 2)), none⟩, (DK.quiet [0])⟩,
     ⟨2, ⟨none, (COp.store 1 (CX.t 2) (CX.t 7)), none⟩, (DK.eff)⟩,
     ⟨1, ⟨(some 8), (COp.load false 1 (CX.t 3)), none⟩, (DK.quiet [0, 2])⟩,
     ⟨3, ⟨none, (COp.store 1 (CX.t 3) (CX.t 8)), none⟩, (DK.eff)⟩] 0)
   (.ret)))⟩
theorem ok10 : compFunc prog glb 10 p10 = some c10 := by kernel_rfl
/-- (*signalbox/segs.Segs).Free -/
def p11 : List Plan := []
def c11 : CFunc := ⟨7, [CRV.cell 2 false 1],
 .seq (.region [⟨(some 2), (COp.new [CVal.int (Go.IntKind.i64) 0]), none⟩])
 (.seq (.region [⟨(some 3), (COp.move (CX.t 0)), none⟩,
    ⟨(some 4), (COp.func 27 [] [CX.t 2]), none⟩,
    ⟨(some 5), (COp.call (CX.c (CVal.func 24 [] [])) [CX.t 3, CX.c (CVal.bool false), CX.t 4]), none⟩])
  (.seq (.region [⟨(some 6), (COp.load false 1 (CX.t 2)), none⟩,
     ⟨none, (COp.store 1 (CX.t 2) (CX.t 6)), none⟩])
   (.ret)))⟩
theorem ok11 : compFunc prog glb 11 p11 = some c11 := by kernel_rfl
/-- (*signalbox/segs.Segs).Taken -/
def p12 : List Plan := []
def c12 : CFunc := ⟨7, [CRV.cell 2 false 1],
 .seq (.region [⟨(some 1), (COp.box (CX.t 0)), none⟩,
   ⟨(some 2), (COp.new [CVal.nilSlice]), none⟩])
 (.seq (.region [⟨(some 3), (COp.load false 1 (CX.t 1)), none⟩,
    ⟨(some 4), (COp.func 28 [] [CX.t 2, CX.t 1]), none⟩,
    ⟨(some 5), (COp.call (CX.c (CVal.func 24 [] [])) [CX.t 3, CX.c (CVal.bool true), CX.t 4]), none⟩])
  (.seq (.region [⟨(some 6), (COp.load false 1 (CX.t 2)), none⟩,
     ⟨none, (COp.store 1 (CX.t 2) (CX.t 6)), none⟩])
   (.ret)))⟩
theorem ok12 : compFunc prog glb 12 p12 = some c12 := by kernel_rfl
/-- (*signalbox/segs.Segs).Give -/
def p13 : List Plan := []
def c13 : CFunc := ⟨9, [CRV.cell 4 false 1],
 .seq (.region [⟨(some 2), (COp.box (CX.t 0)), none⟩,
   ⟨(some 3), (COp.box (CX.t 1)), none⟩,
   ⟨(some 4), (COp.new [CVal.bool false]), none⟩])
 (.seq (.region [⟨(some 5), (COp.load false 1 (CX.t 2)), none⟩,
    ⟨(some 6), (COp.func 29 [] [CX.t 2, CX.t 3, CX.t 4]), none⟩,
    ⟨(some 7), (COp.call (CX.c (CVal.func 24 [] [])) [CX.t 5, CX.c (CVal.bool true), CX.t 6]), none⟩])
  (.seq (.region [⟨(some 8), (COp.load false 1 (CX.t 4)), none⟩,
     ⟨none, (COp.store 1 (CX.t 4) (CX.t 8)), none⟩])
   (.ret)))⟩
theorem ok13 : compFunc prog glb 13 p13 = some c13 := by kernel_rfl
/-- (*signalbox/segs.Segs).Size -/
def p14 : List Plan := []
def c14 : CFunc := ⟨9, [CRV.tmp 2],
 .seq (.region [⟨(some 2), (COp.move (CX.c (CVal.int (Go.IntKind.i64) 0))), none⟩])
 (.seq (.seq (.region [⟨(some 3), (COp.move (CX.t 0)), none⟩,
     ⟨(some 4), (COp.eq (TK.ptr) false (CX.t 3) (CX.c (CVal.nilPtr))), none⟩])
   (.cond (CX.t 4) (.seq (.region [⟨(some 2), (COp.move (CX.c (CVal.int (Go.IntKind.i64) 0))), none⟩])
     (.ret))
    (.skip)))
  (.seq (.region [⟨(some 5), (COp.move (CX.t 0)), none⟩,
     ⟨(some 6), (COp.nilCheck (CX.t 5)), none⟩,
     ⟨(some 7), (COp.fieldAddr 1 (CX.t 6)), none⟩,
     ⟨(some 8), (COp.load false 1 (CX.t 7)), none⟩,
     ⟨(some 2), (COp.move (CX.t 8)), none⟩])
   (.ret)))⟩
theorem ok14 : compFunc prog glb 14 p14 = some c14 := by kernel_rfl
/-- signalbox/signalboxlaw34.awake -/
def p15 : List Plan := []
def c15 : CFunc := ⟨51, [CRV.tmp 0],
 .seq (.region [⟨(some 0), (COp.move (CX.c (CVal.bool false))), none⟩])
 (.seq (.region [⟨(some 6), (COp.buildSlice [CVal.int (Go.IntKind.i64) 0] 2 [(0, 1, CX.c (CVal.int (Go.IntKind.i64) 1)), (1, 1, CX.c (CVal.int (Go.IntKind.i64) 2))]), none⟩,
    ⟨(some 7), (COp.buildSlice [CVal.int (Go.IntKind.i64) 0] 1 [(0, 1, CX.c (CVal.int (Go.IntKind.i64) 2))]), none⟩,
    ⟨(some 8), (COp.build [CVal.nilSlice, CVal.nilSlice, CVal.int (Go.IntKind.i64) 0] [(0, 1, CX.t 6), (1, 1, CX.t 7), (2, 1, CX.c (CVal.int (Go.IntKind.i64) 1))]), none⟩,
    ⟨(some 9), (COp.buildSlice [CVal.int (Go.IntKind.i64) 0] 2 [(0, 1, CX.c (CVal.int (Go.IntKind.i64) 1)), (1, 1, CX.c (CVal.int (Go.IntKind.i64) 2))]), none⟩,
    ⟨(some 10), (COp.buildSlice [CVal.int (Go.IntKind.i64) 0] 1 [(0, 1, CX.c (CVal.int (Go.IntKind.i64) 2))]), none⟩,
    ⟨(some 11), (COp.build [CVal.nilSlice, CVal.nilSlice, CVal.int (Go.IntKind.i64) 0] [(0, 1, CX.t 9), (1, 1, CX.t 10), (2, 1, CX.c (CVal.int (Go.IntKind.i64) 2))]), none⟩,
    ⟨(some 12), (COp.buildSlice [CVal.int (Go.IntKind.i64) 0] 1 [(0, 1, CX.c (CVal.int (Go.IntKind.i64) 1))]), none⟩,
    ⟨(some 13), (COp.build [CVal.nilSlice, CVal.nilSlice, CVal.int (Go.IntKind.i64) 0] [(0, 1, CX.t 12), (2, 1, CX.c (CVal.int (Go.IntKind.i64) 1))]), none⟩,
    ⟨(some 14), (COp.buildSlice [CVal.nilSlice, CVal.nilSlice, CVal.int (Go.IntKind.i64) 0] 3 [(0, 3, CX.t 8), (3, 3, CX.t 11), (6, 3, CX.t 13)]), none⟩,
    ⟨(some 1), (COp.move (CX.t 14)), none⟩])
  (.seq (.region [⟨(some 16), (COp.call (CX.c (CVal.func 21 [] [])) [CX.c (CVal.int (Go.IntKind.i64) 2), CX.c (CVal.int (Go.IntKind.i64) 3), CX.c (CVal.int (Go.IntKind.i64) 4), CX.c (CVal.int (Go.IntKind.i64) 1)]), none⟩,
     ⟨(some 15), (COp.move (CX.t 16)), none⟩,
     ⟨(some 17), (COp.extract (CX.t 15) 0), none⟩,
     ⟨(some 18), (COp.extract (CX.t 15) 1), none⟩,
     ⟨(some 2), (COp.move (CX.t 17)), none⟩,
     ⟨(some 3), (COp.move (CX.t 18)), none⟩])
   (.seq (.region [⟨(some 20), (COp.call (CX.c (CVal.func 21 [] [])) [CX.c (CVal.int (Go.IntKind.i64) (-1)), CX.c (CVal.int (Go.IntKind.i64) 0), CX.c (CVal.int (Go.IntKind.i64) 0), CX.c (CVal.int (Go.IntKind.i64) 0)]), none⟩,
      ⟨(some 19), (COp.move (CX.t 20)), none⟩,
      ⟨(some 21), (COp.extract (CX.t 19) 0), none⟩,
      ⟨(some 22), (COp.extract (CX.t 19) 1), none⟩,
      ⟨(some 4), (COp.move (CX.t 21)), none⟩,
      ⟨(some 5), (COp.move (CX.t 22)), none⟩])
    (.seq (.region [⟨(some 23), (COp.move (CX.t 1)), none⟩,
       ⟨(some 24), (COp.call (CX.c (CVal.func 17 [] [])) [CX.c (CVal.int (Go.IntKind.i64) 2), CX.t 23]), none⟩,
       ⟨(some 25), (COp.move (CX.t 24)), none⟩,
       ⟨(some 26), (COp.move (CX.t 1)), (some (25, true))⟩,
       ⟨(some 27), (COp.call (CX.c (CVal.func 17 [] [])) [CX.c (CVal.int (Go.IntKind.i64) 1), CX.t 26]), (some (25, true))⟩,
       ⟨(some 28), (COp.un (Go.UnOp.not) (CX.t 27)), (some (25, true))⟩,
       ⟨(some 29), (COp.pick (CX.t 25) (CX.t 28) (CX.c (CVal.bool false))), none⟩,
       ⟨(some 30), (COp.move (CX.t 29)), none⟩,
       ⟨(some 31), (COp.move (CX.t 1)), (some (30, true))⟩,
       ⟨(some 32), (COp.call (CX.c (CVal.func 17 [] [])) [CX.c (CVal.int (Go.IntKind.i64) 0), CX.t 31]), (some (30, true))⟩,
       ⟨(some 33), (COp.un (Go.UnOp.not) (CX.t 32)), (some (30, true))⟩,
       ⟨(some 34), (COp.pick (CX.t 30) (CX.t 33) (CX.c (CVal.bool false))), none⟩,
       ⟨(some 35), (COp.move (CX.t 34)), none⟩,
       ⟨(some 36), (COp.move (CX.t 1)), (some (35, true))⟩,
       ⟨(some 37), (COp.call (CX.c (CVal.func 19 [] [])) [CX.t 36]), (some (35, true))⟩,
       ⟨(some 38), (COp.bin (Go.BinOp.eql) (CX.t 37) (CX.c (CVal.int (Go.IntKind.i64) 1))), (some (35, true))⟩,
       ⟨(some 39), (COp.pick (CX.t 35) (CX.t 38) (CX.c (CVal.bool false))), none⟩,
       ⟨(some 40), (COp.move (CX.t 39)), none⟩,
       ⟨(some 41), (COp.move (CX.t 2)), (some (40, true))⟩,
       ⟨(some 42), (COp.bin (Go.BinOp.eql) (CX.t 41) (CX.c (CVal.int (Go.IntKind.i64) 30))), (some (40, true))⟩,
       ⟨(some 43), (COp.pick (CX.t 40) (CX.t 42) (CX.c (CVal.bool false))), none⟩,
       ⟨(some 44), (COp.move (CX.t 43)), none⟩,
       ⟨(some 45), (COp.move (CX.t 3)), (some (44, true))⟩,
       ⟨(some 46), (COp.pick (CX.t 44) (CX.t 45) (CX.c (CVal.bool false))), none⟩,
       ⟨(some 47), (COp.move (CX.t 46)), none⟩,
       ⟨(some 48), (COp.move (CX.t 5)), (some (47, true))⟩,
       ⟨(some 49), (COp.un (Go.UnOp.not) (CX.t 48)), (some (47, true))⟩,
       ⟨(some 50), (COp.pick (CX.t 47) (CX.t 49) (CX.c (CVal.bool false))), none⟩,
       ⟨(some 0), (COp.move (CX.t 50)), none⟩])
     (.ret)))))⟩
theorem ok15 : compFunc prog glb 15 p15 = some c15 := by kernel_rfl
/-- signalbox/signalboxlaw34.steps -/
def p16 : List Plan := [⟨[(12, DK.quiet [0]), (11, DK.quiet [0]), (13, DK.quiet [0]), (14, DK.quiet [0]), (15, DK.quiet [0]), (7, DK.quiet [0]), (6, DK.quiet [0]), (8, DK.quiet [0]), (9, DK.quiet [0]), (10, DK.quiet [0]), (2, DK.quiet [0]), (1, DK.quiet [0]), (3, DK.quiet [0]), (4, DK.quiet [0]), (5, DK.quiet [0]), (16, DK.quiet [0]), (17, DK.eff), (0, DK.quiet [0, 17]), (18, DK.eff), (19, DK.quiet [19])], 0, [0, 0, 0, 6, 14, 30, 0, 0, 192, 448, 960, 0, 0, 6144, 14336, 30720, 65534, 131070, 262143, 524287]⟩]
def c16 : CFunc := ⟨32, [CRV.tmp 2],
 .seq (.region [⟨(some 2), (COp.move (CX.c (CVal.nilSlice))), none⟩])
 (.seq (.region [⟨(some 5), (COp.buildSlice [CVal.nilSlice, CVal.nilSlice, CVal.int (Go.IntKind.i64) 0] 0 []), none⟩,
    ⟨(some 3), (COp.move (CX.t 5)), none⟩])
  (.seq (.seq (.region [⟨(some 4), (COp.move (CX.c (CVal.int (Go.IntKind.i64) 0))), none⟩])
    (.block 0 (.loop (.seq (.seq (.region [⟨(some 6), (COp.move (CX.t 4)), none⟩,
          ⟨(some 7), (COp.move (CX.t 0)), none⟩,
          ⟨(some 8), (COp.len (LK.slice) (CX.t 7)), none⟩,
          ⟨(some 9), (COp.bin (Go.BinOp.lss) (CX.t 6) (CX.t 8)), none⟩])
        (.cond (CX.t 9) (.skip)
         (.exit 0)))
       (.seq (.block 1 (.draw [⟨12, ⟨(some 24), (COp.move (CX.t 4)), none⟩, (DK.quiet [0])⟩,
           ⟨11, ⟨(some 23), (COp.move (CX.t 0)), none⟩, (DK.quiet [0])⟩,
           ⟨13, ⟨(some 25), (COp.indexAddr 3 (CX.t 23) (CX.t 24)), none⟩, (DK.quiet [0])⟩,
           ⟨14, ⟨(some 26), (COp.fieldAddr 2 (CX.t 25)), none⟩, (DK.quiet [0])⟩,
           ⟨15, ⟨(some 27), (COp.load false 1 (CX.t 26)), none⟩, (DK.quiet [0])⟩,
           ⟨7, ⟨(some 19), (COp.move (CX.t 4)), none⟩, (DK.quiet [0])⟩,
           ⟨6, ⟨(some 18), (COp.move (CX.t 0)), none⟩, (DK.quiet [0])⟩,
           ⟨8, ⟨(some 20), (COp.indexAddr 3 (CX.t 18) (CX.t 19)), none⟩, (DK.quiet [0])⟩,
           ⟨9, ⟨(some 21), (COp.fieldAddr 1 (CX.t 20)), none⟩, (DK.quiet [0])⟩,
           ⟨10, ⟨(some 22), (COp.load false 1 (CX.t 21)), none⟩, (DK.quiet [0])⟩,
           ⟨2, ⟨(some 14), (COp.move (CX.t 4)), none⟩, (DK.quiet [0])⟩,
           ⟨1, ⟨(some 13), (COp.move (CX.t 0)), none⟩, (DK.quiet [0])⟩,
           ⟨3, ⟨(some 15), (COp.indexAddr 3 (CX.t 13) (CX.t 14)), none⟩, (DK.quiet [0])⟩,
           ⟨4, ⟨(some 16), (COp.fieldAddr 0 (CX.t 15)), none⟩, (DK.quiet [0])⟩,
           ⟨5, ⟨(some 17), (COp.load false 1 (CX.t 16)), none⟩, (DK.quiet [0])⟩,
           ⟨16, ⟨(some 28), (COp.build [CVal.nilSlice, CVal.nilSlice, CVal.int (Go.IntKind.i64) 0] [(0, 1, CX.t 17), (1, 1, CX.t 22), (2, 1, CX.t 27)]), none⟩, (DK.quiet [0])⟩,
           ⟨17, ⟨(some 29), (COp.buildSlice [CVal.nilSlice, CVal.nilSlice, CVal.int (Go.IntKind.i64) 0] 1 [(0, 3, CX.t 28)]), none⟩, (DK.eff)⟩,
           ⟨0, ⟨(some 12), (COp.move (CX.t 3)), none⟩, (DK.quiet [0, 17])⟩,
           ⟨18, ⟨(some 30), (COp.append 3 56 (CX.t 12) (CX.t 29)), none⟩, (DK.eff)⟩,
           ⟨19, ⟨(some 3), (COp.move (CX.t 30)), none⟩, (DK.quiet [19])⟩] 0))
        (.region [⟨(some 10), (COp.move (CX.t 4)), none⟩,
          ⟨(some 11), (COp.bin (Go.BinOp.add) (CX.t 10) (CX.c (CVal.int (Go.IntKind.i64) 1))), none⟩,
          ⟨(some 4), (COp.move (CX.t 11)), none⟩]))))))
   (.seq (.region [⟨(some 31), (COp.move (CX.t 3)), none⟩,
      ⟨(some 2), (COp.move (CX.t 31)), none⟩])
    (.ret))))⟩
theorem ok16 : compFunc prog glb 16 p16 = some c16 := by kernel_rfl
/-- signalbox/fair.Fair -/
def p17 : List Plan := []
def c17 : CFunc := ⟨29, [CRV.tmp 4],
 .seq (.region [⟨(some 4), (COp.move (CX.c (CVal.bool false))), none⟩])
 (.seq (.seq (.region [⟨(some 7), (COp.move (CX.t 0)), none⟩,
     ⟨(some 8), (COp.bin (Go.BinOp.lss) (CX.t 7) (CX.c (CVal.int (Go.IntKind.i64) 1))), none⟩])
   (.cond (CX.t 8) (.seq (.region [⟨(some 4), (COp.move (CX.c (CVal.bool false))), none⟩])
     (.ret))
    (.skip)))
  (.seq (.seq (.region [⟨(some 5), (COp.move (CX.c (CVal.int (Go.IntKind.i64) 0))), none⟩])
    (.block 0 (.loop (.seq (.seq (.region [⟨(some 9), (COp.move (CX.t 0)), none⟩,
          ⟨(some 10), (COp.move (CX.t 1)), none⟩,
          ⟨(some 11), (COp.len (LK.slice) (CX.t 10)), none⟩,
          ⟨(some 12), (COp.move (CX.t 5)), none⟩,
          ⟨(some 13), (COp.bin (Go.BinOp.sub) (CX.t 11) (CX.t 12)), none⟩,
          ⟨(some 14), (COp.bin (Go.BinOp.leq) (CX.t 9) (CX.t 13)), none⟩])
        (.cond (CX.t 14) (.skip)
         (.exit 0)))
       (.seq (.block 1 (.seq (.region [⟨(some 17), (COp.move (CX.t 1)), none⟩,
            ⟨(some 18), (COp.move (CX.t 5)), none⟩,
            ⟨(some 19), (COp.move (CX.t 5)), none⟩,
            ⟨(some 20), (COp.move (CX.t 0)), none⟩,
            ⟨(some 21), (COp.bin (Go.BinOp.add) (CX.t 19) (CX.t 20)), none⟩,
            ⟨(some 22), (COp.slice 3 (CX.t 17) (some (CX.t 18)) (some (CX.t 21)) none), none⟩,
            ⟨(some 6), (COp.new [CVal.nilSlice]), none⟩,
            ⟨none, (COp.store 1 (CX.t 6) (CX.t 22)), none⟩])
          (.seq (.region [⟨(some 23), (COp.load false 1 (CX.t 6)), none⟩,
             ⟨(some 24), (COp.indexAddr 3 (CX.t 23) (CX.c (CVal.int (Go.IntKind.i64) 0))), none⟩,
             ⟨(some 25), (COp.fieldAddr 0 (CX.t 24)), none⟩,
             ⟨(some 26), (COp.load false 1 (CX.t 25)), none⟩,
             ⟨(some 27), (COp.func 31 [] [CX.t 6]), none⟩,
             ⟨(some 28), (COp.call (CX.c (CVal.func 30 [] [])) [CX.t 26, CX.t 27]), none⟩])
           (.cond (CX.t 28) (.seq (.region [⟨(some 4), (COp.move (CX.c (CVal.bool false))), none⟩])
             (.ret))
            (.skip)))))
        (.region [⟨(some 15), (COp.move (CX.t 5)), none⟩,
          ⟨(some 16), (COp.bin (Go.BinOp.add) (CX.t 15) (CX.c (CVal.int (Go.IntKind.i64) 1))), none⟩,
          ⟨(some 5), (COp.move (CX.t 16)), none⟩]))))))
   (.seq (.region [⟨(some 4), (COp.move (CX.c (CVal.bool true))), none⟩])
    (.ret))))⟩
theorem ok17 : compFunc prog glb 17 p17 = some c17 := by kernel_rfl
/-- signalbox/signalboxref31.Fair -/
def p18 : List Plan := []
def c18 : CFunc := ⟨72, [CRV.tmp 4],
 .seq (.region [⟨(some 4), (COp.move (CX.c (CVal.bool false))), none⟩])
 (.seq (.seq (.region [⟨(some 11), (COp.move (CX.t 0)), none⟩,
     ⟨(some 12), (COp.bin (Go.BinOp.lss) (CX.t 11) (CX.c (CVal.int (Go.IntKind.i64) 1))), none⟩])
   (.cond (CX.t 12) (.seq (.region [⟨(some 4), (COp.move (CX.c (CVal.bool false))), none⟩])
     (.ret))
    (.skip)))
  (.seq (.seq (.region [⟨(some 5), (COp.move (CX.c (CVal.int (Go.IntKind.i64) 0))), none⟩])
    (.block 0 (.loop (.seq (.seq (.region [⟨(some 13), (COp.move (CX.t 0)), none⟩,
          ⟨(some 14), (COp.move (CX.t 1)), none⟩,
          ⟨(some 15), (COp.len (LK.slice) (CX.t 14)), none⟩,
          ⟨(some 16), (COp.move (CX.t 5)), none⟩,
          ⟨(some 17), (COp.bin (Go.BinOp.sub) (CX.t 15) (CX.t 16)), none⟩,
          ⟨(some 18), (COp.bin (Go.BinOp.leq) (CX.t 13) (CX.t 17)), none⟩])
        (.cond (CX.t 18) (.skip)
         (.exit 0)))
       (.seq (.block 1 (.seq (.region [⟨(some 6), (COp.move (CX.c (CVal.int (Go.IntKind.i64) 0))), none⟩])
          (.block 2 (.loop (.seq (.seq (.region [⟨(some 21), (COp.move (CX.t 6)), none⟩,
                ⟨(some 22), (COp.move (CX.t 1)), none⟩,
                ⟨(some 23), (COp.move (CX.t 5)), none⟩,
                ⟨(some 24), (COp.indexAddr 3 (CX.t 22) (CX.t 23)), none⟩,
                ⟨(some 25), (COp.fieldAddr 0 (CX.t 24)), none⟩,
                ⟨(some 26), (COp.load false 1 (CX.t 25)), none⟩,
                ⟨(some 27), (COp.len (LK.slice) (CX.t 26)), none⟩,
                ⟨(some 28), (COp.bin (Go.BinOp.lss) (CX.t 21) (CX.t 27)), none⟩])
              (.cond (CX.t 28) (.skip)
               (.exit 2)))
             (.seq (.block 3 (.seq (.region [⟨(some 31), (COp.move (CX.t 1)), none⟩,
                  ⟨(some 32), (COp.move (CX.t 5)), none⟩,
                  ⟨(some 33), (COp.indexAddr 3 (CX.t 31) (CX.t 32)), none⟩,
                  ⟨(some 34), (COp.fieldAddr 0 (CX.t 33)), none⟩,
                  ⟨(some 35), (COp.load false 1 (CX.t 34)), none⟩,
                  ⟨(some 36), (COp.move (CX.t 6)), none⟩,
                  ⟨(some 37), (COp.indexAddr 1 (CX.t 35) (CX.t 36)), none⟩,
                  ⟨(some 38), (COp.load false 1 (CX.t 37)), none⟩,
                  ⟨(some 7), (COp.move (CX.t 38)), none⟩])
                (.seq (.region [⟨(some 8), (COp.move (CX.c (CVal.bool true))), none⟩,
                   ⟨(some 9), (COp.move (CX.c (CVal.bool false))), none⟩])
                 (.seq (.seq (.region [⟨(some 39), (COp.move (CX.t 5)), none⟩,
                     ⟨(some 10), (COp.move (CX.t 39)), none⟩])
                   (.block 4 (.loop (.seq (.seq (.region [⟨(some 40), (COp.move (CX.t 10)), none⟩,
                         ⟨(some 41), (COp.move (CX.t 5)), none⟩,
                         ⟨(some 42), (COp.move (CX.t 0)), none⟩,
                         ⟨(some 43), (COp.bin (Go.BinOp.add) (CX.t 41) (CX.t 42)), none⟩,
                         ⟨(some 44), (COp.bin (Go.BinOp.lss) (CX.t 40) (CX.t 43)), none⟩])
                       (.cond (CX.t 44) (.skip)
                        (.exit 4)))
                      (.seq (.block 5 (.seq (.region [⟨(some 47), (COp.move (CX.t 8)), none⟩,
                           ⟨(some 48), (COp.move (CX.t 47)), none⟩,
                           ⟨(some 49), (COp.move (CX.t 1)), (some (48, true))⟩,
                           ⟨(some 50), (COp.move (CX.t 10)), (some (48, true))⟩,
                           ⟨(some 51), (COp.indexAddr 3 (CX.t 49) (CX.t 50)), (some (48, true))⟩,
                           ⟨(some 52), (COp.fieldAddr 0 (CX.t 51)), (some (48, true))⟩,
                           ⟨(some 53), (COp.load false 1 (CX.t 52)), (some (48, true))⟩,
                           ⟨(some 54), (COp.move (CX.t 7)), (some (48, true))⟩,
                           ⟨(some 55), (COp.call (CX.c (CVal.func 33 [] [])) [CX.t 53, CX.t 54]), (some (48, true))⟩,
                           ⟨(some 56), (COp.pick (CX.t 48) (CX.t 55) (CX.c (CVal.bool false))), none⟩,
                           ⟨(some 8), (COp.move (CX.t 56)), none⟩])
                         (.region [⟨(some 57), (COp.move (CX.t 9)), none⟩,
                           ⟨(some 58), (COp.move (CX.t 57)), none⟩,
                           ⟨(some 59), (COp.move (CX.t 1)), (some (58, false))⟩,
                           ⟨(some 60), (COp.move (CX.t 10)), (some (58, false))⟩,
                           ⟨(some 61), (COp.indexAddr 3 (CX.t 59) (CX.t 60)), (some (58, false))⟩,
                           ⟨(some 62), (COp.fieldAddr 2 (CX.t 61)), (some (58, false))⟩,
                           ⟨(some 63), (COp.load false 1 (CX.t 62)), (some (58, false))⟩,
                           ⟨(some 64), (COp.move (CX.t 7)), (some (58, false))⟩,
                           ⟨(some 65), (COp.bin (Go.BinOp.eql) (CX.t 63) (CX.t 64)), (some (58, false))⟩,
                           ⟨(some 66), (COp.pick (CX.t 58) (CX.c (CVal.bool true)) (CX.t 65)), none⟩,
                           ⟨(some 9), (COp.move (CX.t 66)), none⟩])))
                       (.region [⟨(some 45), (COp.move (CX.t 10)), none⟩,
                         ⟨(some 46), (COp.bin (Go.BinOp.add) (CX.t 45) (CX.c (CVal.int (Go.IntKind.i64) 1))), none⟩,
                         ⟨(some 10), (COp.move (CX.t 46)), none⟩]))))))
                  (.seq (.region [⟨(some 67), (COp.move (CX.t 8)), none⟩,
                     ⟨(some 68), (COp.move (CX.t 67)), none⟩,
                     ⟨(some 69), (COp.move (CX.t 9)), (some (68, true))⟩,
                     ⟨(some 70), (COp.un (Go.UnOp.not) (CX.t 69)), (some (68, true))⟩,
                     ⟨(some 71), (COp.pick (CX.t 68) (CX.t 70) (CX.c (CVal.bool false))), none⟩])
                   (.cond (CX.t 71) (.seq (.region [⟨(some 4), (COp.move (CX.c (CVal.bool false))), none⟩])
                     (.ret))
                    (.skip)))))))
              (.region [⟨(some 29), (COp.move (CX.t 6)), none⟩,
                ⟨(some 30), (COp.bin (Go.BinOp.add) (CX.t 29) (CX.c (CVal.int (Go.IntKind.i64) 1))), none⟩,
                ⟨(some 6), (COp.move (CX.t 30)), none⟩])))))))
        (.region [⟨(some 19), (COp.move (CX.t 5)), none⟩,
          ⟨(some 20), (COp.bin (Go.BinOp.add) (CX.t 19) (CX.c (CVal.int (Go.IntKind.i64) 1))), none⟩,
          ⟨(some 5), (COp.move (CX.t 20)), none⟩]))))))
   (.seq (.region [⟨(some 4), (COp.move (CX.c (CVal.bool true))), none⟩])
    (.ret))))⟩
theorem ok18 : compFunc prog glb 18 p18 = some c18 := by kernel_rfl
/-- signalbox/fair.Work -/
def p19 : List Plan := []
def c19 : CFunc := ⟨46, [CRV.tmp 2],
 .seq (.region [⟨(some 2), (COp.move (CX.c (CVal.int (Go.IntKind.i64) 0))), none⟩])
 (.seq (.region [⟨(some 9), (COp.newMap), none⟩,
    ⟨(some 3), (COp.move (CX.t 9)), none⟩])
  (.seq (.seq (.region [⟨(some 10), (COp.move (CX.t 0)), none⟩,
      ⟨(some 11), (COp.len (LK.slice) (CX.t 10)), none⟩,
      ⟨(some 12), (COp.move (CX.c (CVal.int (Go.IntKind.i64) 0))), none⟩])
    (.block 0 (.loop (.seq (.region [⟨(some 13), (COp.bin (Go.BinOp.lss) (CX.t 12) (CX.t 11)), none⟩])
       (.seq (.cond (CX.t 13) (.skip)
         (.exit 0))
        (.seq (.block 1 (.seq (.region [⟨(some 14), (COp.indexAddr 3 (CX.t 10) (CX.t 12)), none⟩,
             ⟨(some 15), (COp.load true 3 (CX.t 14)), none⟩,
             ⟨(some 5), (COp.new [CVal.nilSlice, CVal.nilSlice, CVal.int (Go.IntKind.i64) 0]), none⟩,
             ⟨none, (COp.store 3 (CX.t 5) (CX.t 15)), none⟩])
           (.seq (.region [⟨(some 16), (COp.newMap), none⟩,
              ⟨(some 6), (COp.move (CX.t 16)), none⟩])
            (.seq (.seq (.region [⟨(some 17), (COp.fieldAddr 1 (CX.t 5)), none⟩,
                ⟨(some 18), (COp.load false 1 (CX.t 17)), none⟩,
                ⟨(some 19), (COp.len (LK.slice) (CX.t 18)), none⟩,
                ⟨(some 20), (COp.move (CX.c (CVal.int (Go.IntKind.i64) 0))), none⟩])
              (.block 2 (.loop (.seq (.region [⟨(some 21), (COp.bin (Go.BinOp.lss) (CX.t 20) (CX.t 19)), none⟩])
                 (.seq (.cond (CX.t 21) (.skip)
                   (.exit 2))
                  (.seq (.block 3 (.seq (.region [⟨(some 22), (COp.indexAddr 1 (CX.t 18) (CX.t 20)), none⟩,
                       ⟨(some 23), (COp.load false 1 (CX.t 22)), none⟩,
                       ⟨(some 8), (COp.move (CX.t 23)), none⟩])
                     (.seq (.region [⟨(some 24), (COp.move (CX.t 6)), none⟩,
                        ⟨(some 25), (COp.move (CX.t 8)), none⟩,
                        ⟨(some 26), (COp.move (CX.t 3)), none⟩,
                        ⟨(some 27), (COp.move (CX.t 8)), none⟩,
                        ⟨(some 28), (COp.lookup (KT.one (PK.int)) (CVal.int (Go.IntKind.i64) 0) false (CX.t 26) (CX.t 27)), none⟩,
                        ⟨none, (COp.mapUpdate (KT.one (PK.int)) (CX.t 24) (CX.t 25) (CX.t 28)), none⟩])
                      (.seq (.seq (.region [⟨(some 29), (COp.move (CX.t 8)), none⟩,
                          ⟨(some 30), (COp.fieldAddr 2 (CX.t 5)), none⟩,
                          ⟨(some 31), (COp.load false 1 (CX.t 30)), none⟩,
                          ⟨(some 32), (COp.bin (Go.BinOp.eql) (CX.t 29) (CX.t 31)), none⟩])
                        (.cond (CX.t 32) (.region [⟨(some 33), (COp.move (CX.t 6)), none⟩,
                           ⟨(some 34), (COp.move (CX.t 8)), none⟩,
                           ⟨(some 35), (COp.lookup (KT.one (PK.int)) (CVal.int (Go.IntKind.i64) 0) false (CX.t 33) (CX.t 34)), none⟩,
                           ⟨(some 36), (COp.bin (Go.BinOp.add) (CX.t 35) (CX.c (CVal.int (Go.IntKind.i64) 1))), none⟩,
                           ⟨none, (COp.mapUpdate (KT.one (PK.int)) (CX.t 33) (CX.t 34) (CX.t 36)), none⟩])
                         (.skip)))
                       (.region [⟨(some 37), (COp.move (CX.t 2)), none⟩,
                         ⟨(some 38), (COp.move (CX.t 6)), none⟩,
                         ⟨(some 39), (COp.move (CX.t 8)), none⟩,
                         ⟨(some 40), (COp.lookup (KT.one (PK.int)) (CVal.int (Go.IntKind.i64) 0) false (CX.t 38) (CX.t 39)), none⟩,
                         ⟨(some 41), (COp.maxmin true (CX.t 37) [CX.t 40]), none⟩,
                         ⟨(some 2), (COp.move (CX.t 41)), none⟩])))))
                   (.region [⟨(some 42), (COp.bin (Go.BinOp.add) (CX.t 20) (CX.c (CVal.int (Go.IntKind.i64) 1))), none⟩,
                     ⟨(some 20), (COp.move (CX.t 42)), none⟩])))))))
             (.region [⟨(some 43), (COp.move (CX.t 6)), none⟩,
               ⟨(some 3), (COp.move (CX.t 43)), none⟩])))))
         (.region [⟨(some 44), (COp.bin (Go.BinOp.add) (CX.t 12) (CX.c (CVal.int (Go.IntKind.i64) 1))), none⟩,
           ⟨(some 12), (COp.move (CX.t 44)), none⟩])))))))
   (.seq (.region [⟨(some 45), (COp.move (CX.t 2)), none⟩,
      ⟨(some 2), (COp.move (CX.t 45)), none⟩])
    (.ret))))⟩
theorem ok19 : compFunc prog glb 19 p19 = some c19 := by kernel_rfl
/-- signalbox/signalboxref31.Work -/
def p20 : List Plan := []
def c20 : CFunc := ⟨62, [CRV.tmp 2],
 .seq (.region [⟨(some 2), (COp.move (CX.c (CVal.int (Go.IntKind.i64) 0))), none⟩])
 (.seq (.region [⟨(some 3), (COp.move (CX.c (CVal.int (Go.IntKind.i64) 0))), none⟩])
  (.seq (.seq (.region [⟨(some 4), (COp.move (CX.c (CVal.int (Go.IntKind.i64) 0))), none⟩])
    (.block 0 (.loop (.seq (.seq (.region [⟨(some 9), (COp.move (CX.t 4)), none⟩,
          ⟨(some 10), (COp.move (CX.t 0)), none⟩,
          ⟨(some 11), (COp.len (LK.slice) (CX.t 10)), none⟩,
          ⟨(some 12), (COp.bin (Go.BinOp.lss) (CX.t 9) (CX.t 11)), none⟩])
        (.cond (CX.t 12) (.skip)
         (.exit 0)))
       (.seq (.block 1 (.seq (.region [⟨(some 5), (COp.move (CX.c (CVal.int (Go.IntKind.i64) 0))), none⟩])
          (.block 2 (.loop (.seq (.seq (.region [⟨(some 15), (COp.move (CX.t 5)), none⟩,
                ⟨(some 16), (COp.move (CX.t 0)), none⟩,
                ⟨(some 17), (COp.move (CX.t 4)), none⟩,
                ⟨(some 18), (COp.indexAddr 3 (CX.t 16) (CX.t 17)), none⟩,
                ⟨(some 19), (COp.fieldAddr 1 (CX.t 18)), none⟩,
                ⟨(some 20), (COp.load false 1 (CX.t 19)), none⟩,
                ⟨(some 21), (COp.len (LK.slice) (CX.t 20)), none⟩,
                ⟨(some 22), (COp.bin (Go.BinOp.lss) (CX.t 15) (CX.t 21)), none⟩])
              (.cond (CX.t 22) (.skip)
               (.exit 2)))
             (.seq (.block 3 (.seq (.region [⟨(some 25), (COp.move (CX.t 0)), none⟩,
                  ⟨(some 26), (COp.move (CX.t 4)), none⟩,
                  ⟨(some 27), (COp.indexAddr 3 (CX.t 25) (CX.t 26)), none⟩,
                  ⟨(some 28), (COp.fieldAddr 1 (CX.t 27)), none⟩,
                  ⟨(some 29), (COp.load false 1 (CX.t 28)), none⟩,
                  ⟨(some 30), (COp.move (CX.t 5)), none⟩,
                  ⟨(some 31), (COp.indexAddr 1 (CX.t 29) (CX.t 30)), none⟩,
                  ⟨(some 32), (COp.load false 1 (CX.t 31)), none⟩,
                  ⟨(some 6), (COp.move (CX.t 32)), none⟩])
                (.seq (.region [⟨(some 7), (COp.move (CX.c (CVal.int (Go.IntKind.i64) 0))), none⟩])
                 (.seq (.seq (.region [⟨(some 33), (COp.move (CX.t 4)), none⟩,
                     ⟨(some 8), (COp.move (CX.t 33)), none⟩])
                   (.block 4 (.loop (.seq (.seq (.region [⟨(some 34), (COp.move (CX.t 8)), none⟩,
                         ⟨(some 35), (COp.move (CX.t 0)), none⟩,
                         ⟨(some 36), (COp.len (LK.slice) (CX.t 35)), none⟩,
                         ⟨(some 37), (COp.bin (Go.BinOp.lss) (CX.t 34) (CX.t 36)), none⟩,
                         ⟨(some 38), (COp.move (CX.t 37)), none⟩,
                         ⟨(some 39), (COp.move (CX.t 0)), (some (38, true))⟩,
                         ⟨(some 40), (COp.move (CX.t 8)), (some (38, true))⟩,
                         ⟨(some 41), (COp.indexAddr 3 (CX.t 39) (CX.t 40)), (some (38, true))⟩,
                         ⟨(some 42), (COp.fieldAddr 1 (CX.t 41)), (some (38, true))⟩,
                         ⟨(some 43), (COp.load false 1 (CX.t 42)), (some (38, true))⟩,
                         ⟨(some 44), (COp.move (CX.t 6)), (some (38, true))⟩,
                         ⟨(some 45), (COp.call (CX.c (CVal.func 33 [] [])) [CX.t 43, CX.t 44]), (some (38, true))⟩,
                         ⟨(some 46), (COp.pick (CX.t 38) (CX.t 45) (CX.c (CVal.bool false))), none⟩])
                       (.cond (CX.t 46) (.skip)
                        (.exit 4)))
                      (.seq (.block 5 (.seq (.region [⟨(some 49), (COp.move (CX.t 0)), none⟩,
                           ⟨(some 50), (COp.move (CX.t 8)), none⟩,
                           ⟨(some 51), (COp.indexAddr 3 (CX.t 49) (CX.t 50)), none⟩,
                           ⟨(some 52), (COp.fieldAddr 2 (CX.t 51)), none⟩,
                           ⟨(some 53), (COp.load false 1 (CX.t 52)), none⟩,
                           ⟨(some 54), (COp.move (CX.t 6)), none⟩,
                           ⟨(some 55), (COp.bin (Go.BinOp.eql) (CX.t 53) (CX.t 54)), none⟩])
                         (.cond (CX.t 55) (.region [⟨(some 56), (COp.move (CX.t 7)), none⟩,
                            ⟨(some 57), (COp.bin (Go.BinOp.add) (CX.t 56) (CX.c (CVal.int (Go.IntKind.i64) 1))), none⟩,
                            ⟨(some 7), (COp.move (CX.t 57)), none⟩])
                          (.skip))))
                       (.region [⟨(some 47), (COp.move (CX.t 8)), none⟩,
                         ⟨(some 48), (COp.bin (Go.BinOp.add) (CX.t 47) (CX.c (CVal.int (Go.IntKind.i64) 1))), none⟩,
                         ⟨(some 8), (COp.move (CX.t 48)), none⟩]))))))
                  (.region [⟨(some 58), (COp.move (CX.t 3)), none⟩,
                    ⟨(some 59), (COp.move (CX.t 7)), none⟩,
                    ⟨(some 60), (COp.maxmin true (CX.t 58) [CX.t 59]), none⟩,
                    ⟨(some 3), (COp.move (CX.t 60)), none⟩])))))
              (.region [⟨(some 23), (COp.move (CX.t 5)), none⟩,
                ⟨(some 24), (COp.bin (Go.BinOp.add) (CX.t 23) (CX.c (CVal.int (Go.IntKind.i64) 1))), none⟩,
                ⟨(some 5), (COp.move (CX.t 24)), none⟩])))))))
        (.region [⟨(some 13), (COp.move (CX.t 4)), none⟩,
          ⟨(some 14), (COp.bin (Go.BinOp.add) (CX.t 13) (CX.c (CVal.int (Go.IntKind.i64) 1))), none⟩,
          ⟨(some 4), (COp.move (CX.t 14)), none⟩]))))))
   (.seq (.region [⟨(some 61), (COp.move (CX.t 3)), none⟩,
      ⟨(some 2), (COp.move (CX.t 61)), none⟩])
    (.ret))))⟩
theorem ok20 : compFunc prog glb 20 p20 = some c20 := by kernel_rfl
/-- signalbox/fair.Bound -/
def p21 : List Plan := []
def c21 : CFunc := ⟨78, [CRV.tmp 8, CRV.tmp 9],
 .seq (.region [⟨(some 8), (COp.move (CX.c (CVal.int (Go.IntKind.i64) 0))), none⟩,
   ⟨(some 9), (COp.move (CX.c (CVal.bool false))), none⟩])
 (.seq (.block 0 (.seq (.region [⟨(some 11), (COp.move (CX.t 0)), none⟩,
      ⟨(some 12), (COp.bin (Go.BinOp.lss) (CX.t 11) (CX.c (CVal.int (Go.IntKind.i64) 0))), none⟩,
      ⟨(some 13), (COp.move (CX.t 12)), none⟩,
      ⟨(some 14), (COp.move (CX.t 1)), (some (13, false))⟩,
      ⟨(some 15), (COp.bin (Go.BinOp.lss) (CX.t 14) (CX.c (CVal.int (Go.IntKind.i64) 0))), (some (13, false))⟩,
      ⟨(some 16), (COp.pick (CX.t 13) (CX.c (CVal.bool true)) (CX.t 15)), none⟩,
      ⟨(some 17), (COp.move (CX.t 16)), none⟩,
      ⟨(some 18), (COp.move (CX.t 2)), (some (17, false))⟩,
      ⟨(some 19), (COp.bin (Go.BinOp.lss) (CX.t 18) (CX.c (CVal.int (Go.IntKind.i64) 0))), (some (17, false))⟩,
      ⟨(some 20), (COp.pick (CX.t 17) (CX.c (CVal.bool true)) (CX.t 19)), none⟩,
      ⟨(some 21), (COp.move (CX.t 20)), none⟩,
      ⟨(some 22), (COp.move (CX.t 3)), (some (21, false))⟩,
      ⟨(some 23), (COp.bin (Go.BinOp.lss) (CX.t 22) (CX.c (CVal.int (Go.IntKind.i64) 0))), (some (21, false))⟩,
      ⟨(some 24), (COp.pick (CX.t 21) (CX.c (CVal.bool true)) (CX.t 23)), none⟩,
      ⟨(some 10), (COp.move (CX.t 24)), none⟩])
    (.cond (CX.t 10) (.seq (.region [⟨(some 8), (COp.move (CX.c (CVal.int (Go.IntKind.i64) 0))), none⟩,
        ⟨(some 9), (COp.move (CX.c (CVal.bool false))), none⟩])
      (.ret))
     (.seq (.region [⟨(some 26), (COp.move (CX.t 0)), none⟩,
        ⟨(some 27), (COp.bin (Go.BinOp.eql) (CX.t 26) (CX.c (CVal.int (Go.IntKind.i64) 0))), none⟩,
        ⟨(some 28), (COp.move (CX.t 27)), none⟩,
        ⟨(some 29), (COp.move (CX.t 1)), (some (28, false))⟩,
        ⟨(some 30), (COp.bin (Go.BinOp.eql) (CX.t 29) (CX.c (CVal.int (Go.IntKind.i64) 0))), (some (28, false))⟩,
        ⟨(some 31), (COp.pick (CX.t 28) (CX.c (CVal.bool true)) (CX.t 30)), none⟩,
        ⟨(some 32), (COp.move (CX.t 31)), none⟩,
        ⟨(some 33), (COp.move (CX.t 2)), (some (32, false))⟩,
        ⟨(some 34), (COp.bin (Go.BinOp.eql) (CX.t 33) (CX.c (CVal.int (Go.IntKind.i64) 0))), (some (32, false))⟩,
        ⟨(some 35), (COp.move (CX.t 34)), (some (32, false))⟩,
        ⟨(some 36), (COp.move (CX.t 3)), (some (35, true))⟩,
        ⟨(some 37), (COp.bin (Go.BinOp.eql) (CX.t 36) (CX.c (CVal.int (Go.IntKind.i64) 0))), (some (35, true))⟩,
        ⟨(some 38), (COp.pick (CX.t 35) (CX.t 37) (CX.c (CVal.bool false))), (some (32, false))⟩,
        ⟨(some 39), (COp.pick (CX.t 32) (CX.c (CVal.bool true)) (CX.t 38)), none⟩,
        ⟨(some 25), (COp.move (CX.t 39)), none⟩])
      (.cond (CX.t 25) (.seq (.region [⟨(some 8), (COp.move (CX.c (CVal.int (Go.IntKind.i64) 0))), none⟩,
          ⟨(some 9), (COp.move (CX.c (CVal.bool true))), none⟩])
        (.ret))
       (.seq (.region [⟨(some 41), (COp.move (CX.t 0)), none⟩,
          ⟨(some 42), (COp.bin (Go.BinOp.gtr) (CX.t 41) (CX.c (CVal.int (Go.IntKind.i64) 2147483647))), none⟩,
          ⟨(some 43), (COp.move (CX.t 42)), none⟩,
          ⟨(some 44), (COp.move (CX.t 1)), (some (43, false))⟩,
          ⟨(some 45), (COp.bin (Go.BinOp.gtr) (CX.t 44) (CX.c (CVal.int (Go.IntKind.i64) 2147483647))), (some (43, false))⟩,
          ⟨(some 46), (COp.pick (CX.t 43) (CX.c (CVal.bool true)) (CX.t 45)), none⟩,
          ⟨(some 47), (COp.move (CX.t 46)), none⟩,
          ⟨(some 48), (COp.move (CX.t 2)), (some (47, false))⟩,
          ⟨(some 49), (COp.bin (Go.BinOp.gtr) (CX.t 48) (CX.c (CVal.int (Go.IntKind.i64) 2147483647))), (some (47, false))⟩,
          ⟨(some 50), (COp.pick (CX.t 47) (CX.c (CVal.bool true)) (CX.t 49)), none⟩,
          ⟨(some 51), (COp.move (CX.t 50)), none⟩,
          ⟨(some 52), (COp.move (CX.t 3)), (some (51, false))⟩,
          ⟨(some 53), (COp.bin (Go.BinOp.gtr) (CX.t 52) (CX.c (CVal.int (Go.IntKind.i64) 2147483647))), (some (51, false))⟩,
          ⟨(some 54), (COp.pick (CX.t 51) (CX.c (CVal.bool true)) (CX.t 53)), none⟩,
          ⟨(some 55), (COp.move (CX.t 54)), none⟩,
          ⟨(some 56), (COp.move (CX.t 0)), (some (55, false))⟩,
          ⟨(some 57), (COp.move (CX.t 1)), (some (55, false))⟩,
          ⟨(some 58), (COp.bin (Go.BinOp.mul) (CX.t 56) (CX.t 57)), (some (55, false))⟩,
          ⟨(some 59), (COp.bin (Go.BinOp.gtr) (CX.t 58) (CX.c (CVal.int (Go.IntKind.i64) 2147483647))), (some (55, false))⟩,
          ⟨(some 60), (COp.pick (CX.t 55) (CX.c (CVal.bool true)) (CX.t 59)), none⟩,
          ⟨(some 61), (COp.move (CX.t 60)), none⟩,
          ⟨(some 62), (COp.move (CX.t 0)), (some (61, false))⟩,
          ⟨(some 63), (COp.move (CX.t 1)), (some (61, false))⟩,
          ⟨(some 64), (COp.bin (Go.BinOp.mul) (CX.t 62) (CX.t 63)), (some (61, false))⟩,
          ⟨(some 65), (COp.move (CX.t 2)), (some (61, false))⟩,
          ⟨(some 66), (COp.move (CX.t 3)), (some (61, false))⟩,
          ⟨(some 67), (COp.bin (Go.BinOp.add) (CX.t 65) (CX.t 66)), (some (61, false))⟩,
          ⟨(some 68), (COp.bin (Go.BinOp.mul) (CX.t 64) (CX.t 67)), (some (61, false))⟩,
          ⟨(some 69), (COp.bin (Go.BinOp.gtr) (CX.t 68) (CX.c (CVal.int (Go.IntKind.i64) 2147483647))), (some (61, false))⟩,
          ⟨(some 70), (COp.pick (CX.t 61) (CX.c (CVal.bool true)) (CX.t 69)), none⟩,
          ⟨(some 40), (COp.move (CX.t 70)), none⟩])
        (.cond (CX.t 40) (.seq (.region [⟨(some 8), (COp.move (CX.c (CVal.int (Go.IntKind.i64) 0))), none⟩,
            ⟨(some 9), (COp.move (CX.c (CVal.bool false))), none⟩])
          (.ret))
         (.skip))))))))
  (.seq (.region [⟨(some 71), (COp.move (CX.t 0)), none⟩,
     ⟨(some 72), (COp.move (CX.t 1)), none⟩,
     ⟨(some 73), (COp.bin (Go.BinOp.mul) (CX.t 71) (CX.t 72)), none⟩,
     ⟨(some 74), (COp.move (CX.t 2)), none⟩,
     ⟨(some 75), (COp.move (CX.t 3)), none⟩,
     ⟨(some 76), (COp.bin (Go.BinOp.add) (CX.t 74) (CX.t 75)), none⟩,
     ⟨(some 77), (COp.bin (Go.BinOp.mul) (CX.t 73) (CX.t 76)), none⟩,
     ⟨(some 8), (COp.move (CX.t 77)), none⟩,
     ⟨(some 9), (COp.move (CX.c (CVal.bool true))), none⟩])
   (.ret)))⟩
theorem ok21 : compFunc prog glb 21 p21 = some c21 := by kernel_rfl
/-- signalbox/signalboxref31.Bound -/
def p22 : List Plan := []
def c22 : CFunc := ⟨82, [CRV.tmp 8, CRV.tmp 9],
 .seq (.region [⟨(some 8), (COp.move (CX.c (CVal.int (Go.IntKind.i64) 0))), none⟩,
   ⟨(some 9), (COp.move (CX.c (CVal.bool false))), none⟩])
 (.seq (.seq (.region [⟨(some 11), (COp.move (CX.t 0)), none⟩,
     ⟨(some 12), (COp.bin (Go.BinOp.lss) (CX.t 11) (CX.c (CVal.int (Go.IntKind.i64) 0))), none⟩,
     ⟨(some 13), (COp.move (CX.t 12)), none⟩,
     ⟨(some 14), (COp.move (CX.t 1)), (some (13, false))⟩,
     ⟨(some 15), (COp.bin (Go.BinOp.lss) (CX.t 14) (CX.c (CVal.int (Go.IntKind.i64) 0))), (some (13, false))⟩,
     ⟨(some 16), (COp.pick (CX.t 13) (CX.c (CVal.bool true)) (CX.t 15)), none⟩,
     ⟨(some 17), (COp.move (CX.t 16)), none⟩,
     ⟨(some 18), (COp.move (CX.t 2)), (some (17, false))⟩,
     ⟨(some 19), (COp.bin (Go.BinOp.lss) (CX.t 18) (CX.c (CVal.int (Go.IntKind.i64) 0))), (some (17, false))⟩,
     ⟨(some 20), (COp.pick (CX.t 17) (CX.c (CVal.bool true)) (CX.t 19)), none⟩,
     ⟨(some 21), (COp.move (CX.t 20)), none⟩,
     ⟨(some 22), (COp.move (CX.t 3)), (some (21, false))⟩,
     ⟨(some 23), (COp.bin (Go.BinOp.lss) (CX.t 22) (CX.c (CVal.int (Go.IntKind.i64) 0))), (some (21, false))⟩,
     ⟨(some 24), (COp.pick (CX.t 21) (CX.c (CVal.bool true)) (CX.t 23)), none⟩])
   (.cond (CX.t 24) (.seq (.region [⟨(some 8), (COp.move (CX.c (CVal.int (Go.IntKind.i64) 0))), none⟩,
       ⟨(some 9), (COp.move (CX.c (CVal.bool false))), none⟩])
     (.ret))
    (.skip)))
  (.seq (.seq (.region [⟨(some 25), (COp.move (CX.t 0)), none⟩,
      ⟨(some 26), (COp.bin (Go.BinOp.eql) (CX.t 25) (CX.c (CVal.int (Go.IntKind.i64) 0))), none⟩,
      ⟨(some 27), (COp.move (CX.t 26)), none⟩,
      ⟨(some 28), (COp.move (CX.t 1)), (some (27, false))⟩,
      ⟨(some 29), (COp.bin (Go.BinOp.eql) (CX.t 28) (CX.c (CVal.int (Go.IntKind.i64) 0))), (some (27, false))⟩,
      ⟨(some 30), (COp.pick (CX.t 27) (CX.c (CVal.bool true)) (CX.t 29)), none⟩,
      ⟨(some 31), (COp.move (CX.t 30)), none⟩,
      ⟨(some 32), (COp.move (CX.t 2)), (some (31, false))⟩,
      ⟨(some 33), (COp.bin (Go.BinOp.eql) (CX.t 32) (CX.c (CVal.int (Go.IntKind.i64) 0))), (some (31, false))⟩,
      ⟨(some 34), (COp.move (CX.t 33)), (some (31, false))⟩,
      ⟨(some 35), (COp.move (CX.t 3)), (some (34, true))⟩,
      ⟨(some 36), (COp.bin (Go.BinOp.eql) (CX.t 35) (CX.c (CVal.int (Go.IntKind.i64) 0))), (some (34, true))⟩,
      ⟨(some 37), (COp.pick (CX.t 34) (CX.t 36) (CX.c (CVal.bool false))), (some (31, false))⟩,
      ⟨(some 38), (COp.pick (CX.t 31) (CX.c (CVal.bool true)) (CX.t 37)), none⟩])
    (.cond (CX.t 38) (.seq (.region [⟨(some 8), (COp.move (CX.c (CVal.int (Go.IntKind.i64) 0))), none⟩,
        ⟨(some 9), (COp.move (CX.c (CVal.bool true))), none⟩])
      (.ret))
     (.skip)))
   (.seq (.region [⟨(some 10), (COp.move (CX.c (CVal.int (Go.IntKind.i64) 2147483647))), none⟩])
    (.seq (.seq (.region [⟨(some 39), (COp.move (CX.t 0)), none⟩,
        ⟨(some 40), (COp.move (CX.t 10)), none⟩,
        ⟨(some 41), (COp.bin (Go.BinOp.gtr) (CX.t 39) (CX.t 40)), none⟩,
        ⟨(some 42), (COp.move (CX.t 41)), none⟩,
        ⟨(some 43), (COp.move (CX.t 1)), (some (42, false))⟩,
        ⟨(some 44), (COp.move (CX.t 10)), (some (42, false))⟩,
        ⟨(some 45), (COp.bin (Go.BinOp.gtr) (CX.t 43) (CX.t 44)), (some (42, false))⟩,
        ⟨(some 46), (COp.pick (CX.t 42) (CX.c (CVal.bool true)) (CX.t 45)), none⟩,
        ⟨(some 47), (COp.move (CX.t 46)), none⟩,
        ⟨(some 48), (COp.move (CX.t 2)), (some (47, false))⟩,
        ⟨(some 49), (COp.move (CX.t 10)), (some (47, false))⟩,
        ⟨(some 50), (COp.bin (Go.BinOp.gtr) (CX.t 48) (CX.t 49)), (some (47, false))⟩,
        ⟨(some 51), (COp.pick (CX.t 47) (CX.c (CVal.bool true)) (CX.t 50)), none⟩,
        ⟨(some 52), (COp.move (CX.t 51)), none⟩,
        ⟨(some 53), (COp.move (CX.t 3)), (some (52, false))⟩,
        ⟨(some 54), (COp.move (CX.t 10)), (some (52, false))⟩,
        ⟨(some 55), (COp.bin (Go.BinOp.gtr) (CX.t 53) (CX.t 54)), (some (52, false))⟩,
        ⟨(some 56), (COp.pick (CX.t 52) (CX.c (CVal.bool true)) (CX.t 55)), none⟩,
        ⟨(some 57), (COp.move (CX.t 56)), none⟩,
        ⟨(some 58), (COp.move (CX.t 0)), (some (57, false))⟩,
        ⟨(some 59), (COp.move (CX.t 1)), (some (57, false))⟩,
        ⟨(some 60), (COp.bin (Go.BinOp.mul) (CX.t 58) (CX.t 59)), (some (57, false))⟩,
        ⟨(some 61), (COp.move (CX.t 10)), (some (57, false))⟩,
        ⟨(some 62), (COp.bin (Go.BinOp.gtr) (CX.t 60) (CX.t 61)), (some (57, false))⟩,
        ⟨(some 63), (COp.pick (CX.t 57) (CX.c (CVal.bool true)) (CX.t 62)), none⟩,
        ⟨(some 64), (COp.move (CX.t 63)), none⟩,
        ⟨(some 65), (COp.move (CX.t 0)), (some (64, false))⟩,
        ⟨(some 66), (COp.move (CX.t 1)), (some (64, false))⟩,
        ⟨(some 67), (COp.bin (Go.BinOp.mul) (CX.t 65) (CX.t 66)), (some (64, false))⟩,
        ⟨(some 68), (COp.move (CX.t 10)), (some (64, false))⟩,
        ⟨(some 69), (COp.move (CX.t 2)), (some (64, false))⟩,
        ⟨(some 70), (COp.move (CX.t 3)), (some (64, false))⟩,
        ⟨(some 71), (COp.bin (Go.BinOp.add) (CX.t 69) (CX.t 70)), (some (64, false))⟩,
        ⟨(some 72), (COp.bin (Go.BinOp.quo) (CX.t 68) (CX.t 71)), (some (64, false))⟩,
        ⟨(some 73), (COp.bin (Go.BinOp.gtr) (CX.t 67) (CX.t 72)), (some (64, false))⟩,
        ⟨(some 74), (COp.pick (CX.t 64) (CX.c (CVal.bool true)) (CX.t 73)), none⟩])
      (.cond (CX.t 74) (.seq (.region [⟨(some 8), (COp.move (CX.c (CVal.int (Go.IntKind.i64) 0))), none⟩,
          ⟨(some 9), (COp.move (CX.c (CVal.bool false))), none⟩])
        (.ret))
       (.skip)))
     (.seq (.region [⟨(some 75), (COp.move (CX.t 0)), none⟩,
        ⟨(some 76), (COp.move (CX.t 1)), none⟩,
        ⟨(some 77), (COp.bin (Go.BinOp.mul) (CX.t 75) (CX.t 76)), none⟩,
        ⟨(some 78), (COp.move (CX.t 2)), none⟩,
        ⟨(some 79), (COp.move (CX.t 3)), none⟩,
        ⟨(some 80), (COp.bin (Go.BinOp.add) (CX.t 78) (CX.t 79)), none⟩,
        ⟨(some 81), (COp.bin (Go.BinOp.mul) (CX.t 77) (CX.t 80)), none⟩,
        ⟨(some 8), (COp.move (CX.t 81)), none⟩,
        ⟨(some 9), (COp.move (CX.c (CVal.bool true))), none⟩])
      (.ret))))))⟩
theorem ok22 : compFunc prog glb 22 p22 = some c22 := by kernel_rfl
/-- signalbox/signalboxref1.Ints -/
def p23 : List Plan := [⟨[(5, DK.quiet [0]), (4, DK.quiet [0]), (6, DK.quiet [0]), (7, DK.quiet [0]), (1, DK.quiet [0]), (0, DK.quiet [0]), (2, DK.quiet [0]), (3, DK.quiet [0]), (8, DK.quiet [0])], 0, [0, 0, 3, 7, 0, 0, 48, 112, 255]⟩]
def c23 : CFunc := ⟨26, [CRV.tmp 4],
 .seq (.region [⟨(some 4), (COp.move (CX.c (CVal.bool false))), none⟩])
 (.seq (.seq (.region [⟨(some 6), (COp.move (CX.t 0)), none⟩,
     ⟨(some 7), (COp.len (LK.slice) (CX.t 6)), none⟩,
     ⟨(some 8), (COp.move (CX.t 1)), none⟩,
     ⟨(some 9), (COp.len (LK.slice) (CX.t 8)), none⟩,
     ⟨(some 10), (COp.bin (Go.BinOp.neq) (CX.t 7) (CX.t 9)), none⟩])
   (.cond (CX.t 10) (.seq (.region [⟨(some 4), (COp.move (CX.c (CVal.bool false))), none⟩])
     (.ret))
    (.skip)))
  (.seq (.seq (.region [⟨(some 5), (COp.move (CX.c (CVal.int (Go.IntKind.i64) 0))), none⟩])
    (.block 0 (.loop (.seq (.seq (.region [⟨(some 11), (COp.move (CX.t 5)), none⟩,
          ⟨(some 12), (COp.move (CX.t 0)), none⟩,
          ⟨(some 13), (COp.len (LK.slice) (CX.t 12)), none⟩,
          ⟨(some 14), (COp.bin (Go.BinOp.lss) (CX.t 11) (CX.t 13)), none⟩])
        (.cond (CX.t 14) (.skip)
         (.exit 0)))
       (.seq (.block 1 (.seq (.draw [⟨5, ⟨(some 22), (COp.move (CX.t 5)), none⟩, (DK.quiet [0])⟩,
            ⟨4, ⟨(some 21), (COp.move (CX.t 1)), none⟩, (DK.quiet [0])⟩,
            ⟨6, ⟨(some 23), (COp.indexAddr 1 (CX.t 21) (CX.t 22)), none⟩, (DK.quiet [0])⟩,
            ⟨7, ⟨(some 24), (COp.load false 1 (CX.t 23)), none⟩, (DK.quiet [0])⟩,
            ⟨1, ⟨(some 18), (COp.move (CX.t 5)), none⟩, (DK.quiet [0])⟩,
            ⟨0, ⟨(some 17), (COp.move (CX.t 0)), none⟩, (DK.quiet [0])⟩,
            ⟨2, ⟨(some 19), (COp.indexAddr 1 (CX.t 17) (CX.t 18)), none⟩, (DK.quiet [0])⟩,
            ⟨3, ⟨(some 20), (COp.load false 1 (CX.t 19)), none⟩, (DK.quiet [0])⟩,
            ⟨8, ⟨(some 25), (COp.bin (Go.BinOp.neq) (CX.t 20) (CX.t 24)), none⟩, (DK.quiet [0])⟩] 0)
          (.cond (CX.t 25) (.seq (.region [⟨(some 4), (COp.move (CX.c (CVal.bool false))), none⟩])
            (.ret))
           (.skip))))
        (.region [⟨(some 15), (COp.move (CX.t 5)), none⟩,
          ⟨(some 16), (COp.bin (Go.BinOp.add) (CX.t 15) (CX.c (CVal.int (Go.IntKind.i64) 1))), none⟩,
          ⟨(some 5), (COp.move (CX.t 16)), none⟩]))))))
   (.seq (.region [⟨(some 4), (COp.move (CX.c (CVal.bool true))), none⟩])
    (.ret))))⟩
theorem ok23 : compFunc prog glb 23 p23 = some c23 := by kernel_rfl
/-- (*signalbox/segs.Segs).those -/
def p24 : List Plan := []
def c24 : CFunc := ⟨30, [],
 .scope (.seq (.seq (.region [⟨(some 8), (COp.move (CX.t 0)), none⟩,
     ⟨(some 9), (COp.eq (TK.ptr) false (CX.t 8) (CX.c (CVal.nilPtr))), none⟩])
   (.cond (CX.t 9) (.ret)
    (.skip)))
  (.seq (.skip)
   (.seq (.region [⟨(some 10), (COp.move (CX.t 0)), none⟩,
      ⟨(some 11), (COp.nilCheck (CX.t 10)), none⟩,
      ⟨(some 12), (COp.fieldAddr 2 (CX.t 11)), none⟩,
      ⟨(some 13), (COp.load false 1 (CX.t 12)), none⟩,
      ⟨(some 14), (COp.len (LK.slice) (CX.t 13)), none⟩,
      ⟨(some 15), (COp.move (CX.c (CVal.int (Go.IntKind.i64) 0))), none⟩])
    (.block 0 (.loop (.seq (.region [⟨(some 16), (COp.bin (Go.BinOp.lss) (CX.t 15) (CX.t 14)), none⟩])
       (.seq (.cond (CX.t 16) (.skip)
         (.exit 0))
        (.seq (.block 1 (.seq (.region [⟨(some 17), (COp.move (CX.t 15)), none⟩,
             ⟨(some 18), (COp.indexAddr 1 (CX.t 13) (CX.t 15)), none⟩,
             ⟨(some 19), (COp.load false 1 (CX.t 18)), none⟩,
             ⟨(some 6), (COp.move (CX.t 17)), none⟩,
             ⟨(some 7), (COp.move (CX.t 19)), none⟩])
           (.block 2 (.seq (.region [⟨(some 21), (COp.move (CX.t 7)), none⟩,
               ⟨(some 22), (COp.move (CX.t 1)), none⟩,
               ⟨(some 23), (COp.eq (TK.bool) true (CX.t 21) (CX.t 22)), none⟩,
               ⟨(some 20), (COp.move (CX.t 23)), none⟩])
             (.cond (CX.t 20) (.exit 1)
              (.seq (.region [⟨(some 25), (COp.move (CX.t 2)), none⟩,
                 ⟨(some 26), (COp.move (CX.t 6)), none⟩,
                 ⟨(some 27), (COp.call (CX.t 25) [CX.t 26]), none⟩,
                 ⟨(some 28), (COp.un (Go.UnOp.not) (CX.t 27)), none⟩,
                 ⟨(some 24), (COp.move (CX.t 28)), none⟩])
               (.cond (CX.t 24) (.exit 0)
                (.skip))))))))
         (.region [⟨(some 29), (COp.bin (Go.BinOp.add) (CX.t 15) (CX.c (CVal.int (Go.IntKind.i64) 1))), none⟩,
           ⟨(some 15), (COp.move (CX.t 29)), none⟩]))))))))) [(0, .seq (.skip)
  (.seq (.region [⟨(some 10), (COp.move (CX.t 0)), none⟩,
     ⟨(some 11), (COp.nilCheck (CX.t 10)), none⟩,
     ⟨(some 12), (COp.fieldAddr 2 (CX.t 11)), none⟩,
     ⟨(some 13), (COp.load false 1 (CX.t 12)), none⟩,
     ⟨(some 14), (COp.len (LK.slice) (CX.t 13)), none⟩,
     ⟨(some 15), (COp.move (CX.c (CVal.int (Go.IntKind.i64) 0))), none⟩])
   (.block 0 (.loop (.seq (.region [⟨(some 16), (COp.bin (Go.BinOp.lss) (CX.t 15) (CX.t 14)), none⟩])
      (.seq (.cond (CX.t 16) (.skip)
        (.exit 0))
       (.seq (.block 1 (.seq (.region [⟨(some 17), (COp.move (CX.t 15)), none⟩,
            ⟨(some 18), (COp.indexAddr 1 (CX.t 13) (CX.t 15)), none⟩,
            ⟨(some 19), (COp.load false 1 (CX.t 18)), none⟩,
            ⟨(some 6), (COp.move (CX.t 17)), none⟩,
            ⟨(some 7), (COp.move (CX.t 19)), none⟩])
          (.block 2 (.seq (.region [⟨(some 21), (COp.move (CX.t 7)), none⟩,
              ⟨(some 22), (COp.move (CX.t 1)), none⟩,
              ⟨(some 23), (COp.eq (TK.bool) true (CX.t 21) (CX.t 22)), none⟩,
              ⟨(some 20), (COp.move (CX.t 23)), none⟩])
            (.cond (CX.t 20) (.exit 1)
             (.seq (.region [⟨(some 25), (COp.move (CX.t 2)), none⟩,
                ⟨(some 26), (COp.move (CX.t 6)), none⟩,
                ⟨(some 27), (COp.call (CX.t 25) [CX.t 26]), none⟩,
                ⟨(some 28), (COp.un (Go.UnOp.not) (CX.t 27)), none⟩,
                ⟨(some 24), (COp.move (CX.t 28)), none⟩])
              (.cond (CX.t 24) (.exit 0)
               (.skip))))))))
        (.region [⟨(some 29), (COp.bin (Go.BinOp.add) (CX.t 15) (CX.c (CVal.int (Go.IntKind.i64) 1))), none⟩,
          ⟨(some 15), (COp.move (CX.t 29)), none⟩]))))))))]⟩
theorem ok24 : compFunc prog glb 24 p24 = some c24 := by kernel_rfl
/-- (*signalbox/segs.Segs).Take$1 -/
def p25 : List Plan := []
def c25 : CFunc := ⟨15, [CRV.tmp 5],
 .seq (.region [⟨(some 5), (COp.move (CX.c (CVal.bool false))), none⟩])
 (.seq (.region [⟨(some 6), (COp.load false 1 (CX.t 1)), none⟩,
    ⟨(some 7), (COp.move (CX.t 0)), none⟩,
    ⟨(some 8), (COp.call (CX.c (CVal.func 26 [] [])) [CX.t 6, CX.t 7]), none⟩,
    ⟨none, (COp.store 1 (CX.t 2) (CX.t 8)), none⟩,
    ⟨none, (COp.store 1 (CX.t 3) (CX.c (CVal.bool true))), none⟩])
  (.seq (.region [⟨(some 9), (COp.load false 1 (CX.t 1)), none⟩,
     ⟨(some 10), (COp.nilCheck (CX.t 9)), none⟩,
     ⟨(some 11), (COp.fieldAddr 2 (CX.t 10)), none⟩,
     ⟨(some 12), (COp.load false 1 (CX.t 11)), none⟩,
     ⟨(some 13), (COp.move (CX.t 0)), none⟩,
     ⟨(some 14), (COp.indexAddr 1 (CX.t 12) (CX.t 13)), none⟩,
     ⟨none, (COp.store 1 (CX.t 14) (CX.c (CVal.bool true))), none⟩])
   (.seq (.region [⟨(some 5), (COp.move (CX.c (CVal.bool false))), none⟩])
    (.ret))))⟩
theorem ok25 : compFunc prog glb 25 p25 = some c25 := by kernel_rfl
/-- (*signalbox/segs.Segs).at -/
def p26 : List Plan := [⟨[(5, DK.quiet [0]), (6, DK.quiet [0]), (7, DK.quiet [0]), (8, DK.quiet [0]), (4, DK.quiet [0]), (9, DK.quiet [0]), (0, DK.quiet [0]), (1, DK.quiet [0]), (2, DK.quiet [0]), (3, DK.quiet [0]), (10, DK.quiet [0]), (11, DK.quiet [0])], 0, [0, 1, 3, 7, 0, 0, 32, 96, 224, 496, 1023, 2047]⟩]
def c26 : CFunc := ⟨16, [CRV.tmp 4],
 .seq (.region [⟨(some 4), (COp.move (CX.c (CVal.int (Go.IntKind.i64) 0))), none⟩])
 (.seq (.draw [⟨5, ⟨(some 10), (COp.move (CX.t 0)), none⟩, (DK.quiet [0])⟩,
    ⟨6, ⟨(some 11), (COp.nilCheck (CX.t 10)), none⟩, (DK.quiet [0])⟩,
    ⟨7, ⟨(some 12), (COp.fieldAddr 1 (CX.t 11)), none⟩, (DK.quiet [0])⟩,
    ⟨8, ⟨(some 13), (COp.load false 1 (CX.t 12)), none⟩, (DK.quiet [0])⟩,
    ⟨4, ⟨(some 9), (COp.move (CX.t 1)), none⟩, (DK.quiet [0])⟩,
    ⟨9, ⟨(some 14), (COp.bin (Go.BinOp.mul) (CX.t 9) (CX.t 13)), none⟩, (DK.quiet [0])⟩,
    ⟨0, ⟨(some 5), (COp.move (CX.t 0)), none⟩, (DK.quiet [0])⟩,
    ⟨1, ⟨(some 6), (COp.nilCheck (CX.t 5)), none⟩, (DK.quiet [0])⟩,
    ⟨2, ⟨(some 7), (COp.fieldAddr 0 (CX.t 6)), none⟩, (DK.quiet [0])⟩,
    ⟨3, ⟨(some 8), (COp.load false 1 (CX.t 7)), none⟩, (DK.quiet [0])⟩,
    ⟨10, ⟨(some 15), (COp.bin (Go.BinOp.add) (CX.t 8) (CX.t 14)), none⟩, (DK.quiet [0])⟩,
    ⟨11, ⟨(some 4), (COp.move (CX.t 15)), none⟩, (DK.quiet [0])⟩] 0)
  (.ret))⟩
theorem ok26 : compFunc prog glb 26 p26 = some c26 := by kernel_rfl
/-- (*signalbox/segs.Segs).Free$1 -/
def p27 : List Plan := []
def c27 : CFunc := ⟨6, [CRV.tmp 3],
 .seq (.region [⟨(some 3), (COp.move (CX.c (CVal.bool false))), none⟩])
 (.seq (.region [⟨(some 4), (COp.load false 1 (CX.t 1)), none⟩,
    ⟨(some 5), (COp.bin (Go.BinOp.add) (CX.t 4) (CX.c (CVal.int (Go.IntKind.i64) 1))), none⟩,
    ⟨none, (COp.store 1 (CX.t 1) (CX.t 5)), none⟩])
  (.seq (.region [⟨(some 3), (COp.move (CX.c (CVal.bool true))), none⟩])
   (.ret)))⟩
theorem ok27 : compFunc prog glb 27 p27 = some c27 := by kernel_rfl
/-- (*signalbox/segs.Segs).Taken$1 -/
def p28 : List Plan := [⟨[(2, DK.quiet [0]), (1, DK.quiet [0]), (3, DK.eff), (4, DK.eff), (0, DK.quiet [0, 3, 4]), (5, DK.eff), (6, DK.eff)], 0, [0, 0, 0, 6, 14, 31, 63]⟩]
def c28 : CFunc := ⟨11, [CRV.tmp 4],
 .seq (.region [⟨(some 4), (COp.move (CX.c (CVal.bool false))), none⟩])
 (.seq (.draw [⟨2, ⟨(some 7), (COp.move (CX.t 0)), none⟩, (DK.quiet [0])⟩,
    ⟨1, ⟨(some 6), (COp.load false 1 (CX.t 2)), none⟩, (DK.quiet [0])⟩,
    ⟨3, ⟨(some 8), (COp.call (CX.c (CVal.func 26 [] [])) [CX.t 6, CX.t 7]), none⟩, (DK.eff)⟩,
    ⟨4, ⟨(some 9), (COp.buildSlice [CVal.int (Go.IntKind.i64) 0] 1 [(0, 1, CX.t 8)]), none⟩, (DK.eff)⟩,
    ⟨0, ⟨(some 5), (COp.load false 1 (CX.t 1)), none⟩, (DK.quiet [0, 3, 4])⟩,
    ⟨5, ⟨(some 10), (COp.append 1 8 (CX.t 5) (CX.t 9)), none⟩, (DK.eff)⟩,
    ⟨6, ⟨none, (COp.store 1 (CX.t 1) (CX.t 10)), none⟩, (DK.eff)⟩] 0)
  (.seq (.region [⟨(some 4), (COp.move (CX.c (CVal.bool true))), none⟩])
   (.ret)))⟩
theorem ok28 : compFunc prog glb 28 p28 = some c28 := by kernel_rfl
/-- (*signalbox/segs.Segs).Give$1 -/
def p29 : List Plan := [⟨[(1, DK.quiet [0]), (0, DK.quiet [0]), (2, DK.eff), (3, DK.quiet [0, 3]), (4, DK.quiet [3]), (5, DK.eff)], 0, [0, 0, 3, 0, 15, 31]⟩]
def c29 : CFunc := ⟨20, [CRV.tmp 5],
 .seq (.region [⟨(some 5), (COp.move (CX.c (CVal.bool false))), none⟩])
 (.seq (.seq (.draw [⟨1, ⟨(some 7), (COp.move (CX.t 0)), none⟩, (DK.quiet [0])⟩,
     ⟨0, ⟨(some 6), (COp.load false 1 (CX.t 1)), none⟩, (DK.quiet [0])⟩,
     ⟨2, ⟨(some 8), (COp.call (CX.c (CVal.func 26 [] [])) [CX.t 6, CX.t 7]), none⟩, (DK.eff)⟩,
     ⟨3, ⟨(some 9), (COp.load false 1 (CX.t 2)), none⟩, (DK.quiet [0, 3])⟩,
     ⟨4, ⟨(some 10), (COp.bin (Go.BinOp.eql) (CX.t 8) (CX.t 9)), none⟩, (DK.quiet [3])⟩,
     ⟨5, ⟨none, (COp.store 1 (CX.t 3) (CX.t 10)), none⟩, (DK.eff)⟩] 0)
   (.seq (.region [⟨(some 11), (COp.load false 1 (CX.t 3)), none⟩])
    (.cond (CX.t 11) (.region [⟨(some 12), (COp.load false 1 (CX.t 1)), none⟩,
       ⟨(some 13), (COp.nilCheck (CX.t 12)), none⟩,
       ⟨(some 14), (COp.fieldAddr 2 (CX.t 13)), none⟩,
       ⟨(some 15), (COp.load false 1 (CX.t 14)), none⟩,
       ⟨(some 16), (COp.move (CX.t 0)), none⟩,
       ⟨(some 17), (COp.indexAddr 1 (CX.t 15) (CX.t 16)), none⟩,
       ⟨none, (COp.store 1 (CX.t 17) (CX.c (CVal.bool false))), none⟩])
     (.skip))))
  (.seq (.region [⟨(some 18), (COp.load false 1 (CX.t 3)), none⟩,
     ⟨(some 19), (COp.un (Go.UnOp.not) (CX.t 18)), none⟩,
     ⟨(some 5), (COp.move (CX.t 19)), none⟩])
   (.ret)))⟩
theorem ok29 : compFunc prog glb 29 p29 = some c29 := by kernel_rfl
/-- slices.ContainsFunc[[]int,int] -/
def p30 : List Plan := []
def c30 : CFunc := ⟨9, [CRV.tmp 4],
 .seq (.region [⟨(some 4), (COp.move (CX.c (CVal.bool false))), none⟩])
 (.seq (.region [⟨(some 5), (COp.move (CX.t 0)), none⟩,
    ⟨(some 6), (COp.move (CX.t 1)), none⟩,
    ⟨(some 7), (COp.call (CX.c (CVal.func 34 [] [])) [CX.t 5, CX.t 6]), none⟩,
    ⟨(some 8), (COp.bin (Go.BinOp.geq) (CX.t 7) (CX.c (CVal.int (Go.IntKind.i64) 0))), none⟩,
    ⟨(some 4), (COp.move (CX.t 8)), none⟩])
  (.ret))⟩
theorem ok30 : compFunc prog glb 30 p30 = some c30 := by kernel_rfl
/-- signalbox/fair.Fair$1 -/
def p31 : List Plan := []
def c31 : CFunc := ⟨8, [CRV.tmp 3],
 .seq (.region [⟨(some 3), (COp.move (CX.c (CVal.bool false))), none⟩])
 (.seq (.region [⟨(some 4), (COp.move (CX.t 0)), none⟩,
    ⟨(some 5), (COp.load false 1 (CX.t 1)), none⟩,
    ⟨(some 6), (COp.call (CX.c (CVal.func 32 [] [])) [CX.t 4, CX.t 5]), none⟩,
    ⟨(some 7), (COp.un (Go.UnOp.not) (CX.t 6)), none⟩,
    ⟨(some 3), (COp.move (CX.t 7)), none⟩])
  (.ret))⟩
theorem ok31 : compFunc prog glb 31 p31 = some c31 := by kernel_rfl
/-- signalbox/fair.served -/
def p32 : List Plan := []
def c32 : CFunc := ⟨8, [CRV.tmp 4],
 .seq (.region [⟨(some 2), (COp.box (CX.t 0)), none⟩,
   ⟨(some 4), (COp.move (CX.c (CVal.bool false))), none⟩])
 (.seq (.region [⟨(some 5), (COp.move (CX.t 1)), none⟩,
    ⟨(some 6), (COp.func 36 [] [CX.t 2]), none⟩,
    ⟨(some 7), (COp.call (CX.c (CVal.func 35 [] [])) [CX.t 5, CX.t 6]), none⟩,
    ⟨(some 4), (COp.move (CX.t 7)), none⟩])
  (.ret))⟩
theorem ok32 : compFunc prog glb 32 p32 = some c32 := by kernel_rfl
/-- signalbox/signalboxref1.Has -/
def p33 : List Plan := []
def c33 : CFunc := ⟨18, [CRV.tmp 4],
 .seq (.region [⟨(some 4), (COp.move (CX.c (CVal.bool false))), none⟩])
 (.seq (.seq (.region [⟨(some 5), (COp.move (CX.c (CVal.int (Go.IntKind.i64) 0))), none⟩])
   (.block 0 (.loop (.seq (.seq (.region [⟨(some 6), (COp.move (CX.t 5)), none⟩,
         ⟨(some 7), (COp.move (CX.t 0)), none⟩,
         ⟨(some 8), (COp.len (LK.slice) (CX.t 7)), none⟩,
         ⟨(some 9), (COp.bin (Go.BinOp.lss) (CX.t 6) (CX.t 8)), none⟩])
       (.cond (CX.t 9) (.skip)
        (.exit 0)))
      (.seq (.block 1 (.seq (.region [⟨(some 12), (COp.move (CX.t 0)), none⟩,
           ⟨(some 13), (COp.move (CX.t 5)), none⟩,
           ⟨(some 14), (COp.indexAddr 1 (CX.t 12) (CX.t 13)), none⟩,
           ⟨(some 15), (COp.load false 1 (CX.t 14)), none⟩,
           ⟨(some 16), (COp.move (CX.t 1)), none⟩,
           ⟨(some 17), (COp.bin (Go.BinOp.eql) (CX.t 15) (CX.t 16)), none⟩])
         (.cond (CX.t 17) (.seq (.region [⟨(some 4), (COp.move (CX.c (CVal.bool true))), none⟩])
           (.ret))
          (.skip))))
       (.region [⟨(some 10), (COp.move (CX.t 5)), none⟩,
         ⟨(some 11), (COp.bin (Go.BinOp.add) (CX.t 10) (CX.c (CVal.int (Go.IntKind.i64) 1))), none⟩,
         ⟨(some 5), (COp.move (CX.t 11)), none⟩]))))))
  (.seq (.region [⟨(some 4), (COp.move (CX.c (CVal.bool false))), none⟩])
   (.ret)))⟩
theorem ok33 : compFunc prog glb 33 p33 = some c33 := by kernel_rfl
/-- slices.IndexFunc[[]int,int] -/
def p34 : List Plan := []
def c34 : CFunc := ⟨19, [CRV.tmp 4],
 .seq (.region [⟨(some 4), (COp.move (CX.c (CVal.int (Go.IntKind.i64) 0))), none⟩])
 (.seq (.seq (.region [⟨(some 6), (COp.move (CX.t 0)), none⟩,
     ⟨(some 7), (COp.len (LK.slice) (CX.t 6)), none⟩,
     ⟨(some 8), (COp.move (CX.c (CVal.int (Go.IntKind.i64) 0))), none⟩])
   (.block 0 (.loop (.seq (.region [⟨(some 9), (COp.bin (Go.BinOp.lss) (CX.t 8) (CX.t 7)), none⟩])
      (.seq (.cond (CX.t 9) (.skip)
        (.exit 0))
       (.seq (.block 1 (.seq (.region [⟨(some 10), (COp.move (CX.t 8)), none⟩,
            ⟨(some 5), (COp.move (CX.t 10)), none⟩])
          (.seq (.region [⟨(some 11), (COp.move (CX.t 1)), none⟩,
             ⟨(some 12), (COp.move (CX.t 0)), none⟩,
             ⟨(some 13), (COp.move (CX.t 5)), none⟩,
             ⟨(some 14), (COp.indexAddr 1 (CX.t 12) (CX.t 13)), none⟩,
             ⟨(some 15), (COp.load false 1 (CX.t 14)), none⟩,
             ⟨(some 16), (COp.call (CX.t 11) [CX.t 15]), none⟩])
           (.cond (CX.t 16) (.seq (.region [⟨(some 17), (COp.move (CX.t 5)), none⟩,
               ⟨(some 4), (COp.move (CX.t 17)), none⟩])
             (.ret))
            (.skip)))))
        (.region [⟨(some 18), (COp.bin (Go.BinOp.add) (CX.t 8) (CX.c (CVal.int (Go.IntKind.i64) 1))), none⟩,
          ⟨(some 8), (COp.move (CX.t 18)), none⟩])))))))
  (.seq (.region [⟨(some 4), (COp.move (CX.c (CVal.int (Go.IntKind.i64) (-1)))), none⟩])
   (.ret)))⟩
theorem ok34 : compFunc prog glb 34 p34 = some c34 := by kernel_rfl
/-- slices.ContainsFunc[[]signalbox/fair.Step,signalbox/fair.Step] -/
def p35 : List Plan := []
def c35 : CFunc := ⟨9, [CRV.tmp 4],
 .seq (.region [⟨(some 4), (COp.move (CX.c (CVal.bool false))), none⟩])
 (.seq (.region [⟨(some 5), (COp.move (CX.t 0)), none⟩,
    ⟨(some 6), (COp.move (CX.t 1)), none⟩,
    ⟨(some 7), (COp.call (CX.c (CVal.func 38 [] [])) [CX.t 5, CX.t 6]), none⟩,
    ⟨(some 8), (COp.bin (Go.BinOp.geq) (CX.t 7) (CX.c (CVal.int (Go.IntKind.i64) 0))), none⟩,
    ⟨(some 4), (COp.move (CX.t 8)), none⟩])
  (.ret))⟩
theorem ok35 : compFunc prog glb 35 p35 = some c35 := by kernel_rfl
/-- signalbox/fair.served$1 -/
def p36 : List Plan := []
def c36 : CFunc := ⟨15, [CRV.tmp 3],
 .seq (.region [⟨(some 2), (COp.box (CX.t 0)), none⟩,
   ⟨(some 3), (COp.move (CX.c (CVal.bool false))), none⟩])
 (.seq (.region [⟨(some 4), (COp.fieldAddr 2 (CX.t 2)), none⟩,
    ⟨(some 5), (COp.load false 1 (CX.t 4)), none⟩,
    ⟨(some 6), (COp.load false 1 (CX.t 1)), none⟩,
    ⟨(some 7), (COp.bin (Go.BinOp.eql) (CX.t 5) (CX.t 6)), none⟩,
    ⟨(some 8), (COp.move (CX.t 7)), none⟩,
    ⟨(some 9), (COp.fieldAddr 0 (CX.t 2)), (some (8, false))⟩,
    ⟨(some 10), (COp.load false 1 (CX.t 9)), (some (8, false))⟩,
    ⟨(some 11), (COp.load false 1 (CX.t 1)), (some (8, false))⟩,
    ⟨(some 12), (COp.call (CX.c (CVal.func 37 [] [])) [CX.t 10, CX.t 11]), (some (8, false))⟩,
    ⟨(some 13), (COp.un (Go.UnOp.not) (CX.t 12)), (some (8, false))⟩,
    ⟨(some 14), (COp.pick (CX.t 8) (CX.c (CVal.bool true)) (CX.t 13)), none⟩,
    ⟨(some 3), (COp.move (CX.t 14)), none⟩])
  (.ret))⟩
theorem ok36 : compFunc prog glb 36 p36 = some c36 := by kernel_rfl
/-- slices.Contains[[]int,int] -/
def p37 : List Plan := []
def c37 : CFunc := ⟨9, [CRV.tmp 4],
 .seq (.region [⟨(some 4), (COp.move (CX.c (CVal.bool false))), none⟩])
 (.seq (.region [⟨(some 5), (COp.move (CX.t 0)), none⟩,
    ⟨(some 6), (COp.move (CX.t 1)), none⟩,
    ⟨(some 7), (COp.call (CX.c (CVal.func 39 [] [])) [CX.t 5, CX.t 6]), none⟩,
    ⟨(some 8), (COp.bin (Go.BinOp.geq) (CX.t 7) (CX.c (CVal.int (Go.IntKind.i64) 0))), none⟩,
    ⟨(some 4), (COp.move (CX.t 8)), none⟩])
  (.ret))⟩
theorem ok37 : compFunc prog glb 37 p37 = some c37 := by kernel_rfl
/-- slices.IndexFunc[[]signalbox/fair.Step,signalbox/fair.Step] -/
def p38 : List Plan := []
def c38 : CFunc := ⟨19, [CRV.tmp 4],
 .seq (.region [⟨(some 4), (COp.move (CX.c (CVal.int (Go.IntKind.i64) 0))), none⟩])
 (.seq (.seq (.region [⟨(some 6), (COp.move (CX.t 0)), none⟩,
     ⟨(some 7), (COp.len (LK.slice) (CX.t 6)), none⟩,
     ⟨(some 8), (COp.move (CX.c (CVal.int (Go.IntKind.i64) 0))), none⟩])
   (.block 0 (.loop (.seq (.region [⟨(some 9), (COp.bin (Go.BinOp.lss) (CX.t 8) (CX.t 7)), none⟩])
      (.seq (.cond (CX.t 9) (.skip)
        (.exit 0))
       (.seq (.block 1 (.seq (.region [⟨(some 10), (COp.move (CX.t 8)), none⟩,
            ⟨(some 5), (COp.move (CX.t 10)), none⟩])
          (.seq (.region [⟨(some 11), (COp.move (CX.t 1)), none⟩,
             ⟨(some 12), (COp.move (CX.t 0)), none⟩,
             ⟨(some 13), (COp.move (CX.t 5)), none⟩,
             ⟨(some 14), (COp.indexAddr 3 (CX.t 12) (CX.t 13)), none⟩,
             ⟨(some 15), (COp.load true 3 (CX.t 14)), none⟩,
             ⟨(some 16), (COp.call (CX.t 11) [CX.t 15]), none⟩])
           (.cond (CX.t 16) (.seq (.region [⟨(some 17), (COp.move (CX.t 5)), none⟩,
               ⟨(some 4), (COp.move (CX.t 17)), none⟩])
             (.ret))
            (.skip)))))
        (.region [⟨(some 18), (COp.bin (Go.BinOp.add) (CX.t 8) (CX.c (CVal.int (Go.IntKind.i64) 1))), none⟩,
          ⟨(some 8), (COp.move (CX.t 18)), none⟩])))))))
  (.seq (.region [⟨(some 4), (COp.move (CX.c (CVal.int (Go.IntKind.i64) (-1)))), none⟩])
   (.ret)))⟩
theorem ok38 : compFunc prog glb 38 p38 = some c38 := by kernel_rfl
/-- slices.Index[[]int,int] -/
def p39 : List Plan := []
def c39 : CFunc := ⟨19, [CRV.tmp 4],
 .seq (.region [⟨(some 4), (COp.move (CX.c (CVal.int (Go.IntKind.i64) 0))), none⟩])
 (.seq (.seq (.region [⟨(some 6), (COp.move (CX.t 0)), none⟩,
     ⟨(some 7), (COp.len (LK.slice) (CX.t 6)), none⟩,
     ⟨(some 8), (COp.move (CX.c (CVal.int (Go.IntKind.i64) 0))), none⟩])
   (.block 0 (.loop (.seq (.region [⟨(some 9), (COp.bin (Go.BinOp.lss) (CX.t 8) (CX.t 7)), none⟩])
      (.seq (.cond (CX.t 9) (.skip)
        (.exit 0))
       (.seq (.block 1 (.seq (.region [⟨(some 10), (COp.move (CX.t 8)), none⟩,
            ⟨(some 5), (COp.move (CX.t 10)), none⟩])
          (.seq (.region [⟨(some 11), (COp.move (CX.t 1)), none⟩,
             ⟨(some 12), (COp.move (CX.t 0)), none⟩,
             ⟨(some 13), (COp.move (CX.t 5)), none⟩,
             ⟨(some 14), (COp.indexAddr 1 (CX.t 12) (CX.t 13)), none⟩,
             ⟨(some 15), (COp.load false 1 (CX.t 14)), none⟩,
             ⟨(some 16), (COp.bin (Go.BinOp.eql) (CX.t 11) (CX.t 15)), none⟩])
           (.cond (CX.t 16) (.seq (.region [⟨(some 17), (COp.move (CX.t 5)), none⟩,
               ⟨(some 4), (COp.move (CX.t 17)), none⟩])
             (.ret))
            (.skip)))))
        (.region [⟨(some 18), (COp.bin (Go.BinOp.add) (CX.t 8) (CX.c (CVal.int (Go.IntKind.i64) 1))), none⟩,
          ⟨(some 8), (COp.move (CX.t 18)), none⟩])))))))
  (.seq (.region [⟨(some 4), (COp.move (CX.c (CVal.int (Go.IntKind.i64) (-1)))), none⟩])
   (.ret)))⟩
theorem ok39 : compFunc prog glb 39 p39 = some c39 := by kernel_rfl
end Go.Proofs.Ythcmiceheohpjaa.Cm
