/-
  The functions that this seat's laws reach, each as a clean function, and that it is the program's.
-/
import Derived.Test.YthdeoeokjmmnbaaDoorCmC
import Derived.Test.YthdeoeokjmmnbaaDoorProg
import Derived.KernelRfl
import Derived.Lib.LaidTab
import Derived.Lib.ItoaNum
import Derived.Lib.Space
import Derived.Shelf.Unicode.IsSpaceAny
import Derived.Test.YthdeoeokjmmnbaaDoorCmZ
namespace Go.Proofs.YthdeoeokjmmnbaaDoor.Cm
noncomputable abbrev prog := Go.Proofs.Tryd.prog
/-- What the row lists of package variables, as far as the library asks it: the blanks below 128 and above, that the two errors are errors, the powers of ten. -/
def facts (w : World) : Prop := Lib.TabIs prog w "strings.asciiSpace" .u8 Lib.asciiSpaceTab ∧ (∃ t p, w.var? prog "strconv.ErrSyntax" = some #[.iface t p]) ∧ (∃ t p, w.var? prog "strconv.ErrRange" = some #[.iface t p]) ∧ Lib.TabIs prog w "internal/strconv.uint64pow10" .u64 Lib.pow10Tab ∧ Lib.WhiteTab 2 w
noncomputable abbrev glb : Gl := ⟨0, facts, modOf prog⟩
theorem mixed : prog.follows .mixedOrders = true := by kernel_rfl

/-- signalbox/signalboxlaw33.ScriptTexts -/
def p3 : List Plan := []
def c3 : CFunc := ⟨44, [CRV.tmp 2],
 .seq (.region [⟨(some 1), (COp.box (CX.t 0)), none⟩,
   ⟨(some 2), (COp.move (CX.c (CVal.bool false))), none⟩])
 (.seq (.seq (.region [⟨(some 7), (COp.fieldAddr 4 (CX.t 1)), none⟩,
     ⟨(some 8), (COp.load false 1 (CX.t 7)), none⟩,
     ⟨(some 9), (COp.len (LK.slice) (CX.t 8)), none⟩,
     ⟨(some 10), (COp.bin (Go.BinOp.gtr) (CX.t 9) (CX.c (CVal.int (Go.IntKind.i64) 500))), none⟩,
     ⟨(some 11), (COp.move (CX.t 10)), none⟩,
     ⟨(some 12), (COp.fieldAddr 5 (CX.t 1)), (some (11, false))⟩,
     ⟨(some 13), (COp.load false 1 (CX.t 12)), (some (11, false))⟩,
     ⟨(some 14), (COp.len (LK.slice) (CX.t 13)), (some (11, false))⟩,
     ⟨(some 15), (COp.bin (Go.BinOp.gtr) (CX.t 14) (CX.c (CVal.int (Go.IntKind.i64) 500))), (some (11, false))⟩,
     ⟨(some 16), (COp.pick (CX.t 11) (CX.c (CVal.bool true)) (CX.t 15)), none⟩])
   (.cond (CX.t 16) (.seq (.region [⟨(some 17), (COp.call (CX.c (CVal.func 6 [] [])) []), none⟩,
       ⟨(some 2), (COp.move (CX.t 17)), none⟩])
     (.ret))
    (.skip)))
  (.seq (.region [⟨(some 18), (COp.load true 6 (CX.t 1)), none⟩,
     ⟨(some 19), (COp.call (CX.c (CVal.func 7 [] [])) [CX.t 18]), none⟩,
     ⟨(some 3), (COp.move (CX.t 19)), none⟩])
   (.seq (.seq (.region [⟨(some 20), (COp.move (CX.t 3)), none⟩,
       ⟨(some 21), (COp.load true 6 (CX.t 1)), none⟩,
       ⟨(some 22), (COp.call (CX.c (CVal.func 8 [] [])) [CX.t 21]), none⟩,
       ⟨(some 23), (COp.bin (Go.BinOp.neq) (CX.t 20) (CX.t 22)), none⟩])
     (.cond (CX.t 23) (.seq (.region [⟨(some 2), (COp.move (CX.c (CVal.bool false))), none⟩])
       (.ret))
      (.skip)))
    (.seq (.region [⟨(some 25), (COp.move (CX.t 3)), none⟩,
       ⟨(some 26), (COp.call (CX.c (CVal.func 9 [] [])) [CX.t 25]), none⟩,
       ⟨(some 24), (COp.move (CX.t 26)), none⟩,
       ⟨(some 27), (COp.extract (CX.t 24) 0), none⟩,
       ⟨(some 28), (COp.extract (CX.t 24) 1), none⟩,
       ⟨(some 29), (COp.extract (CX.t 24) 2), none⟩,
       ⟨(some 4), (COp.new [CVal.bool false, CVal.int (Go.IntKind.i64) 0, CVal.int (Go.IntKind.i64) 0, CVal.int (Go.IntKind.i64) 0, CVal.nilSlice, CVal.nilSlice]), none⟩,
       ⟨none, (COp.store 6 (CX.t 4) (CX.t 27)), none⟩,
       ⟨(some 5), (COp.move (CX.t 28)), none⟩,
       ⟨(some 6), (COp.move (CX.t 29)), none⟩])
     (.seq (.region [⟨(some 30), (COp.move (CX.t 6)), none⟩,
        ⟨(some 31), (COp.bin (Go.BinOp.eql) (CX.t 30) (CX.c (CVal.int (Go.IntKind.i64) 0))), none⟩,
        ⟨(some 32), (COp.move (CX.t 31)), none⟩,
        ⟨(some 33), (COp.move (CX.t 5)), (some (32, true))⟩,
        ⟨(some 34), (COp.bin (Go.BinOp.eql) (CX.t 33) (CX.c (CVal.int (Go.IntKind.i64) 0))), (some (32, true))⟩,
        ⟨(some 35), (COp.pick (CX.t 32) (CX.t 34) (CX.c (CVal.bool false))), none⟩,
        ⟨(some 36), (COp.move (CX.t 35)), none⟩,
        ⟨(some 37), (COp.load true 6 (CX.t 4)), (some (36, true))⟩,
        ⟨(some 38), (COp.load true 6 (CX.t 1)), (some (36, true))⟩,
        ⟨(some 39), (COp.call (CX.c (CVal.func 10 [] [])) [CX.t 37, CX.t 38]), (some (36, true))⟩,
        ⟨(some 40), (COp.pick (CX.t 36) (CX.t 39) (CX.c (CVal.bool false))), none⟩,
        ⟨(some 41), (COp.move (CX.t 40)), none⟩,
        ⟨(some 42), (COp.call (CX.c (CVal.func 6 [] [])) []), (some (41, true))⟩,
        ⟨(some 43), (COp.pick (CX.t 41) (CX.t 42) (CX.c (CVal.bool false))), none⟩,
        ⟨(some 2), (COp.move (CX.t 43)), none⟩])
      (.ret))))))⟩
theorem ok3 : compFunc prog glb 3 p3 = some c3 := by kernel_rfl
/-- signalbox/signalboxlaw33.ScriptReads -/
def p4 : List Plan := []
def c4 : CFunc := ⟨41, [CRV.tmp 2],
 .seq (.region [⟨(some 2), (COp.move (CX.c (CVal.bool false))), none⟩])
 (.seq (.seq (.region [⟨(some 9), (COp.move (CX.t 0)), none⟩,
     ⟨(some 10), (COp.len (LK.str) (CX.t 9)), none⟩,
     ⟨(some 11), (COp.bin (Go.BinOp.gtr) (CX.t 10) (CX.c (CVal.int (Go.IntKind.i64) 2000))), none⟩])
   (.cond (CX.t 11) (.seq (.region [⟨(some 12), (COp.call (CX.c (CVal.func 6 [] [])) []), none⟩,
       ⟨(some 2), (COp.move (CX.t 12)), none⟩])
     (.ret))
    (.skip)))
  (.seq (.region [⟨(some 14), (COp.move (CX.t 0)), none⟩,
     ⟨(some 15), (COp.call (CX.c (CVal.func 9 [] [])) [CX.t 14]), none⟩,
     ⟨(some 13), (COp.move (CX.t 15)), none⟩,
     ⟨(some 16), (COp.extract (CX.t 13) 0), none⟩,
     ⟨(some 17), (COp.extract (CX.t 13) 1), none⟩,
     ⟨(some 18), (COp.extract (CX.t 13) 2), none⟩,
     ⟨(some 3), (COp.new [CVal.bool false, CVal.int (Go.IntKind.i64) 0, CVal.int (Go.IntKind.i64) 0, CVal.int (Go.IntKind.i64) 0, CVal.nilSlice, CVal.nilSlice]), none⟩,
     ⟨none, (COp.store 6 (CX.t 3) (CX.t 16)), none⟩,
     ⟨(some 4), (COp.move (CX.t 17)), none⟩,
     ⟨(some 5), (COp.move (CX.t 18)), none⟩])
   (.seq (.region [⟨(some 20), (COp.move (CX.t 0)), none⟩,
      ⟨(some 21), (COp.call (CX.c (CVal.func 11 [] [])) [CX.t 20]), none⟩,
      ⟨(some 19), (COp.move (CX.t 21)), none⟩,
      ⟨(some 22), (COp.extract (CX.t 19) 0), none⟩,
      ⟨(some 23), (COp.extract (CX.t 19) 1), none⟩,
      ⟨(some 24), (COp.extract (CX.t 19) 2), none⟩,
      ⟨(some 6), (COp.new [CVal.bool false, CVal.int (Go.IntKind.i64) 0, CVal.int (Go.IntKind.i64) 0, CVal.int (Go.IntKind.i64) 0, CVal.nilSlice, CVal.nilSlice]), none⟩,
      ⟨none, (COp.store 6 (CX.t 6) (CX.t 22)), none⟩,
      ⟨(some 7), (COp.move (CX.t 23)), none⟩,
      ⟨(some 8), (COp.move (CX.t 24)), none⟩])
    (.seq (.region [⟨(some 25), (COp.move (CX.t 4)), none⟩,
       ⟨(some 26), (COp.move (CX.t 7)), none⟩,
       ⟨(some 27), (COp.bin (Go.BinOp.eql) (CX.t 25) (CX.t 26)), none⟩,
       ⟨(some 28), (COp.move (CX.t 27)), none⟩,
       ⟨(some 29), (COp.move (CX.t 5)), (some (28, true))⟩,
       ⟨(some 30), (COp.move (CX.t 8)), (some (28, true))⟩,
       ⟨(some 31), (COp.bin (Go.BinOp.eql) (CX.t 29) (CX.t 30)), (some (28, true))⟩,
       ⟨(some 32), (COp.pick (CX.t 28) (CX.t 31) (CX.c (CVal.bool false))), none⟩,
       ⟨(some 33), (COp.move (CX.t 32)), none⟩,
       ⟨(some 34), (COp.load true 6 (CX.t 3)), (some (33, true))⟩,
       ⟨(some 35), (COp.load true 6 (CX.t 6)), (some (33, true))⟩,
       ⟨(some 36), (COp.call (CX.c (CVal.func 10 [] [])) [CX.t 34, CX.t 35]), (some (33, true))⟩,
       ⟨(some 37), (COp.pick (CX.t 33) (CX.t 36) (CX.c (CVal.bool false))), none⟩,
       ⟨(some 38), (COp.move (CX.t 37)), none⟩,
       ⟨(some 39), (COp.call (CX.c (CVal.func 6 [] [])) []), (some (38, true))⟩,
       ⟨(some 40), (COp.pick (CX.t 38) (CX.t 39) (CX.c (CVal.bool false))), none⟩,
       ⟨(some 2), (COp.move (CX.t 40)), none⟩])
     (.ret)))))⟩
theorem ok4 : compFunc prog glb 4 p4 = some c4 := by kernel_rfl
/-- signalbox/signalboxlaw33.ScriptSpoilt -/
def p5 : List Plan := []
def c5 : CFunc := ⟨98, [CRV.tmp 8],
 .seq (.region [⟨(some 4), (COp.box (CX.t 0)), none⟩,
   ⟨(some 8), (COp.move (CX.c (CVal.bool false))), none⟩])
 (.seq (.seq (.region [⟨(some 18), (COp.fieldAddr 4 (CX.t 4)), none⟩,
     ⟨(some 19), (COp.load false 1 (CX.t 18)), none⟩,
     ⟨(some 20), (COp.len (LK.slice) (CX.t 19)), none⟩,
     ⟨(some 21), (COp.bin (Go.BinOp.gtr) (CX.t 20) (CX.c (CVal.int (Go.IntKind.i64) 50))), none⟩,
     ⟨(some 22), (COp.move (CX.t 21)), none⟩,
     ⟨(some 23), (COp.fieldAddr 5 (CX.t 4)), (some (22, false))⟩,
     ⟨(some 24), (COp.load false 1 (CX.t 23)), (some (22, false))⟩,
     ⟨(some 25), (COp.len (LK.slice) (CX.t 24)), (some (22, false))⟩,
     ⟨(some 26), (COp.bin (Go.BinOp.gtr) (CX.t 25) (CX.c (CVal.int (Go.IntKind.i64) 50))), (some (22, false))⟩,
     ⟨(some 27), (COp.pick (CX.t 22) (CX.c (CVal.bool true)) (CX.t 26)), none⟩,
     ⟨(some 28), (COp.move (CX.t 27)), none⟩,
     ⟨(some 29), (COp.move (CX.t 2)), (some (28, false))⟩,
     ⟨(some 30), (COp.len (LK.str) (CX.t 29)), (some (28, false))⟩,
     ⟨(some 31), (COp.bin (Go.BinOp.gtr) (CX.t 30) (CX.c (CVal.int (Go.IntKind.i64) 50))), (some (28, false))⟩,
     ⟨(some 32), (COp.pick (CX.t 28) (CX.c (CVal.bool true)) (CX.t 31)), none⟩])
   (.cond (CX.t 32) (.seq (.region [⟨(some 33), (COp.call (CX.c (CVal.func 6 [] [])) []), none⟩,
       ⟨(some 8), (COp.move (CX.t 33)), none⟩])
     (.ret))
    (.skip)))
  (.seq (.region [⟨(some 34), (COp.load true 6 (CX.t 4)), none⟩,
     ⟨(some 35), (COp.call (CX.c (CVal.func 8 [] [])) [CX.t 34]), none⟩,
     ⟨(some 9), (COp.move (CX.t 35)), none⟩])
   (.seq (.region [⟨(some 36), (COp.move (CX.t 1)), none⟩,
      ⟨(some 37), (COp.move (CX.t 9)), none⟩,
      ⟨(some 38), (COp.len (LK.str) (CX.t 37)), none⟩,
      ⟨(some 39), (COp.bin (Go.BinOp.add) (CX.t 38) (CX.c (CVal.int (Go.IntKind.i64) 1))), none⟩,
      ⟨(some 40), (COp.bin (Go.BinOp.rem) (CX.t 36) (CX.t 39)), none⟩,
      ⟨(some 10), (COp.move (CX.t 40)), none⟩])
    (.seq (.seq (.region [⟨(some 41), (COp.move (CX.t 10)), none⟩,
        ⟨(some 42), (COp.bin (Go.BinOp.lss) (CX.t 41) (CX.c (CVal.int (Go.IntKind.i64) 0))), none⟩])
      (.cond (CX.t 42) (.region [⟨(some 43), (COp.move (CX.t 10)), none⟩,
         ⟨(some 44), (COp.move (CX.t 9)), none⟩,
         ⟨(some 45), (COp.len (LK.str) (CX.t 44)), none⟩,
         ⟨(some 46), (COp.bin (Go.BinOp.add) (CX.t 43) (CX.t 45)), none⟩,
         ⟨(some 47), (COp.bin (Go.BinOp.add) (CX.t 46) (CX.c (CVal.int (Go.IntKind.i64) 1))), none⟩,
         ⟨(some 10), (COp.move (CX.t 47)), none⟩])
       (.skip)))
     (.seq (.region [⟨(some 48), (COp.move (CX.t 9)), none⟩,
        ⟨(some 49), (COp.move (CX.t 10)), none⟩,
        ⟨(some 50), (COp.sliceStr (CX.t 48) none (some (CX.t 49))), none⟩,
        ⟨(some 51), (COp.move (CX.t 2)), none⟩,
        ⟨(some 52), (COp.bin (Go.BinOp.add) (CX.t 50) (CX.t 51)), none⟩,
        ⟨(some 11), (COp.move (CX.t 52)), none⟩])
      (.seq (.seq (.region [⟨(some 53), (COp.move (CX.t 3)), none⟩,
          ⟨(some 54), (COp.un (Go.UnOp.not) (CX.t 53)), none⟩])
        (.cond (CX.t 54) (.region [⟨(some 55), (COp.move (CX.t 11)), none⟩,
           ⟨(some 56), (COp.move (CX.t 9)), none⟩,
           ⟨(some 57), (COp.move (CX.t 10)), none⟩,
           ⟨(some 58), (COp.sliceStr (CX.t 56) (some (CX.t 57)) none), none⟩,
           ⟨(some 59), (COp.bin (Go.BinOp.add) (CX.t 55) (CX.t 58)), none⟩,
           ⟨(some 11), (COp.move (CX.t 59)), none⟩])
         (.skip)))
       (.seq (.region [⟨(some 61), (COp.move (CX.t 11)), none⟩,
          ⟨(some 62), (COp.call (CX.c (CVal.func 9 [] [])) [CX.t 61]), none⟩,
          ⟨(some 60), (COp.move (CX.t 62)), none⟩,
          ⟨(some 63), (COp.extract (CX.t 60) 0), none⟩,
          ⟨(some 64), (COp.extract (CX.t 60) 1), none⟩,
          ⟨(some 65), (COp.extract (CX.t 60) 2), none⟩,
          ⟨(some 12), (COp.new [CVal.bool false, CVal.int (Go.IntKind.i64) 0, CVal.int (Go.IntKind.i64) 0, CVal.int (Go.IntKind.i64) 0, CVal.nilSlice, CVal.nilSlice]), none⟩,
          ⟨none, (COp.store 6 (CX.t 12) (CX.t 63)), none⟩,
          ⟨(some 13), (COp.move (CX.t 64)), none⟩,
          ⟨(some 14), (COp.move (CX.t 65)), none⟩])
        (.seq (.region [⟨(some 67), (COp.move (CX.t 11)), none⟩,
           ⟨(some 68), (COp.call (CX.c (CVal.func 11 [] [])) [CX.t 67]), none⟩,
           ⟨(some 66), (COp.move (CX.t 68)), none⟩,
           ⟨(some 69), (COp.extract (CX.t 66) 0), none⟩,
           ⟨(some 70), (COp.extract (CX.t 66) 1), none⟩,
           ⟨(some 71), (COp.extract (CX.t 66) 2), none⟩,
           ⟨(some 15), (COp.new [CVal.bool false, CVal.int (Go.IntKind.i64) 0, CVal.int (Go.IntKind.i64) 0, CVal.int (Go.IntKind.i64) 0, CVal.nilSlice, CVal.nilSlice]), none⟩,
           ⟨none, (COp.store 6 (CX.t 15) (CX.t 69)), none⟩,
           ⟨(some 16), (COp.move (CX.t 70)), none⟩,
           ⟨(some 17), (COp.move (CX.t 71)), none⟩])
         (.seq (.region [⟨(some 72), (COp.move (CX.t 13)), none⟩,
            ⟨(some 73), (COp.move (CX.t 16)), none⟩,
            ⟨(some 74), (COp.bin (Go.BinOp.eql) (CX.t 72) (CX.t 73)), none⟩,
            ⟨(some 75), (COp.move (CX.t 74)), none⟩,
            ⟨(some 76), (COp.move (CX.t 14)), (some (75, true))⟩,
            ⟨(some 77), (COp.move (CX.t 17)), (some (75, true))⟩,
            ⟨(some 78), (COp.bin (Go.BinOp.eql) (CX.t 76) (CX.t 77)), (some (75, true))⟩,
            ⟨(some 79), (COp.pick (CX.t 75) (CX.t 78) (CX.c (CVal.bool false))), none⟩,
            ⟨(some 80), (COp.move (CX.t 79)), none⟩,
            ⟨(some 81), (COp.load true 6 (CX.t 12)), (some (80, true))⟩,
            ⟨(some 82), (COp.load true 6 (CX.t 15)), (some (80, true))⟩,
            ⟨(some 83), (COp.call (CX.c (CVal.func 10 [] [])) [CX.t 81, CX.t 82]), (some (80, true))⟩,
            ⟨(some 84), (COp.pick (CX.t 80) (CX.t 83) (CX.c (CVal.bool false))), none⟩,
            ⟨(some 85), (COp.move (CX.t 84)), none⟩,
            ⟨(some 86), (COp.move (CX.t 14)), (some (85, true))⟩,
            ⟨(some 87), (COp.bin (Go.BinOp.neq) (CX.t 86) (CX.c (CVal.int (Go.IntKind.i64) 0))), (some (85, true))⟩,
            ⟨(some 88), (COp.move (CX.t 87)), (some (85, true))⟩,
            ⟨(some 89), (COp.load true 6 (CX.t 12)), (some (88, false))⟩,
            ⟨(some 90), (COp.call (CX.c (CVal.func 7 [] [])) [CX.t 89]), (some (88, false))⟩,
            ⟨(some 91), (COp.move (CX.t 11)), (some (88, false))⟩,
            ⟨(some 92), (COp.bin (Go.BinOp.eql) (CX.t 90) (CX.t 91)), (some (88, false))⟩,
            ⟨(some 93), (COp.pick (CX.t 88) (CX.c (CVal.bool true)) (CX.t 92)), (some (85, true))⟩,
            ⟨(some 94), (COp.pick (CX.t 85) (CX.t 93) (CX.c (CVal.bool false))), none⟩,
            ⟨(some 95), (COp.move (CX.t 94)), none⟩,
            ⟨(some 96), (COp.call (CX.c (CVal.func 6 [] [])) []), (some (95, true))⟩,
            ⟨(some 97), (COp.pick (CX.t 95) (CX.t 96) (CX.c (CVal.bool false))), none⟩,
            ⟨(some 8), (COp.move (CX.t 97)), none⟩])
          (.ret))))))))))⟩
theorem ok5 : compFunc prog glb 5 p5 = some c5 := by kernel_rfl
/-- signalbox/signalboxlaw33.awake -/
def p6 : List Plan := []
def c6 : CFunc := ⟨53, [CRV.tmp 0],
 .seq (.region [⟨(some 0), (COp.move (CX.c (CVal.bool false))), none⟩])
 (.seq (.region [⟨(some 8), (COp.call (CX.c (CVal.func 9 [] [])) [CX.c (CVal.str [99, 108, 97, 105, 109, 101, 100, 10, 108, 105, 109, 105, 116, 115, 32, 52, 32, 54, 52, 32, 57, 48, 48, 10, 105, 110, 112, 117, 116, 32, 55, 10, 112, 105, 99, 107, 115, 10])]), none⟩,
    ⟨(some 7), (COp.move (CX.t 8)), none⟩,
    ⟨(some 9), (COp.extract (CX.t 7) 0), none⟩,
    ⟨(some 10), (COp.extract (CX.t 7) 1), none⟩,
    ⟨(some 11), (COp.extract (CX.t 7) 2), none⟩,
    ⟨(some 1), (COp.new [CVal.bool false, CVal.int (Go.IntKind.i64) 0, CVal.int (Go.IntKind.i64) 0, CVal.int (Go.IntKind.i64) 0, CVal.nilSlice, CVal.nilSlice]), none⟩,
    ⟨none, (COp.store 6 (CX.t 1) (CX.t 9)), none⟩,
    ⟨(some 2), (COp.move (CX.t 10)), none⟩,
    ⟨(some 3), (COp.move (CX.t 11)), none⟩])
  (.seq (.region [⟨(some 13), (COp.call (CX.c (CVal.func 9 [] [])) [CX.c (CVal.str [99, 108, 97, 105, 109, 101, 100, 10, 108, 105, 109, 105, 116, 115, 32, 52, 32, 54, 52, 10, 105, 110, 112, 117, 116, 10, 112, 105, 99, 107, 115, 10])]), none⟩,
     ⟨(some 12), (COp.move (CX.t 13)), none⟩,
     ⟨(some 14), (COp.extract (CX.t 12) 0), none⟩,
     ⟨(some 15), (COp.extract (CX.t 12) 1), none⟩,
     ⟨(some 16), (COp.extract (CX.t 12) 2), none⟩,
     ⟨(some 4), (COp.new [CVal.bool false, CVal.int (Go.IntKind.i64) 0, CVal.int (Go.IntKind.i64) 0, CVal.int (Go.IntKind.i64) 0, CVal.nilSlice, CVal.nilSlice]), none⟩,
     ⟨none, (COp.store 6 (CX.t 4) (CX.t 14)), none⟩,
     ⟨(some 5), (COp.move (CX.t 15)), none⟩,
     ⟨(some 6), (COp.move (CX.t 16)), none⟩])
   (.seq (.region [⟨(some 17), (COp.move (CX.t 3)), none⟩,
      ⟨(some 18), (COp.bin (Go.BinOp.eql) (CX.t 17) (CX.c (CVal.int (Go.IntKind.i64) 0))), none⟩,
      ⟨(some 19), (COp.move (CX.t 18)), none⟩,
      ⟨(some 20), (COp.move (CX.t 2)), (some (19, true))⟩,
      ⟨(some 21), (COp.bin (Go.BinOp.eql) (CX.t 20) (CX.c (CVal.int (Go.IntKind.i64) 0))), (some (19, true))⟩,
      ⟨(some 22), (COp.pick (CX.t 19) (CX.t 21) (CX.c (CVal.bool false))), none⟩,
      ⟨(some 23), (COp.move (CX.t 22)), none⟩,
      ⟨(some 24), (COp.fieldAddr 0 (CX.t 1)), (some (23, true))⟩,
      ⟨(some 25), (COp.load false 1 (CX.t 24)), (some (23, true))⟩,
      ⟨(some 26), (COp.pick (CX.t 23) (CX.t 25) (CX.c (CVal.bool false))), none⟩,
      ⟨(some 27), (COp.move (CX.t 26)), none⟩,
      ⟨(some 28), (COp.fieldAddr 1 (CX.t 1)), (some (27, true))⟩,
      ⟨(some 29), (COp.load true 3 (CX.t 28)), (some (27, true))⟩,
      ⟨(some 30), (COp.build [CVal.int (Go.IntKind.i64) 0, CVal.int (Go.IntKind.i64) 0, CVal.int (Go.IntKind.i64) 0] [(0, 1, CX.c (CVal.int (Go.IntKind.i64) 4)), (1, 1, CX.c (CVal.int (Go.IntKind.i64) 64)), (2, 1, CX.c (CVal.int (Go.IntKind.i64) 900))]), (some (27, true))⟩,
      ⟨(some 31), (COp.eqS [PK.int, PK.int, PK.int] false (CX.t 29) (CX.t 30)), (some (27, true))⟩,
      ⟨(some 32), (COp.pick (CX.t 27) (CX.t 31) (CX.c (CVal.bool false))), none⟩,
      ⟨(some 33), (COp.move (CX.t 32)), none⟩,
      ⟨(some 34), (COp.fieldAddr 4 (CX.t 1)), (some (33, true))⟩,
      ⟨(some 35), (COp.load false 1 (CX.t 34)), (some (33, true))⟩,
      ⟨(some 36), (COp.len (LK.slice) (CX.t 35)), (some (33, true))⟩,
      ⟨(some 37), (COp.bin (Go.BinOp.eql) (CX.t 36) (CX.c (CVal.int (Go.IntKind.i64) 1))), (some (33, true))⟩,
      ⟨(some 38), (COp.pick (CX.t 33) (CX.t 37) (CX.c (CVal.bool false))), none⟩,
      ⟨(some 39), (COp.move (CX.t 38)), none⟩,
      ⟨(some 40), (COp.move (CX.t 5)), (some (39, true))⟩,
      ⟨(some 41), (COp.bin (Go.BinOp.eql) (CX.t 40) (CX.c (CVal.int (Go.IntKind.i64) 2))), (some (39, true))⟩,
      ⟨(some 42), (COp.pick (CX.t 39) (CX.t 41) (CX.c (CVal.bool false))), none⟩,
      ⟨(some 43), (COp.move (CX.t 42)), none⟩,
      ⟨(some 44), (COp.move (CX.t 6)), (some (43, true))⟩,
      ⟨(some 45), (COp.bin (Go.BinOp.eql) (CX.t 44) (CX.c (CVal.int (Go.IntKind.i64) 6))), (some (43, true))⟩,
      ⟨(some 46), (COp.pick (CX.t 43) (CX.t 45) (CX.c (CVal.bool false))), none⟩,
      ⟨(some 47), (COp.move (CX.t 46)), none⟩,
      ⟨(some 48), (COp.buildSlice [CVal.int (Go.IntKind.i64) 0] 1 [(0, 1, CX.c (CVal.int (Go.IntKind.i64) (-1)))]), (some (47, true))⟩,
      ⟨(some 49), (COp.build [CVal.bool false, CVal.int (Go.IntKind.i64) 0, CVal.int (Go.IntKind.i64) 0, CVal.int (Go.IntKind.i64) 0, CVal.nilSlice, CVal.nilSlice] [(5, 1, CX.t 48)]), (some (47, true))⟩,
      ⟨(some 50), (COp.call (CX.c (CVal.func 7 [] [])) [CX.t 49]), (some (47, true))⟩,
      ⟨(some 51), (COp.bin (Go.BinOp.eql) (CX.t 50) (CX.c (CVal.str [117, 110, 99, 108, 97, 105, 109, 101, 100, 10, 108, 105, 109, 105, 116, 115, 32, 48, 32, 48, 32, 48, 10, 105, 110, 112, 117, 116, 10, 112, 105, 99, 107, 115, 32, 45, 49, 10]))), (some (47, true))⟩,
      ⟨(some 52), (COp.pick (CX.t 47) (CX.t 51) (CX.c (CVal.bool false))), none⟩,
      ⟨(some 0), (COp.move (CX.t 52)), none⟩])
    (.ret))))⟩
theorem ok6 : compFunc prog glb 6 p6 = some c6 := by kernel_rfl
/-- signalbox/script.Text -/
def p7 : List Plan := [⟨[(0, DK.quiet [0]), (1, DK.quiet [0]), (2, DK.eff), (3, DK.eff), (10, DK.quiet [0, 3, 4]), (11, DK.quiet [0, 3, 4]), (12, DK.quiet [0, 3, 4]), (7, DK.quiet [0, 3, 4]), (8, DK.quiet [0, 3, 4]), (9, DK.quiet [0, 3, 4]), (4, DK.quiet [0, 3, 4]), (5, DK.quiet [0, 3, 4]), (6, DK.quiet [0, 3, 4]), (13, DK.alloc 0), (14, DK.eff), (16, DK.quiet [0, 3, 4, 15]), (17, DK.quiet [0, 3, 4, 15]), (18, DK.eff), (20, DK.quiet [0, 3, 4, 15, 18]), (21, DK.quiet [0, 3, 4, 15, 18]), (22, DK.eff), (15, DK.quiet [15, 18, 21]), (19, DK.quiet [18, 21]), (23, DK.quiet [21]), (24, DK.quiet [21])], 1, [0, 1, 3, 7, 0, 16, 48, 0, 128, 384, 0, 1024, 3072, 8176, 16383, 32767, 0, 65536, 229375, 524287, 0, 1048576, 3637247, 8388607, 16777215]⟩]
def c7 : CFunc := ⟨27, [CRV.tmp 2],
 .seq (.region [⟨(some 1), (COp.box (CX.t 0)), none⟩,
   ⟨(some 2), (COp.move (CX.c (CVal.str []))), none⟩])
 (.seq (.draw [⟨0, ⟨(some 3), (COp.fieldAddr 0 (CX.t 1)), none⟩, (DK.quiet [0])⟩,
    ⟨1, ⟨(some 4), (COp.load false 1 (CX.t 3)), none⟩, (DK.quiet [0])⟩,
    ⟨2, ⟨(some 5), (COp.call (CX.c (CVal.func 13 [] [])) [CX.t 4]), none⟩, (DK.eff)⟩,
    ⟨3, ⟨(some 6), (COp.call (CX.c (CVal.func 12 [] [])) [CX.t 5, CX.c (CVal.nilSlice)]), none⟩, (DK.eff)⟩,
    ⟨10, ⟨(some 13), (COp.fieldAddr 1 (CX.t 1)), none⟩, (DK.quiet [0, 3, 4])⟩,
    ⟨11, ⟨(some 14), (COp.fieldAddr 2 (CX.t 13)), none⟩, (DK.quiet [0, 3, 4])⟩,
    ⟨12, ⟨(some 15), (COp.load false 1 (CX.t 14)), none⟩, (DK.quiet [0, 3, 4])⟩,
    ⟨7, ⟨(some 10), (COp.fieldAddr 1 (CX.t 1)), none⟩, (DK.quiet [0, 3, 4])⟩,
    ⟨8, ⟨(some 11), (COp.fieldAddr 1 (CX.t 10)), none⟩, (DK.quiet [0, 3, 4])⟩,
    ⟨9, ⟨(some 12), (COp.load false 1 (CX.t 11)), none⟩, (DK.quiet [0, 3, 4])⟩,
    ⟨4, ⟨(some 7), (COp.fieldAddr 1 (CX.t 1)), none⟩, (DK.quiet [0, 3, 4])⟩,
    ⟨5, ⟨(some 8), (COp.fieldAddr 0 (CX.t 7)), none⟩, (DK.quiet [0, 3, 4])⟩,
    ⟨6, ⟨(some 9), (COp.load false 1 (CX.t 8)), none⟩, (DK.quiet [0, 3, 4])⟩,
    ⟨13, ⟨(some 16), (COp.buildSlice [CVal.int (Go.IntKind.i64) 0] 3 [(0, 1, CX.t 9), (1, 1, CX.t 12), (2, 1, CX.t 15)]), none⟩, (DK.alloc 0)⟩,
    ⟨14, ⟨(some 17), (COp.call (CX.c (CVal.func 12 [] [])) [CX.c (CVal.str [108, 105, 109, 105, 116, 115]), CX.t 16]), none⟩, (DK.eff)⟩,
    ⟨16, ⟨(some 19), (COp.fieldAddr 4 (CX.t 1)), none⟩, (DK.quiet [0, 3, 4, 15])⟩,
    ⟨17, ⟨(some 20), (COp.load false 1 (CX.t 19)), none⟩, (DK.quiet [0, 3, 4, 15])⟩,
    ⟨18, ⟨(some 21), (COp.call (CX.c (CVal.func 12 [] [])) [CX.c (CVal.str [105, 110, 112, 117, 116]), CX.t 20]), none⟩, (DK.eff)⟩,
    ⟨20, ⟨(some 23), (COp.fieldAddr 5 (CX.t 1)), none⟩, (DK.quiet [0, 3, 4, 15, 18])⟩,
    ⟨21, ⟨(some 24), (COp.load false 1 (CX.t 23)), none⟩, (DK.quiet [0, 3, 4, 15, 18])⟩,
    ⟨22, ⟨(some 25), (COp.call (CX.c (CVal.func 12 [] [])) [CX.c (CVal.str [112, 105, 99, 107, 115]), CX.t 24]), none⟩, (DK.eff)⟩,
    ⟨15, ⟨(some 18), (COp.bin (Go.BinOp.add) (CX.t 6) (CX.t 17)), none⟩, (DK.quiet [15, 18, 21])⟩,
    ⟨19, ⟨(some 22), (COp.bin (Go.BinOp.add) (CX.t 18) (CX.t 21)), none⟩, (DK.quiet [18, 21])⟩,
    ⟨23, ⟨(some 26), (COp.bin (Go.BinOp.add) (CX.t 22) (CX.t 25)), none⟩, (DK.quiet [21])⟩,
    ⟨24, ⟨(some 2), (COp.move (CX.t 26)), none⟩, (DK.quiet [21])⟩] 1)
  (.ret))⟩
theorem ok7 : compFunc prog glb 7 p7 = some c7 := by kernel_rfl
/-- signalbox/signalboxref31.ScriptText -/
def p8 : List Plan := [⟨[(8, DK.quiet [0]), (9, DK.quiet [0]), (10, DK.quiet [0]), (5, DK.quiet [0]), (6, DK.quiet [0]), (7, DK.quiet [0]), (2, DK.quiet [0]), (3, DK.quiet [0]), (4, DK.quiet [0]), (11, DK.eff), (12, DK.eff), (15, DK.quiet [0, 10, 11]), (16, DK.quiet [0, 10, 11]), (17, DK.eff), (20, DK.quiet [0, 10, 11, 14]), (21, DK.quiet [0, 10, 11, 14]), (22, DK.eff), (0, DK.quiet [0, 10, 11, 14, 17]), (1, DK.quiet [0, 10, 11, 14, 17]), (13, DK.quiet [11, 14, 17]), (14, DK.quiet [11, 14, 17]), (18, DK.quiet [14, 17]), (19, DK.quiet [14, 17]), (23, DK.quiet [17]), (24, DK.quiet [17])], 0, [0, 1, 0, 4, 12, 0, 32, 96, 0, 256, 768, 2044, 4092, 8191, 16383, 0, 32768, 106492, 262143, 524287, 0, 1048576, 3383292, 8388607, 16777215]⟩]
def c8 : CFunc := ⟨30, [CRV.tmp 2],
 .seq (.region [⟨(some 1), (COp.box (CX.t 0)), none⟩,
   ⟨(some 2), (COp.move (CX.c (CVal.str []))), none⟩])
 (.seq (.region [⟨(some 3), (COp.move (CX.c (CVal.str [117, 110, 99, 108, 97, 105, 109, 101, 100, 10]))), none⟩])
  (.seq (.seq (.region [⟨(some 4), (COp.fieldAddr 0 (CX.t 1)), none⟩,
      ⟨(some 5), (COp.load false 1 (CX.t 4)), none⟩])
    (.cond (CX.t 5) (.region [⟨(some 3), (COp.move (CX.c (CVal.str [99, 108, 97, 105, 109, 101, 100, 10]))), none⟩])
     (.skip)))
   (.seq (.draw [⟨8, ⟨(some 14), (COp.fieldAddr 1 (CX.t 1)), none⟩, (DK.quiet [0])⟩,
      ⟨9, ⟨(some 15), (COp.fieldAddr 2 (CX.t 14)), none⟩, (DK.quiet [0])⟩,
      ⟨10, ⟨(some 16), (COp.load false 1 (CX.t 15)), none⟩, (DK.quiet [0])⟩,
      ⟨5, ⟨(some 11), (COp.fieldAddr 1 (CX.t 1)), none⟩, (DK.quiet [0])⟩,
      ⟨6, ⟨(some 12), (COp.fieldAddr 1 (CX.t 11)), none⟩, (DK.quiet [0])⟩,
      ⟨7, ⟨(some 13), (COp.load false 1 (CX.t 12)), none⟩, (DK.quiet [0])⟩,
      ⟨2, ⟨(some 8), (COp.fieldAddr 1 (CX.t 1)), none⟩, (DK.quiet [0])⟩,
      ⟨3, ⟨(some 9), (COp.fieldAddr 0 (CX.t 8)), none⟩, (DK.quiet [0])⟩,
      ⟨4, ⟨(some 10), (COp.load false 1 (CX.t 9)), none⟩, (DK.quiet [0])⟩,
      ⟨11, ⟨(some 17), (COp.buildSlice [CVal.int (Go.IntKind.i64) 0] 3 [(0, 1, CX.t 10), (1, 1, CX.t 13), (2, 1, CX.t 16)]), none⟩, (DK.eff)⟩,
      ⟨12, ⟨(some 18), (COp.call (CX.c (CVal.func 14 [] [])) [CX.t 17]), none⟩, (DK.eff)⟩,
      ⟨15, ⟨(some 21), (COp.fieldAddr 4 (CX.t 1)), none⟩, (DK.quiet [0, 10, 11])⟩,
      ⟨16, ⟨(some 22), (COp.load false 1 (CX.t 21)), none⟩, (DK.quiet [0, 10, 11])⟩,
      ⟨17, ⟨(some 23), (COp.call (CX.c (CVal.func 14 [] [])) [CX.t 22]), none⟩, (DK.eff)⟩,
      ⟨20, ⟨(some 26), (COp.fieldAddr 5 (CX.t 1)), none⟩, (DK.quiet [0, 10, 11, 14])⟩,
      ⟨21, ⟨(some 27), (COp.load false 1 (CX.t 26)), none⟩, (DK.quiet [0, 10, 11, 14])⟩,
      ⟨22, ⟨(some 28), (COp.call (CX.c (CVal.func 14 [] [])) [CX.t 27]), none⟩, (DK.eff)⟩,
      ⟨0, ⟨(some 6), (COp.move (CX.t 3)), none⟩, (DK.quiet [0, 10, 11, 14, 17])⟩,
      ⟨1, ⟨(some 7), (COp.bin (Go.BinOp.add) (CX.t 6) (CX.c (CVal.str [108, 105, 109, 105, 116, 115]))), none⟩, (DK.quiet [0, 10, 11, 14, 17])⟩,
      ⟨13, ⟨(some 19), (COp.bin (Go.BinOp.add) (CX.t 7) (CX.t 18)), none⟩, (DK.quiet [11, 14, 17])⟩,
      ⟨14, ⟨(some 20), (COp.bin (Go.BinOp.add) (CX.t 19) (CX.c (CVal.str [105, 110, 112, 117, 116]))), none⟩, (DK.quiet [11, 14, 17])⟩,
      ⟨18, ⟨(some 24), (COp.bin (Go.BinOp.add) (CX.t 20) (CX.t 23)), none⟩, (DK.quiet [14, 17])⟩,
      ⟨19, ⟨(some 25), (COp.bin (Go.BinOp.add) (CX.t 24) (CX.c (CVal.str [112, 105, 99, 107, 115]))), none⟩, (DK.quiet [14, 17])⟩,
      ⟨23, ⟨(some 29), (COp.bin (Go.BinOp.add) (CX.t 25) (CX.t 28)), none⟩, (DK.quiet [17])⟩,
      ⟨24, ⟨(some 2), (COp.move (CX.t 29)), none⟩, (DK.quiet [17])⟩] 0)
    (.ret))))⟩
theorem ok8 : compFunc prog glb 8 p8 = some c8 := by kernel_rfl
/-- signalbox/script.Read -/
def p9 : List Plan := [⟨[(0, DK.quiet [0]), (3, DK.eff), (1, DK.quiet [0, 2]), (2, DK.quiet [0, 2]), (4, DK.eff), (5, DK.eff)], 0, [0, 0, 2, 1, 15, 31]⟩]
def c9 : CFunc := ⟨25, [CRV.cell 2 true 6, CRV.cell 3 false 1, CRV.cell 4 false 1],
 .seq (.region [⟨(some 2), (COp.new [CVal.bool false, CVal.int (Go.IntKind.i64) 0, CVal.int (Go.IntKind.i64) 0, CVal.int (Go.IntKind.i64) 0, CVal.nilSlice, CVal.nilSlice]), none⟩,
   ⟨(some 3), (COp.new [CVal.int (Go.IntKind.i64) 0]), none⟩,
   ⟨(some 4), (COp.new [CVal.int (Go.IntKind.i64) 0]), none⟩])
 (.seq (.region [⟨(some 5), (COp.new [CVal.bool false, CVal.int (Go.IntKind.i64) 0, CVal.int (Go.IntKind.i64) 0, CVal.int (Go.IntKind.i64) 0, CVal.nilSlice, CVal.nilSlice]), none⟩])
  (.seq (.region [⟨(some 6), (COp.new [CVal.int (Go.IntKind.i64) 0]), none⟩,
     ⟨none, (COp.store 1 (CX.t 6) (CX.c (CVal.int (Go.IntKind.i64) 0))), none⟩])
   (.seq (.seq (.region [⟨(some 8), (COp.move (CX.t 0)), none⟩,
       ⟨(some 9), (COp.call (CX.c (CVal.func 15 [] [])) [CX.t 8]), none⟩])
     (.block 0 (.rangeF 9 0 1 (CX.t 9))))
    (.seq (.seq (.region [⟨(some 19), (COp.load false 1 (CX.t 6)), none⟩,
        ⟨(some 20), (COp.bin (Go.BinOp.lss) (CX.t 19) (CX.c (CVal.int (Go.IntKind.i64) 4))), none⟩])
      (.cond (CX.t 20) (.seq (.draw [⟨0, ⟨(some 21), (COp.build [CVal.bool false, CVal.int (Go.IntKind.i64) 0, CVal.int (Go.IntKind.i64) 0, CVal.int (Go.IntKind.i64) 0, CVal.nilSlice, CVal.nilSlice] []), none⟩, (DK.quiet [0])⟩,
          ⟨3, ⟨none, (COp.store 6 (CX.t 2) (CX.t 21)), none⟩, (DK.eff)⟩,
          ⟨1, ⟨(some 22), (COp.load false 1 (CX.t 6)), none⟩, (DK.quiet [0, 2])⟩,
          ⟨2, ⟨(some 23), (COp.bin (Go.BinOp.add) (CX.t 22) (CX.c (CVal.int (Go.IntKind.i64) 1))), none⟩, (DK.quiet [0, 2])⟩,
          ⟨4, ⟨none, (COp.store 1 (CX.t 3) (CX.t 23)), none⟩, (DK.eff)⟩,
          ⟨5, ⟨none, (COp.store 1 (CX.t 4) (CX.c (CVal.int (Go.IntKind.i64) 6))), none⟩, (DK.eff)⟩] 0)
        (.ret))
       (.skip)))
     (.seq (.region [⟨(some 24), (COp.load true 6 (CX.t 5)), none⟩,
        ⟨none, (COp.store 6 (CX.t 2) (CX.t 24)), none⟩,
        ⟨none, (COp.store 1 (CX.t 3) (CX.c (CVal.int (Go.IntKind.i64) 0))), none⟩,
        ⟨none, (COp.store 1 (CX.t 4) (CX.c (CVal.int (Go.IntKind.i64) 0))), none⟩])
      (.ret))))))⟩
theorem ok9 : compFunc prog glb 9 p9 = some c9 := by kernel_rfl
def pr9_0 : List Plan := [⟨[(0, DK.quiet [0]), (2, DK.eff), (1, DK.quiet [0, 2]), (3, DK.eff), (4, DK.eff)], 0, [0, 0, 1, 7, 15]⟩]
def r9_0 : RoundC := ⟨[10],
 (.region [⟨(some 7), (COp.move (CX.t 10)), none⟩]),
 (.block 1 (.seq (.region [⟨(some 11), (COp.load false 1 (CX.t 6)), none⟩,
    ⟨(some 12), (COp.bin (Go.BinOp.add) (CX.t 11) (CX.c (CVal.int (Go.IntKind.i64) 1))), none⟩,
    ⟨none, (COp.store 1 (CX.t 6) (CX.t 12)), none⟩])
  (.seq (.region [⟨(some 13), (COp.load false 1 (CX.t 6)), none⟩,
     ⟨(some 14), (COp.move (CX.t 7)), none⟩,
     ⟨(some 15), (COp.call (CX.c (CVal.func 16 [] [])) [CX.t 5, CX.t 13, CX.t 14]), none⟩,
     ⟨(some 16), (COp.un (Go.UnOp.not) (CX.t 15)), none⟩])
   (.cond (CX.t 16) (.seq (.draw [⟨0, ⟨(some 17), (COp.build [CVal.bool false, CVal.int (Go.IntKind.i64) 0, CVal.int (Go.IntKind.i64) 0, CVal.int (Go.IntKind.i64) 0, CVal.nilSlice, CVal.nilSlice] []), none⟩, (DK.quiet [0])⟩,
       ⟨2, ⟨none, (COp.store 6 (CX.t 2) (CX.t 17)), none⟩, (DK.eff)⟩,
       ⟨1, ⟨(some 18), (COp.load false 1 (CX.t 6)), none⟩, (DK.quiet [0, 2])⟩,
       ⟨3, ⟨none, (COp.store 1 (CX.t 3) (CX.t 18)), none⟩, (DK.eff)⟩,
       ⟨4, ⟨none, (COp.store 1 (CX.t 4) (CX.c (CVal.int (Go.IntKind.i64) 6))), none⟩, (DK.eff)⟩] 0)
     (.ret))
    (.skip)))))⟩
theorem okr9_0 : compRound prog glb 9 0 pr9_0 = some r9_0 := by kernel_rfl
/-- signalbox/signalboxref31.Jobs -/
def p10 : List Plan := []
def c10 : CFunc := ⟨31, [CRV.tmp 4],
 .seq (.region [⟨(some 2), (COp.box (CX.t 0)), none⟩,
   ⟨(some 3), (COp.box (CX.t 1)), none⟩,
   ⟨(some 4), (COp.move (CX.c (CVal.bool false))), none⟩])
 (.seq (.region [⟨(some 5), (COp.fieldAddr 0 (CX.t 2)), none⟩,
    ⟨(some 6), (COp.load false 1 (CX.t 5)), none⟩,
    ⟨(some 7), (COp.fieldAddr 0 (CX.t 3)), none⟩,
    ⟨(some 8), (COp.load false 1 (CX.t 7)), none⟩,
    ⟨(some 9), (COp.eq (TK.bool) false (CX.t 6) (CX.t 8)), none⟩,
    ⟨(some 10), (COp.move (CX.t 9)), none⟩,
    ⟨(some 11), (COp.fieldAddr 1 (CX.t 2)), (some (10, true))⟩,
    ⟨(some 12), (COp.load true 3 (CX.t 11)), (some (10, true))⟩,
    ⟨(some 13), (COp.fieldAddr 1 (CX.t 3)), (some (10, true))⟩,
    ⟨(some 14), (COp.load true 3 (CX.t 13)), (some (10, true))⟩,
    ⟨(some 15), (COp.eqS [PK.int, PK.int, PK.int] false (CX.t 12) (CX.t 14)), (some (10, true))⟩,
    ⟨(some 16), (COp.pick (CX.t 10) (CX.t 15) (CX.c (CVal.bool false))), none⟩,
    ⟨(some 17), (COp.move (CX.t 16)), none⟩,
    ⟨(some 18), (COp.fieldAddr 4 (CX.t 2)), (some (17, true))⟩,
    ⟨(some 19), (COp.load false 1 (CX.t 18)), (some (17, true))⟩,
    ⟨(some 20), (COp.fieldAddr 4 (CX.t 3)), (some (17, true))⟩,
    ⟨(some 21), (COp.load false 1 (CX.t 20)), (some (17, true))⟩,
    ⟨(some 22), (COp.call (CX.c (CVal.func 17 [] [])) [CX.t 19, CX.t 21]), (some (17, true))⟩,
    ⟨(some 23), (COp.pick (CX.t 17) (CX.t 22) (CX.c (CVal.bool false))), none⟩,
    ⟨(some 24), (COp.move (CX.t 23)), none⟩,
    ⟨(some 25), (COp.fieldAddr 5 (CX.t 2)), (some (24, true))⟩,
    ⟨(some 26), (COp.load false 1 (CX.t 25)), (some (24, true))⟩,
    ⟨(some 27), (COp.fieldAddr 5 (CX.t 3)), (some (24, true))⟩,
    ⟨(some 28), (COp.load false 1 (CX.t 27)), (some (24, true))⟩,
    ⟨(some 29), (COp.call (CX.c (CVal.func 17 [] [])) [CX.t 26, CX.t 28]), (some (24, true))⟩,
    ⟨(some 30), (COp.pick (CX.t 24) (CX.t 29) (CX.c (CVal.bool false))), none⟩,
    ⟨(some 4), (COp.move (CX.t 30)), none⟩])
  (.ret))⟩
theorem ok10 : compFunc prog glb 10 p10 = some c10 := by kernel_rfl
/-- signalbox/signalboxref31.ReadScript -/
def p11 : List Plan := [⟨[(4, DK.quiet [0]), (5, DK.quiet [0]), (6, DK.quiet [0]), (1, DK.quiet [0]), (0, DK.quiet [0]), (2, DK.quiet [0]), (3, DK.quiet [0]), (7, DK.eff), (8, DK.quiet [8]), (9, DK.quiet [8]), (11, DK.quiet [8]), (10, DK.quiet [8]), (12, DK.quiet [8])], 0, [0, 0, 3, 7, 0, 16, 48, 127, 255, 511, 511, 1023, 4095]⟩, ⟨[(6, DK.quiet [0]), (7, DK.quiet [0]), (8, DK.quiet [0]), (3, DK.quiet [0]), (4, DK.quiet [0]), (5, DK.quiet [0]), (0, DK.quiet [0]), (1, DK.quiet [0]), (2, DK.quiet [0]), (9, DK.quiet [0]), (10, DK.quiet [0]), (11, DK.eff)], 0, [0, 1, 3, 0, 8, 24, 0, 64, 192, 511, 1023, 2047]⟩]
def c11 : CFunc := ⟨119, [CRV.cell 2 true 6, CRV.tmp 3, CRV.tmp 4],
 .seq (.region [⟨(some 2), (COp.new [CVal.bool false, CVal.int (Go.IntKind.i64) 0, CVal.int (Go.IntKind.i64) 0, CVal.int (Go.IntKind.i64) 0, CVal.nilSlice, CVal.nilSlice]), none⟩,
   ⟨(some 3), (COp.move (CX.c (CVal.int (Go.IntKind.i64) 0))), none⟩,
   ⟨(some 4), (COp.move (CX.c (CVal.int (Go.IntKind.i64) 0))), none⟩])
 (.seq (.region [⟨(some 13), (COp.buildSlice [CVal.str []] 0 []), none⟩,
    ⟨(some 5), (COp.move (CX.t 13)), none⟩])
  (.seq (.region [⟨(some 6), (COp.move (CX.c (CVal.int (Go.IntKind.i64) 0))), none⟩])
   (.seq (.seq (.region [⟨(some 7), (COp.move (CX.c (CVal.int (Go.IntKind.i64) 0))), none⟩])
     (.block 0 (.loop (.seq (.seq (.region [⟨(some 14), (COp.move (CX.t 7)), none⟩,
           ⟨(some 15), (COp.move (CX.t 0)), none⟩,
           ⟨(some 16), (COp.len (LK.str) (CX.t 15)), none⟩,
           ⟨(some 17), (COp.bin (Go.BinOp.lss) (CX.t 14) (CX.t 16)), none⟩])
         (.cond (CX.t 17) (.skip)
          (.exit 0)))
        (.seq (.block 1 (.seq (.region [⟨(some 20), (COp.move (CX.t 0)), none⟩,
             ⟨(some 21), (COp.move (CX.t 7)), none⟩,
             ⟨(some 22), (COp.indexStr (CX.t 20) (CX.t 21)), none⟩,
             ⟨(some 23), (COp.bin (Go.BinOp.eql) (CX.t 22) (CX.c (CVal.int (Go.IntKind.u8) 10))), none⟩])
           (.cond (CX.t 23) (.seq (.region [⟨(some 24), (COp.move (CX.t 5)), none⟩,
               ⟨(some 25), (COp.move (CX.t 0)), none⟩,
               ⟨(some 26), (COp.move (CX.t 6)), none⟩,
               ⟨(some 27), (COp.move (CX.t 7)), none⟩,
               ⟨(some 28), (COp.sliceStr (CX.t 25) (some (CX.t 26)) (some (CX.t 27))), none⟩,
               ⟨(some 29), (COp.buildSlice [CVal.str []] 1 [(0, 1, CX.t 28)]), none⟩,
               ⟨(some 30), (COp.append 1 16 (CX.t 24) (CX.t 29)), none⟩,
               ⟨(some 5), (COp.move (CX.t 30)), none⟩])
             (.region [⟨(some 31), (COp.move (CX.t 7)), none⟩,
               ⟨(some 32), (COp.bin (Go.BinOp.add) (CX.t 31) (CX.c (CVal.int (Go.IntKind.i64) 1))), none⟩,
               ⟨(some 6), (COp.move (CX.t 32)), none⟩]))
            (.skip))))
         (.region [⟨(some 18), (COp.move (CX.t 7)), none⟩,
           ⟨(some 19), (COp.bin (Go.BinOp.add) (CX.t 18) (CX.c (CVal.int (Go.IntKind.i64) 1))), none⟩,
           ⟨(some 7), (COp.move (CX.t 19)), none⟩]))))))
    (.seq (.region [⟨(some 33), (COp.build [CVal.bool false, CVal.int (Go.IntKind.i64) 0, CVal.int (Go.IntKind.i64) 0, CVal.int (Go.IntKind.i64) 0, CVal.nilSlice, CVal.nilSlice] []), none⟩,
       ⟨(some 8), (COp.new [CVal.bool false, CVal.int (Go.IntKind.i64) 0, CVal.int (Go.IntKind.i64) 0, CVal.int (Go.IntKind.i64) 0, CVal.nilSlice, CVal.nilSlice]), none⟩,
       ⟨none, (COp.store 6 (CX.t 8) (CX.t 33)), none⟩])
     (.seq (.region [⟨(some 34), (COp.build [CVal.str [], CVal.str [], CVal.str [], CVal.str []] [(0, 1, CX.c (CVal.str [])), (1, 1, CX.c (CVal.str [108, 105, 109, 105, 116, 115])), (2, 1, CX.c (CVal.str [105, 110, 112, 117, 116])), (3, 1, CX.c (CVal.str [112, 105, 99, 107, 115]))]), none⟩,
        ⟨(some 9), (COp.new [CVal.str [], CVal.str [], CVal.str [], CVal.str []]), none⟩,
        ⟨none, (COp.store 4 (CX.t 9) (CX.t 34)), none⟩])
      (.seq (.seq (.region [⟨(some 10), (COp.move (CX.c (CVal.int (Go.IntKind.i64) 0))), none⟩])
        (.block 2 (.loop (.seq (.seq (.region [⟨(some 35), (COp.move (CX.t 10)), none⟩,
              ⟨(some 36), (COp.bin (Go.BinOp.lss) (CX.t 35) (CX.c (CVal.int (Go.IntKind.i64) 4))), none⟩])
            (.cond (CX.t 36) (.skip)
             (.exit 2)))
           (.seq (.block 3 (.seq (.seq (.region [⟨(some 39), (COp.move (CX.t 10)), none⟩,
                 ⟨(some 40), (COp.move (CX.t 5)), none⟩,
                 ⟨(some 41), (COp.len (LK.slice) (CX.t 40)), none⟩,
                 ⟨(some 42), (COp.bin (Go.BinOp.geq) (CX.t 39) (CX.t 41)), none⟩])
               (.cond (CX.t 42) (.seq (.region [⟨(some 43), (COp.build [CVal.bool false, CVal.int (Go.IntKind.i64) 0, CVal.int (Go.IntKind.i64) 0, CVal.int (Go.IntKind.i64) 0, CVal.nilSlice, CVal.nilSlice] []), none⟩,
                   ⟨(some 44), (COp.move (CX.t 10)), none⟩,
                   ⟨(some 45), (COp.bin (Go.BinOp.add) (CX.t 44) (CX.c (CVal.int (Go.IntKind.i64) 1))), none⟩,
                   ⟨none, (COp.store 6 (CX.t 2) (CX.t 43)), none⟩,
                   ⟨(some 3), (COp.move (CX.t 45)), none⟩,
                   ⟨(some 4), (COp.move (CX.c (CVal.int (Go.IntKind.i64) 6))), none⟩])
                 (.ret))
                (.skip)))
              (.seq (.seq (.region [⟨(some 46), (COp.move (CX.t 10)), none⟩,
                  ⟨(some 47), (COp.bin (Go.BinOp.eql) (CX.t 46) (CX.c (CVal.int (Go.IntKind.i64) 0))), none⟩])
                (.cond (CX.t 47) (.seq (.region [⟨(some 48), (COp.move (CX.t 5)), none⟩,
                    ⟨(some 49), (COp.indexAddr 1 (CX.t 48) (CX.c (CVal.int (Go.IntKind.i64) 0))), none⟩,
                    ⟨(some 50), (COp.load false 1 (CX.t 49)), none⟩,
                    ⟨(some 51), (COp.bin (Go.BinOp.eql) (CX.t 50) (CX.c (CVal.str [99, 108, 97, 105, 109, 101, 100]))), none⟩,
                    ⟨(some 52), (COp.fieldAddr 0 (CX.t 8)), none⟩,
                    ⟨none, (COp.store 1 (CX.t 52) (CX.t 51)), none⟩])
                  (.seq (.seq (.region [⟨(some 53), (COp.fieldAddr 0 (CX.t 8)), none⟩,
                      ⟨(some 54), (COp.load false 1 (CX.t 53)), none⟩,
                      ⟨(some 55), (COp.un (Go.UnOp.not) (CX.t 54)), none⟩,
                      ⟨(some 56), (COp.move (CX.t 55)), none⟩,
                      ⟨(some 57), (COp.move (CX.t 5)), (some (56, true))⟩,
                      ⟨(some 58), (COp.indexAddr 1 (CX.t 57) (CX.c (CVal.int (Go.IntKind.i64) 0))), (some (56, true))⟩,
                      ⟨(some 59), (COp.load false 1 (CX.t 58)), (some (56, true))⟩,
                      ⟨(some 60), (COp.bin (Go.BinOp.neq) (CX.t 59) (CX.c (CVal.str [117, 110, 99, 108, 97, 105, 109, 101, 100]))), (some (56, true))⟩,
                      ⟨(some 61), (COp.pick (CX.t 56) (CX.t 60) (CX.c (CVal.bool false))), none⟩])
                    (.cond (CX.t 61) (.seq (.region [⟨(some 62), (COp.build [CVal.bool false, CVal.int (Go.IntKind.i64) 0, CVal.int (Go.IntKind.i64) 0, CVal.int (Go.IntKind.i64) 0, CVal.nilSlice, CVal.nilSlice] []), none⟩,
                        ⟨none, (COp.store 6 (CX.t 2) (CX.t 62)), none⟩,
                        ⟨(some 3), (COp.move (CX.c (CVal.int (Go.IntKind.i64) 1))), none⟩,
                        ⟨(some 4), (COp.move (CX.c (CVal.int (Go.IntKind.i64) 6))), none⟩])
                      (.ret))
                     (.skip)))
                   (.exit 3)))
                 (.skip)))
               (.seq (.draw [⟨4, ⟨(some 68), (COp.move (CX.t 10)), none⟩, (DK.quiet [0])⟩,
                  ⟨5, ⟨(some 69), (COp.indexAddrArr 4 1 (CX.t 9) (CX.t 68)), none⟩, (DK.quiet [0])⟩,
                  ⟨6, ⟨(some 70), (COp.load false 1 (CX.t 69)), none⟩, (DK.quiet [0])⟩,
                  ⟨1, ⟨(some 65), (COp.move (CX.t 10)), none⟩, (DK.quiet [0])⟩,
                  ⟨0, ⟨(some 64), (COp.move (CX.t 5)), none⟩, (DK.quiet [0])⟩,
                  ⟨2, ⟨(some 66), (COp.indexAddr 1 (CX.t 64) (CX.t 65)), none⟩, (DK.quiet [0])⟩,
                  ⟨3, ⟨(some 67), (COp.load false 1 (CX.t 66)), none⟩, (DK.quiet [0])⟩,
                  ⟨7, ⟨(some 71), (COp.call (CX.c (CVal.func 18 [] [])) [CX.t 67, CX.t 70]), none⟩, (DK.eff)⟩,
                  ⟨8, ⟨(some 63), (COp.move (CX.t 71)), none⟩, (DK.quiet [8])⟩,
                  ⟨9, ⟨(some 72), (COp.extract (CX.t 63) 0), none⟩, (DK.quiet [8])⟩,
                  ⟨11, ⟨(some 11), (COp.move (CX.t 72)), none⟩, (DK.quiet [8])⟩,
                  ⟨10, ⟨(some 73), (COp.extract (CX.t 63) 1), none⟩, (DK.quiet [8])⟩,
                  ⟨12, ⟨(some 12), (COp.move (CX.t 73)), none⟩, (DK.quiet [8])⟩] 0)
                (.seq (.seq (.region [⟨(some 74), (COp.move (CX.t 12)), none⟩,
                    ⟨(some 75), (COp.un (Go.UnOp.not) (CX.t 74)), none⟩,
                    ⟨(some 76), (COp.move (CX.t 75)), none⟩,
                    ⟨(some 77), (COp.move (CX.t 10)), (some (76, false))⟩,
                    ⟨(some 78), (COp.bin (Go.BinOp.eql) (CX.t 77) (CX.c (CVal.int (Go.IntKind.i64) 1))), (some (76, false))⟩,
                    ⟨(some 79), (COp.move (CX.t 78)), (some (76, false))⟩,
                    ⟨(some 80), (COp.move (CX.t 11)), (some (79, true))⟩,
                    ⟨(some 81), (COp.len (LK.slice) (CX.t 80)), (some (79, true))⟩,
                    ⟨(some 82), (COp.bin (Go.BinOp.neq) (CX.t 81) (CX.c (CVal.int (Go.IntKind.i64) 3))), (some (79, true))⟩,
                    ⟨(some 83), (COp.pick (CX.t 79) (CX.t 82) (CX.c (CVal.bool false))), (some (76, false))⟩,
                    ⟨(some 84), (COp.pick (CX.t 76) (CX.c (CVal.bool true)) (CX.t 83)), none⟩])
                  (.cond (CX.t 84) (.seq (.region [⟨(some 85), (COp.build [CVal.bool false, CVal.int (Go.IntKind.i64) 0, CVal.int (Go.IntKind.i64) 0, CVal.int (Go.IntKind.i64) 0, CVal.nilSlice, CVal.nilSlice] []), none⟩,
                      ⟨(some 86), (COp.move (CX.t 10)), none⟩,
                      ⟨(some 87), (COp.bin (Go.BinOp.add) (CX.t 86) (CX.c (CVal.int (Go.IntKind.i64) 1))), none⟩,
                      ⟨none, (COp.store 6 (CX.t 2) (CX.t 85)), none⟩,
                      ⟨(some 3), (COp.move (CX.t 87)), none⟩,
                      ⟨(some 4), (COp.move (CX.c (CVal.int (Go.IntKind.i64) 6))), none⟩])
                    (.ret))
                   (.skip)))
                 (.seq (.region [⟨(some 88), (COp.move (CX.t 10)), none⟩])
                  (.block 4 (.seq (.region [⟨(some 92), (COp.bin (Go.BinOp.eql) (CX.t 88) (CX.c (CVal.int (Go.IntKind.i64) 1))), none⟩,
                      ⟨(some 91), (COp.move (CX.t 92)), none⟩])
                    (.cond (CX.t 91) (.draw [⟨6, ⟨(some 99), (COp.move (CX.t 11)), none⟩, (DK.quiet [0])⟩,
                       ⟨7, ⟨(some 100), (COp.indexAddr 1 (CX.t 99) (CX.c (CVal.int (Go.IntKind.i64) 2))), none⟩, (DK.quiet [0])⟩,
                       ⟨8, ⟨(some 101), (COp.load false 1 (CX.t 100)), none⟩, (DK.quiet [0])⟩,
                       ⟨3, ⟨(some 96), (COp.move (CX.t 11)), none⟩, (DK.quiet [0])⟩,
                       ⟨4, ⟨(some 97), (COp.indexAddr 1 (CX.t 96) (CX.c (CVal.int (Go.IntKind.i64) 1))), none⟩, (DK.quiet [0])⟩,
                       ⟨5, ⟨(some 98), (COp.load false 1 (CX.t 97)), none⟩, (DK.quiet [0])⟩,
                       ⟨0, ⟨(some 93), (COp.move (CX.t 11)), none⟩, (DK.quiet [0])⟩,
                       ⟨1, ⟨(some 94), (COp.indexAddr 1 (CX.t 93) (CX.c (CVal.int (Go.IntKind.i64) 0))), none⟩, (DK.quiet [0])⟩,
                       ⟨2, ⟨(some 95), (COp.load false 1 (CX.t 94)), none⟩, (DK.quiet [0])⟩,
                       ⟨9, ⟨(some 102), (COp.build [CVal.int (Go.IntKind.i64) 0, CVal.int (Go.IntKind.i64) 0, CVal.int (Go.IntKind.i64) 0] [(0, 1, CX.t 95), (1, 1, CX.t 98), (2, 1, CX.t 101)]), none⟩, (DK.quiet [0])⟩,
                       ⟨10, ⟨(some 103), (COp.fieldAddr 1 (CX.t 8)), none⟩, (DK.quiet [0])⟩,
                       ⟨11, ⟨none, (COp.store 3 (CX.t 103) (CX.t 102)), none⟩, (DK.eff)⟩] 0)
                     (.seq (.region [⟨(some 105), (COp.bin (Go.BinOp.eql) (CX.t 88) (CX.c (CVal.int (Go.IntKind.i64) 2))), none⟩,
                        ⟨(some 104), (COp.move (CX.t 105)), none⟩])
                      (.cond (CX.t 104) (.region [⟨(some 106), (COp.move (CX.t 11)), none⟩,
                         ⟨(some 107), (COp.fieldAddr 4 (CX.t 8)), none⟩,
                         ⟨none, (COp.store 1 (CX.t 107) (CX.t 106)), none⟩])
                       (.region [⟨(some 89), (COp.move (CX.t 11)), none⟩,
                         ⟨(some 90), (COp.fieldAddr 5 (CX.t 8)), none⟩,
                         ⟨none, (COp.store 1 (CX.t 90) (CX.t 89)), none⟩]))))))))))))
            (.region [⟨(some 37), (COp.move (CX.t 10)), none⟩,
              ⟨(some 38), (COp.bin (Go.BinOp.add) (CX.t 37) (CX.c (CVal.int (Go.IntKind.i64) 1))), none⟩,
              ⟨(some 10), (COp.move (CX.t 38)), none⟩]))))))
       (.seq (.seq (.region [⟨(some 108), (COp.move (CX.t 5)), none⟩,
           ⟨(some 109), (COp.len (LK.slice) (CX.t 108)), none⟩,
           ⟨(some 110), (COp.bin (Go.BinOp.gtr) (CX.t 109) (CX.c (CVal.int (Go.IntKind.i64) 4))), none⟩,
           ⟨(some 111), (COp.move (CX.t 110)), none⟩,
           ⟨(some 112), (COp.move (CX.t 6)), (some (111, false))⟩,
           ⟨(some 113), (COp.move (CX.t 0)), (some (111, false))⟩,
           ⟨(some 114), (COp.len (LK.str) (CX.t 113)), (some (111, false))⟩,
           ⟨(some 115), (COp.bin (Go.BinOp.lss) (CX.t 112) (CX.t 114)), (some (111, false))⟩,
           ⟨(some 116), (COp.pick (CX.t 111) (CX.c (CVal.bool true)) (CX.t 115)), none⟩])
         (.cond (CX.t 116) (.seq (.region [⟨(some 117), (COp.build [CVal.bool false, CVal.int (Go.IntKind.i64) 0, CVal.int (Go.IntKind.i64) 0, CVal.int (Go.IntKind.i64) 0, CVal.nilSlice, CVal.nilSlice] []), none⟩,
             ⟨none, (COp.store 6 (CX.t 2) (CX.t 117)), none⟩,
             ⟨(some 3), (COp.move (CX.c (CVal.int (Go.IntKind.i64) 5))), none⟩,
             ⟨(some 4), (COp.move (CX.c (CVal.int (Go.IntKind.i64) 6))), none⟩])
           (.ret))
          (.skip)))
        (.seq (.region [⟨(some 118), (COp.load true 6 (CX.t 8)), none⟩,
           ⟨none, (COp.store 6 (CX.t 2) (CX.t 118)), none⟩,
           ⟨(some 3), (COp.move (CX.c (CVal.int (Go.IntKind.i64) 0))), none⟩,
           ⟨(some 4), (COp.move (CX.c (CVal.int (Go.IntKind.i64) 0))), none⟩])
         (.ret)))))))))⟩
theorem ok11 : compFunc prog glb 11 p11 = some c11 := by kernel_rfl
/-- signalbox/script.line -/
def p12 : List Plan := []
def c12 : CFunc := ⟨21, [CRV.tmp 4],
 .seq (.region [⟨(some 4), (COp.move (CX.c (CVal.str []))), none⟩])
 (.seq (.seq (.region [⟨(some 7), (COp.move (CX.t 1)), none⟩,
     ⟨(some 8), (COp.len (LK.slice) (CX.t 7)), none⟩,
     ⟨(some 9), (COp.move (CX.c (CVal.int (Go.IntKind.i64) 0))), none⟩])
   (.block 0 (.loop (.seq (.region [⟨(some 10), (COp.bin (Go.BinOp.lss) (CX.t 9) (CX.t 8)), none⟩])
      (.seq (.cond (CX.t 10) (.skip)
        (.exit 0))
       (.seq (.block 1 (.seq (.region [⟨(some 11), (COp.indexAddr 1 (CX.t 7) (CX.t 9)), none⟩,
            ⟨(some 12), (COp.load false 1 (CX.t 11)), none⟩,
            ⟨(some 6), (COp.move (CX.t 12)), none⟩])
          (.region [⟨(some 13), (COp.move (CX.t 0)), none⟩,
            ⟨(some 14), (COp.move (CX.t 6)), none⟩,
            ⟨(some 15), (COp.call (CX.c (CVal.func 19 [] [])) [CX.t 14]), none⟩,
            ⟨(some 16), (COp.bin (Go.BinOp.add) (CX.c (CVal.str [32])) (CX.t 15)), none⟩,
            ⟨(some 17), (COp.bin (Go.BinOp.add) (CX.t 13) (CX.t 16)), none⟩,
            ⟨(some 0), (COp.move (CX.t 17)), none⟩])))
        (.region [⟨(some 18), (COp.bin (Go.BinOp.add) (CX.t 9) (CX.c (CVal.int (Go.IntKind.i64) 1))), none⟩,
          ⟨(some 9), (COp.move (CX.t 18)), none⟩])))))))
  (.seq (.region [⟨(some 19), (COp.move (CX.t 0)), none⟩,
     ⟨(some 20), (COp.bin (Go.BinOp.add) (CX.t 19) (CX.c (CVal.str [10]))), none⟩,
     ⟨(some 4), (COp.move (CX.t 20)), none⟩])
   (.ret)))⟩
theorem ok12 : compFunc prog glb 12 p12 = some c12 := by kernel_rfl
/-- signalbox/script.mode -/
def p13 : List Plan := []
def c13 : CFunc := ⟨4, [CRV.tmp 2],
 .seq (.region [⟨(some 2), (COp.move (CX.c (CVal.str []))), none⟩])
 (.seq (.seq (.region [⟨(some 3), (COp.move (CX.t 0)), none⟩])
   (.cond (CX.t 3) (.seq (.region [⟨(some 2), (COp.move (CX.c (CVal.str [99, 108, 97, 105, 109, 101, 100]))), none⟩])
     (.ret))
    (.skip)))
  (.seq (.region [⟨(some 2), (COp.move (CX.c (CVal.str [117, 110, 99, 108, 97, 105, 109, 101, 100]))), none⟩])
   (.ret)))⟩
theorem ok13 : compFunc prog glb 13 p13 = some c13 := by kernel_rfl
/-- signalbox/signalboxref31.nums -/
def p14 : List Plan := []
def c14 : CFunc := ⟨21, [CRV.tmp 2],
 .seq (.region [⟨(some 2), (COp.move (CX.c (CVal.str []))), none⟩])
 (.seq (.region [⟨(some 3), (COp.move (CX.c (CVal.str []))), none⟩])
  (.seq (.seq (.region [⟨(some 4), (COp.move (CX.c (CVal.int (Go.IntKind.i64) 0))), none⟩])
    (.block 0 (.loop (.seq (.seq (.region [⟨(some 5), (COp.move (CX.t 4)), none⟩,
          ⟨(some 6), (COp.move (CX.t 0)), none⟩,
          ⟨(some 7), (COp.len (LK.slice) (CX.t 6)), none⟩,
          ⟨(some 8), (COp.bin (Go.BinOp.lss) (CX.t 5) (CX.t 7)), none⟩])
        (.cond (CX.t 8) (.skip)
         (.exit 0)))
       (.seq (.block 1 (.region [⟨(some 11), (COp.move (CX.t 3)), none⟩,
           ⟨(some 12), (COp.bin (Go.BinOp.add) (CX.t 11) (CX.c (CVal.str [32]))), none⟩,
           ⟨(some 13), (COp.move (CX.t 0)), none⟩,
           ⟨(some 14), (COp.move (CX.t 4)), none⟩,
           ⟨(some 15), (COp.indexAddr 1 (CX.t 13) (CX.t 14)), none⟩,
           ⟨(some 16), (COp.load false 1 (CX.t 15)), none⟩,
           ⟨(some 17), (COp.call (CX.c (CVal.func 19 [] [])) [CX.t 16]), none⟩,
           ⟨(some 18), (COp.bin (Go.BinOp.add) (CX.t 12) (CX.t 17)), none⟩,
           ⟨(some 3), (COp.move (CX.t 18)), none⟩]))
        (.region [⟨(some 9), (COp.move (CX.t 4)), none⟩,
          ⟨(some 10), (COp.bin (Go.BinOp.add) (CX.t 9) (CX.c (CVal.int (Go.IntKind.i64) 1))), none⟩,
          ⟨(some 4), (COp.move (CX.t 10)), none⟩]))))))
   (.seq (.region [⟨(some 19), (COp.move (CX.t 3)), none⟩,
      ⟨(some 20), (COp.bin (Go.BinOp.add) (CX.t 19) (CX.c (CVal.str [10]))), none⟩,
      ⟨(some 2), (COp.move (CX.t 20)), none⟩])
    (.ret))))⟩
theorem ok14 : compFunc prog glb 14 p14 = some c14 := by kernel_rfl
/-- strings.Lines -/
def p15 : List Plan := []
def c15 : CFunc := ⟨4, [CRV.tmp 2],
 .seq (.region [⟨(some 1), (COp.box (CX.t 0)), none⟩,
   ⟨(some 2), (COp.move (CX.c (CVal.nilFunc))), none⟩])
 (.seq (.region [⟨(some 3), (COp.func 20 [] [CX.t 1]), none⟩,
    ⟨(some 2), (COp.move (CX.t 3)), none⟩])
  (.ret))⟩
theorem ok15 : compFunc prog glb 15 p15 = some c15 := by kernel_rfl
/-- signalbox/script.read -/
def p16 : List Plan := [⟨[(7, DK.quiet [0]), (8, DK.quiet [0]), (9, DK.quiet [0]), (4, DK.quiet [0]), (5, DK.quiet [0]), (6, DK.quiet [0]), (1, DK.quiet [0]), (2, DK.quiet [0]), (3, DK.quiet [0]), (10, DK.quiet [0]), (0, DK.quiet [0]), (11, DK.quiet [0]), (12, DK.quiet [0]), (13, DK.eff)], 0, [0, 0, 2, 6, 0, 16, 48, 0, 128, 384, 1022, 2047, 4095, 8191]⟩]
def c16 : CFunc := ⟨70, [CRV.tmp 6],
 .seq (.region [⟨(some 6), (COp.move (CX.c (CVal.bool false))), none⟩])
 (.seq (.region [⟨(some 8), (COp.move (CX.t 2)), none⟩,
    ⟨(some 9), (COp.call (CX.c (CVal.func 22 [] [])) [CX.t 8]), none⟩,
    ⟨(some 7), (COp.move (CX.t 9)), none⟩])
  (.seq (.seq (.region [⟨(some 10), (COp.move (CX.t 1)), none⟩])
    (.block 0 (.seq (.region [⟨(some 12), (COp.bin (Go.BinOp.eql) (CX.t 10) (CX.c (CVal.int (Go.IntKind.i64) 1))), none⟩,
        ⟨(some 11), (COp.move (CX.t 12)), none⟩])
      (.cond (CX.t 11) (.seq (.region [⟨(some 13), (COp.move (CX.t 0)), none⟩,
          ⟨(some 14), (COp.move (CX.t 2)), none⟩,
          ⟨(some 15), (COp.call (CX.c (CVal.func 13 [] [])) [CX.c (CVal.bool true)]), none⟩,
          ⟨(some 16), (COp.call (CX.c (CVal.func 12 [] [])) [CX.t 15, CX.c (CVal.nilSlice)]), none⟩,
          ⟨(some 17), (COp.bin (Go.BinOp.eql) (CX.t 14) (CX.t 16)), none⟩,
          ⟨(some 18), (COp.nilCheck (CX.t 13)), none⟩,
          ⟨(some 19), (COp.fieldAddr 0 (CX.t 18)), none⟩,
          ⟨none, (COp.store 1 (CX.t 19) (CX.t 17)), none⟩])
        (.seq (.region [⟨(some 20), (COp.move (CX.t 2)), none⟩,
           ⟨(some 21), (COp.move (CX.t 0)), none⟩,
           ⟨(some 22), (COp.nilCheck (CX.t 21)), none⟩,
           ⟨(some 23), (COp.fieldAddr 0 (CX.t 22)), none⟩,
           ⟨(some 24), (COp.load false 1 (CX.t 23)), none⟩,
           ⟨(some 25), (COp.call (CX.c (CVal.func 13 [] [])) [CX.t 24]), none⟩,
           ⟨(some 26), (COp.call (CX.c (CVal.func 12 [] [])) [CX.t 25, CX.c (CVal.nilSlice)]), none⟩,
           ⟨(some 27), (COp.bin (Go.BinOp.eql) (CX.t 20) (CX.t 26)), none⟩,
           ⟨(some 6), (COp.move (CX.t 27)), none⟩])
         (.ret)))
       (.seq (.region [⟨(some 29), (COp.bin (Go.BinOp.eql) (CX.t 10) (CX.c (CVal.int (Go.IntKind.i64) 2))), none⟩,
          ⟨(some 28), (COp.move (CX.t 29)), none⟩])
        (.cond (CX.t 28) (.seq (.seq (.region [⟨(some 30), (COp.move (CX.t 7)), none⟩,
             ⟨(some 31), (COp.len (LK.slice) (CX.t 30)), none⟩,
             ⟨(some 32), (COp.bin (Go.BinOp.neq) (CX.t 31) (CX.c (CVal.int (Go.IntKind.i64) 3))), none⟩])
           (.cond (CX.t 32) (.seq (.region [⟨(some 6), (COp.move (CX.c (CVal.bool false))), none⟩])
             (.ret))
            (.skip)))
          (.seq (.draw [⟨7, ⟨(some 40), (COp.move (CX.t 7)), none⟩, (DK.quiet [0])⟩,
             ⟨8, ⟨(some 41), (COp.indexAddr 1 (CX.t 40) (CX.c (CVal.int (Go.IntKind.i64) 2))), none⟩, (DK.quiet [0])⟩,
             ⟨9, ⟨(some 42), (COp.load false 1 (CX.t 41)), none⟩, (DK.quiet [0])⟩,
             ⟨4, ⟨(some 37), (COp.move (CX.t 7)), none⟩, (DK.quiet [0])⟩,
             ⟨5, ⟨(some 38), (COp.indexAddr 1 (CX.t 37) (CX.c (CVal.int (Go.IntKind.i64) 1))), none⟩, (DK.quiet [0])⟩,
             ⟨6, ⟨(some 39), (COp.load false 1 (CX.t 38)), none⟩, (DK.quiet [0])⟩,
             ⟨1, ⟨(some 34), (COp.move (CX.t 7)), none⟩, (DK.quiet [0])⟩,
             ⟨2, ⟨(some 35), (COp.indexAddr 1 (CX.t 34) (CX.c (CVal.int (Go.IntKind.i64) 0))), none⟩, (DK.quiet [0])⟩,
             ⟨3, ⟨(some 36), (COp.load false 1 (CX.t 35)), none⟩, (DK.quiet [0])⟩,
             ⟨10, ⟨(some 43), (COp.build [CVal.int (Go.IntKind.i64) 0, CVal.int (Go.IntKind.i64) 0, CVal.int (Go.IntKind.i64) 0] [(0, 1, CX.t 36), (1, 1, CX.t 39), (2, 1, CX.t 42)]), none⟩, (DK.quiet [0])⟩,
             ⟨0, ⟨(some 33), (COp.move (CX.t 0)), none⟩, (DK.quiet [0])⟩,
             ⟨11, ⟨(some 44), (COp.nilCheck (CX.t 33)), none⟩, (DK.quiet [0])⟩,
             ⟨12, ⟨(some 45), (COp.fieldAddr 1 (CX.t 44)), none⟩, (DK.quiet [0])⟩,
             ⟨13, ⟨none, (COp.store 3 (CX.t 45) (CX.t 43)), none⟩, (DK.eff)⟩] 0)
           (.seq (.region [⟨(some 46), (COp.move (CX.t 2)), none⟩,
              ⟨(some 47), (COp.move (CX.t 7)), none⟩,
              ⟨(some 48), (COp.call (CX.c (CVal.func 12 [] [])) [CX.c (CVal.str [108, 105, 109, 105, 116, 115]), CX.t 47]), none⟩,
              ⟨(some 49), (COp.bin (Go.BinOp.eql) (CX.t 46) (CX.t 48)), none⟩,
              ⟨(some 6), (COp.move (CX.t 49)), none⟩])
            (.ret))))
         (.seq (.region [⟨(some 51), (COp.bin (Go.BinOp.eql) (CX.t 10) (CX.c (CVal.int (Go.IntKind.i64) 3))), none⟩,
            ⟨(some 50), (COp.move (CX.t 51)), none⟩])
          (.cond (CX.t 50) (.seq (.region [⟨(some 52), (COp.move (CX.t 0)), none⟩,
              ⟨(some 53), (COp.move (CX.t 7)), none⟩,
              ⟨(some 54), (COp.nilCheck (CX.t 52)), none⟩,
              ⟨(some 55), (COp.fieldAddr 4 (CX.t 54)), none⟩,
              ⟨none, (COp.store 1 (CX.t 55) (CX.t 53)), none⟩])
            (.seq (.region [⟨(some 56), (COp.move (CX.t 2)), none⟩,
               ⟨(some 57), (COp.move (CX.t 7)), none⟩,
               ⟨(some 58), (COp.call (CX.c (CVal.func 12 [] [])) [CX.c (CVal.str [105, 110, 112, 117, 116]), CX.t 57]), none⟩,
               ⟨(some 59), (COp.bin (Go.BinOp.eql) (CX.t 56) (CX.t 58)), none⟩,
               ⟨(some 6), (COp.move (CX.t 59)), none⟩])
             (.ret)))
           (.seq (.region [⟨(some 61), (COp.bin (Go.BinOp.eql) (CX.t 10) (CX.c (CVal.int (Go.IntKind.i64) 4))), none⟩,
              ⟨(some 60), (COp.move (CX.t 61)), none⟩])
            (.cond (CX.t 60) (.seq (.region [⟨(some 62), (COp.move (CX.t 0)), none⟩,
                ⟨(some 63), (COp.move (CX.t 7)), none⟩,
                ⟨(some 64), (COp.nilCheck (CX.t 62)), none⟩,
                ⟨(some 65), (COp.fieldAddr 5 (CX.t 64)), none⟩,
                ⟨none, (COp.store 1 (CX.t 65) (CX.t 63)), none⟩])
              (.seq (.region [⟨(some 66), (COp.move (CX.t 2)), none⟩,
                 ⟨(some 67), (COp.move (CX.t 7)), none⟩,
                 ⟨(some 68), (COp.call (CX.c (CVal.func 12 [] [])) [CX.c (CVal.str [112, 105, 99, 107, 115]), CX.t 67]), none⟩,
                 ⟨(some 69), (COp.bin (Go.BinOp.eql) (CX.t 66) (CX.t 68)), none⟩,
                 ⟨(some 6), (COp.move (CX.t 69)), none⟩])
               (.ret)))
             (.skip)))))))))))
   (.seq (.region [⟨(some 6), (COp.move (CX.c (CVal.bool false))), none⟩])
    (.ret))))⟩
theorem ok16 : compFunc prog glb 16 p16 = some c16 := by kernel_rfl
/-- signalbox/signalboxref1.Ints -/
def p17 : List Plan := [⟨[(5, DK.quiet [0]), (4, DK.quiet [0]), (6, DK.quiet [0]), (7, DK.quiet [0]), (1, DK.quiet [0]), (0, DK.quiet [0]), (2, DK.quiet [0]), (3, DK.quiet [0]), (8, DK.quiet [0])], 0, [0, 0, 3, 7, 0, 0, 48, 112, 255]⟩]
def c17 : CFunc := ⟨26, [CRV.tmp 4],
 .seq (.region [⟨(some 4), (COp.move (CX.c (CVal.bool false))), none⟩])
 (.seq (.seq (.region [⟨(some 6), (COp.move (CX.t 0)), none⟩,
     ⟨(some 7), (COp.len (LK.slice) (CX.t 6)), none⟩,
     ⟨(some 8), (COp.move (CX.t 1)), none⟩,
     ⟨(some 9), (COp.len (LK.slice) (CX.t 8)), none⟩,
     ⟨(some 10), (COp.bin (Go.BinOp.neq) (CX.t 7) (CX.t 9)), none⟩])
   (.cond (CX.t 10) (.seq (.region [⟨(some 4), (COp.move (CX.c (CVal.bool false))), none⟩])
     (.ret))
    (.skip)))
  (.seq (.seq (.region [⟨(some 5), (COp.move (CX.c (CVal.int (Go.IntKind.i64) 0))), none⟩])
    (.block 0 (.loop (.seq (.seq (.region [⟨(some 11), (COp.move (CX.t 5)), none⟩,
          ⟨(some 12), (COp.move (CX.t 0)), none⟩,
          ⟨(some 13), (COp.len (LK.slice) (CX.t 12)), none⟩,
          ⟨(some 14), (COp.bin (Go.BinOp.lss) (CX.t 11) (CX.t 13)), none⟩])
        (.cond (CX.t 14) (.skip)
         (.exit 0)))
       (.seq (.block 1 (.seq (.draw [⟨5, ⟨(some 22), (COp.move (CX.t 5)), none⟩, (DK.quiet [0])⟩,
            ⟨4, ⟨(some 21), (COp.move (CX.t 1)), none⟩, (DK.quiet [0])⟩,
            ⟨6, ⟨(some 23), (COp.indexAddr 1 (CX.t 21) (CX.t 22)), none⟩, (DK.quiet [0])⟩,
            ⟨7, ⟨(some 24), (COp.load false 1 (CX.t 23)), none⟩, (DK.quiet [0])⟩,
            ⟨1, ⟨(some 18), (COp.move (CX.t 5)), none⟩, (DK.quiet [0])⟩,
            ⟨0, ⟨(some 17), (COp.move (CX.t 0)), none⟩, (DK.quiet [0])⟩,
            ⟨2, ⟨(some 19), (COp.indexAddr 1 (CX.t 17) (CX.t 18)), none⟩, (DK.quiet [0])⟩,
            ⟨3, ⟨(some 20), (COp.load false 1 (CX.t 19)), none⟩, (DK.quiet [0])⟩,
            ⟨8, ⟨(some 25), (COp.bin (Go.BinOp.neq) (CX.t 20) (CX.t 24)), none⟩, (DK.quiet [0])⟩] 0)
          (.cond (CX.t 25) (.seq (.region [⟨(some 4), (COp.move (CX.c (CVal.bool false))), none⟩])
            (.ret))
           (.skip))))
        (.region [⟨(some 15), (COp.move (CX.t 5)), none⟩,
          ⟨(some 16), (COp.bin (Go.BinOp.add) (CX.t 15) (CX.c (CVal.int (Go.IntKind.i64) 1))), none⟩,
          ⟨(some 5), (COp.move (CX.t 16)), none⟩]))))))
   (.seq (.region [⟨(some 4), (COp.move (CX.c (CVal.bool true))), none⟩])
    (.ret))))⟩
theorem ok17 : compFunc prog glb 17 p17 = some c17 := by kernel_rfl
/-- signalbox/signalboxref31.row -/
def p18 : List Plan := []
def c18 : CFunc := ⟨40, [CRV.tmp 4, CRV.tmp 5],
 .seq (.region [⟨(some 4), (COp.move (CX.c (CVal.nilSlice))), none⟩,
   ⟨(some 5), (COp.move (CX.c (CVal.bool false))), none⟩])
 (.seq (.region [⟨(some 11), (COp.move (CX.t 0)), none⟩,
    ⟨(some 12), (COp.call (CX.c (CVal.func 23 [] [])) [CX.t 11]), none⟩,
    ⟨(some 6), (COp.move (CX.t 12)), none⟩])
  (.seq (.region [⟨(some 13), (COp.buildSlice [CVal.int (Go.IntKind.i64) 0] 0 []), none⟩,
     ⟨(some 7), (COp.move (CX.t 13)), none⟩])
   (.seq (.seq (.region [⟨(some 14), (COp.move (CX.t 6)), none⟩,
       ⟨(some 15), (COp.indexAddr 1 (CX.t 14) (CX.c (CVal.int (Go.IntKind.i64) 0))), none⟩,
       ⟨(some 16), (COp.load false 1 (CX.t 15)), none⟩,
       ⟨(some 17), (COp.move (CX.t 1)), none⟩,
       ⟨(some 18), (COp.bin (Go.BinOp.neq) (CX.t 16) (CX.t 17)), none⟩])
     (.cond (CX.t 18) (.seq (.region [⟨(some 4), (COp.move (CX.c (CVal.nilSlice))), none⟩,
         ⟨(some 5), (COp.move (CX.c (CVal.bool false))), none⟩])
       (.ret))
      (.skip)))
    (.seq (.seq (.region [⟨(some 8), (COp.move (CX.c (CVal.int (Go.IntKind.i64) 1))), none⟩])
      (.block 0 (.loop (.seq (.seq (.region [⟨(some 19), (COp.move (CX.t 8)), none⟩,
            ⟨(some 20), (COp.move (CX.t 6)), none⟩,
            ⟨(some 21), (COp.len (LK.slice) (CX.t 20)), none⟩,
            ⟨(some 22), (COp.bin (Go.BinOp.lss) (CX.t 19) (CX.t 21)), none⟩])
          (.cond (CX.t 22) (.skip)
           (.exit 0)))
         (.seq (.block 1 (.seq (.region [⟨(some 26), (COp.move (CX.t 6)), none⟩,
              ⟨(some 27), (COp.move (CX.t 8)), none⟩,
              ⟨(some 28), (COp.indexAddr 1 (CX.t 26) (CX.t 27)), none⟩,
              ⟨(some 29), (COp.load false 1 (CX.t 28)), none⟩,
              ⟨(some 30), (COp.call (CX.c (CVal.func 24 [] [])) [CX.t 29]), none⟩,
              ⟨(some 25), (COp.move (CX.t 30)), none⟩,
              ⟨(some 31), (COp.extract (CX.t 25) 0), none⟩,
              ⟨(some 32), (COp.extract (CX.t 25) 1), none⟩,
              ⟨(some 9), (COp.move (CX.t 31)), none⟩,
              ⟨(some 10), (COp.move (CX.t 32)), none⟩])
            (.seq (.seq (.region [⟨(some 33), (COp.move (CX.t 10)), none⟩,
                ⟨(some 34), (COp.un (Go.UnOp.not) (CX.t 33)), none⟩])
              (.cond (CX.t 34) (.seq (.region [⟨(some 4), (COp.move (CX.c (CVal.nilSlice))), none⟩,
                  ⟨(some 5), (COp.move (CX.c (CVal.bool false))), none⟩])
                (.ret))
               (.skip)))
             (.region [⟨(some 35), (COp.move (CX.t 7)), none⟩,
               ⟨(some 36), (COp.move (CX.t 9)), none⟩,
               ⟨(some 37), (COp.buildSlice [CVal.int (Go.IntKind.i64) 0] 1 [(0, 1, CX.t 36)]), none⟩,
               ⟨(some 38), (COp.append 1 8 (CX.t 35) (CX.t 37)), none⟩,
               ⟨(some 7), (COp.move (CX.t 38)), none⟩]))))
          (.region [⟨(some 23), (COp.move (CX.t 8)), none⟩,
            ⟨(some 24), (COp.bin (Go.BinOp.add) (CX.t 23) (CX.c (CVal.int (Go.IntKind.i64) 1))), none⟩,
            ⟨(some 8), (COp.move (CX.t 24)), none⟩]))))))
     (.seq (.region [⟨(some 39), (COp.move (CX.t 7)), none⟩,
        ⟨(some 4), (COp.move (CX.t 39)), none⟩,
        ⟨(some 5), (COp.move (CX.c (CVal.bool true))), none⟩])
      (.ret))))))⟩
theorem ok18 : compFunc prog glb 18 p18 = some c18 := by kernel_rfl
/-- strings.Lines$1 -/
def p20 : List Plan := [⟨[(1, DK.quiet [0]), (2, DK.quiet [0]), (0, DK.quiet [0]), (3, DK.quiet [0]), (8, DK.quiet [0]), (5, DK.quiet [0]), (6, DK.quiet [0]), (4, DK.quiet [0]), (7, DK.quiet [0]), (9, DK.eff)], 0, [0, 0, 2, 7, 0, 0, 32, 112, 15, 511]⟩]
def c20 : CFunc := ⟨25, [],
 .block 0 (.loop (.seq (.seq (.region [⟨(some 5), (COp.load false 1 (CX.t 1)), none⟩,
      ⟨(some 6), (COp.len (LK.str) (CX.t 5)), none⟩,
      ⟨(some 7), (COp.bin (Go.BinOp.gtr) (CX.t 6) (CX.c (CVal.int (Go.IntKind.i64) 0))), none⟩])
    (.cond (CX.t 7) (.skip)
     (.exit 0)))
   (.block 1 (.seq (.region [⟨(some 3), (COp.move (CX.c (CVal.str []))), none⟩])
     (.seq (.seq (.region [⟨(some 8), (COp.load false 1 (CX.t 1)), none⟩,
         ⟨(some 9), (COp.call (CX.c (CVal.func 21 [] [])) [CX.t 8, CX.c (CVal.int (Go.IntKind.u8) 10)]), none⟩,
         ⟨(some 4), (COp.move (CX.t 9)), none⟩])
       (.seq (.region [⟨(some 10), (COp.move (CX.t 4)), none⟩,
          ⟨(some 11), (COp.bin (Go.BinOp.geq) (CX.t 10) (CX.c (CVal.int (Go.IntKind.i64) 0))), none⟩])
        (.cond (CX.t 11) (.draw [⟨1, ⟨(some 13), (COp.move (CX.t 4)), none⟩, (DK.quiet [0])⟩,
           ⟨2, ⟨(some 14), (COp.bin (Go.BinOp.add) (CX.t 13) (CX.c (CVal.int (Go.IntKind.i64) 1))), none⟩, (DK.quiet [0])⟩,
           ⟨0, ⟨(some 12), (COp.load false 1 (CX.t 1)), none⟩, (DK.quiet [0])⟩,
           ⟨3, ⟨(some 15), (COp.sliceStr (CX.t 12) none (some (CX.t 14))), none⟩, (DK.quiet [0])⟩,
           ⟨8, ⟨(some 3), (COp.move (CX.t 15)), none⟩, (DK.quiet [0])⟩,
           ⟨5, ⟨(some 17), (COp.move (CX.t 4)), none⟩, (DK.quiet [0])⟩,
           ⟨6, ⟨(some 18), (COp.bin (Go.BinOp.add) (CX.t 17) (CX.c (CVal.int (Go.IntKind.i64) 1))), none⟩, (DK.quiet [0])⟩,
           ⟨4, ⟨(some 16), (COp.load false 1 (CX.t 1)), none⟩, (DK.quiet [0])⟩,
           ⟨7, ⟨(some 19), (COp.sliceStr (CX.t 16) (some (CX.t 18)) none), none⟩, (DK.quiet [0])⟩,
           ⟨9, ⟨none, (COp.store 1 (CX.t 1) (CX.t 19)), none⟩, (DK.eff)⟩] 0)
         (.region [⟨(some 20), (COp.load false 1 (CX.t 1)), none⟩,
           ⟨(some 3), (COp.move (CX.t 20)), none⟩,
           ⟨none, (COp.store 1 (CX.t 1) (CX.c (CVal.str []))), none⟩]))))
      (.seq (.region [⟨(some 21), (COp.move (CX.t 0)), none⟩,
         ⟨(some 22), (COp.move (CX.t 3)), none⟩,
         ⟨(some 23), (COp.call (CX.t 21) [CX.t 22]), none⟩,
         ⟨(some 24), (COp.un (Go.UnOp.not) (CX.t 23)), none⟩])
       (.cond (CX.t 24) (.ret)
        (.skip))))))))⟩
theorem ok20 : compFunc prog glb 20 p20 = some c20 := by kernel_rfl
/-- signalbox/script.numbers[int] -/
def p22 : List Plan := []
def c22 : CFunc := ⟨30, [CRV.tmp 2],
 .seq (.region [⟨(some 2), (COp.move (CX.c (CVal.nilSlice))), none⟩])
 (.seq (.seq (.region [⟨(some 7), (COp.move (CX.t 0)), none⟩,
     ⟨(some 8), (COp.call (CX.c (CVal.func 27 [] [])) [CX.t 7]), none⟩,
     ⟨(some 9), (COp.move (CX.t 0)), none⟩,
     ⟨(some 10), (COp.call (CX.c (CVal.func 27 [] [])) [CX.t 9]), none⟩,
     ⟨(some 11), (COp.len (LK.slice) (CX.t 10)), none⟩,
     ⟨(some 12), (COp.maxmin false (CX.c (CVal.int (Go.IntKind.i64) 1)) [CX.t 11]), none⟩,
     ⟨(some 13), (COp.slice 1 (CX.t 8) (some (CX.t 12)) none none), none⟩,
     ⟨(some 14), (COp.len (LK.slice) (CX.t 13)), none⟩,
     ⟨(some 15), (COp.move (CX.c (CVal.int (Go.IntKind.i64) 0))), none⟩])
   (.block 0 (.loop (.seq (.region [⟨(some 16), (COp.bin (Go.BinOp.lss) (CX.t 15) (CX.t 14)), none⟩])
      (.seq (.cond (CX.t 16) (.skip)
        (.exit 0))
       (.seq (.block 1 (.seq (.region [⟨(some 17), (COp.indexAddr 1 (CX.t 13) (CX.t 15)), none⟩,
            ⟨(some 18), (COp.load false 1 (CX.t 17)), none⟩,
            ⟨(some 4), (COp.move (CX.t 18)), none⟩])
          (.seq (.region [⟨(some 20), (COp.move (CX.t 4)), none⟩,
             ⟨(some 21), (COp.call (CX.c (CVal.func 28 [] [])) [CX.t 20]), none⟩,
             ⟨(some 19), (COp.move (CX.t 21)), none⟩,
             ⟨(some 22), (COp.extract (CX.t 19) 0), none⟩,
             ⟨(some 23), (COp.extract (CX.t 19) 1), none⟩,
             ⟨(some 5), (COp.move (CX.t 22)), none⟩,
             ⟨(some 6), (COp.move (CX.t 23)), none⟩])
           (.region [⟨(some 24), (COp.move (CX.t 2)), none⟩,
             ⟨(some 25), (COp.move (CX.t 5)), none⟩,
             ⟨(some 26), (COp.buildSlice [CVal.int (Go.IntKind.i64) 0] 1 [(0, 1, CX.t 25)]), none⟩,
             ⟨(some 27), (COp.append 1 8 (CX.t 24) (CX.t 26)), none⟩,
             ⟨(some 2), (COp.move (CX.t 27)), none⟩]))))
        (.region [⟨(some 28), (COp.bin (Go.BinOp.add) (CX.t 15) (CX.c (CVal.int (Go.IntKind.i64) 1))), none⟩,
          ⟨(some 15), (COp.move (CX.t 28)), none⟩])))))))
  (.seq (.region [⟨(some 29), (COp.move (CX.t 2)), none⟩,
     ⟨(some 2), (COp.move (CX.t 29)), none⟩])
   (.ret)))⟩
theorem ok22 : compFunc prog glb 22 p22 = some c22 := by kernel_rfl
/-- signalbox/signalboxref1.Words -/
def p23 : List Plan := []
def c23 : CFunc := ⟨33, [CRV.tmp 2],
 .seq (.region [⟨(some 2), (COp.move (CX.c (CVal.nilSlice))), none⟩])
 (.seq (.region [⟨(some 6), (COp.buildSlice [CVal.str []] 0 []), none⟩,
    ⟨(some 3), (COp.move (CX.t 6)), none⟩])
  (.seq (.region [⟨(some 4), (COp.move (CX.c (CVal.int (Go.IntKind.i64) 0))), none⟩])
   (.seq (.seq (.region [⟨(some 5), (COp.move (CX.c (CVal.int (Go.IntKind.i64) 0))), none⟩])
     (.block 0 (.loop (.seq (.seq (.region [⟨(some 7), (COp.move (CX.t 5)), none⟩,
           ⟨(some 8), (COp.move (CX.t 0)), none⟩,
           ⟨(some 9), (COp.len (LK.str) (CX.t 8)), none⟩,
           ⟨(some 10), (COp.bin (Go.BinOp.leq) (CX.t 7) (CX.t 9)), none⟩])
         (.cond (CX.t 10) (.skip)
          (.exit 0)))
        (.seq (.block 1 (.seq (.region [⟨(some 13), (COp.move (CX.t 5)), none⟩,
             ⟨(some 14), (COp.move (CX.t 0)), none⟩,
             ⟨(some 15), (COp.len (LK.str) (CX.t 14)), none⟩,
             ⟨(some 16), (COp.bin (Go.BinOp.eql) (CX.t 13) (CX.t 15)), none⟩,
             ⟨(some 17), (COp.move (CX.t 16)), none⟩,
             ⟨(some 18), (COp.move (CX.t 0)), (some (17, false))⟩,
             ⟨(some 19), (COp.move (CX.t 5)), (some (17, false))⟩,
             ⟨(some 20), (COp.indexStr (CX.t 18) (CX.t 19)), (some (17, false))⟩,
             ⟨(some 21), (COp.bin (Go.BinOp.eql) (CX.t 20) (CX.c (CVal.int (Go.IntKind.u8) 32))), (some (17, false))⟩,
             ⟨(some 22), (COp.pick (CX.t 17) (CX.c (CVal.bool true)) (CX.t 21)), none⟩])
           (.cond (CX.t 22) (.seq (.region [⟨(some 23), (COp.move (CX.t 3)), none⟩,
               ⟨(some 24), (COp.move (CX.t 0)), none⟩,
               ⟨(some 25), (COp.move (CX.t 4)), none⟩,
               ⟨(some 26), (COp.move (CX.t 5)), none⟩,
               ⟨(some 27), (COp.sliceStr (CX.t 24) (some (CX.t 25)) (some (CX.t 26))), none⟩,
               ⟨(some 28), (COp.buildSlice [CVal.str []] 1 [(0, 1, CX.t 27)]), none⟩,
               ⟨(some 29), (COp.append 1 16 (CX.t 23) (CX.t 28)), none⟩,
               ⟨(some 3), (COp.move (CX.t 29)), none⟩])
             (.region [⟨(some 30), (COp.move (CX.t 5)), none⟩,
               ⟨(some 31), (COp.bin (Go.BinOp.add) (CX.t 30) (CX.c (CVal.int (Go.IntKind.i64) 1))), none⟩,
               ⟨(some 4), (COp.move (CX.t 31)), none⟩]))
            (.skip))))
         (.region [⟨(some 11), (COp.move (CX.t 5)), none⟩,
           ⟨(some 12), (COp.bin (Go.BinOp.add) (CX.t 11) (CX.c (CVal.int (Go.IntKind.i64) 1))), none⟩,
           ⟨(some 5), (COp.move (CX.t 12)), none⟩]))))))
    (.seq (.region [⟨(some 32), (COp.move (CX.t 3)), none⟩,
       ⟨(some 2), (COp.move (CX.t 32)), none⟩])
     (.ret)))))⟩
theorem ok23 : compFunc prog glb 23 p23 = some c23 := by kernel_rfl
/-- signalbox/signalboxref1.Num -/
def p24 : List Plan := []
def c24 : CFunc := ⟨74, [CRV.tmp 2, CRV.tmp 3],
 .seq (.region [⟨(some 2), (COp.move (CX.c (CVal.int (Go.IntKind.i64) 0))), none⟩,
   ⟨(some 3), (COp.move (CX.c (CVal.bool false))), none⟩])
 (.seq (.region [⟨(some 8), (COp.move (CX.t 0)), none⟩,
    ⟨(some 4), (COp.move (CX.t 8)), none⟩])
  (.seq (.seq (.region [⟨(some 9), (COp.move (CX.t 0)), none⟩,
      ⟨(some 10), (COp.len (LK.str) (CX.t 9)), none⟩,
      ⟨(some 11), (COp.bin (Go.BinOp.gtr) (CX.t 10) (CX.c (CVal.int (Go.IntKind.i64) 0))), none⟩,
      ⟨(some 12), (COp.move (CX.t 11)), none⟩,
      ⟨(some 13), (COp.move (CX.t 0)), (some (12, true))⟩,
      ⟨(some 14), (COp.indexStr (CX.t 13) (CX.c (CVal.int (Go.IntKind.i64) 0))), (some (12, true))⟩,
      ⟨(some 15), (COp.bin (Go.BinOp.eql) (CX.t 14) (CX.c (CVal.int (Go.IntKind.u8) 45))), (some (12, true))⟩,
      ⟨(some 16), (COp.pick (CX.t 12) (CX.t 15) (CX.c (CVal.bool false))), none⟩])
    (.cond (CX.t 16) (.region [⟨(some 17), (COp.move (CX.t 0)), none⟩,
       ⟨(some 18), (COp.sliceStr (CX.t 17) (some (CX.c (CVal.int (Go.IntKind.i64) 1))) none), none⟩,
       ⟨(some 4), (COp.move (CX.t 18)), none⟩])
     (.skip)))
   (.seq (.seq (.region [⟨(some 19), (COp.move (CX.t 4)), none⟩,
       ⟨(some 20), (COp.len (LK.str) (CX.t 19)), none⟩,
       ⟨(some 21), (COp.bin (Go.BinOp.eql) (CX.t 20) (CX.c (CVal.int (Go.IntKind.i64) 0))), none⟩,
       ⟨(some 22), (COp.move (CX.t 21)), none⟩,
       ⟨(some 23), (COp.move (CX.t 4)), (some (22, false))⟩,
       ⟨(some 24), (COp.len (LK.str) (CX.t 23)), (some (22, false))⟩,
       ⟨(some 25), (COp.bin (Go.BinOp.gtr) (CX.t 24) (CX.c (CVal.int (Go.IntKind.i64) 19))), (some (22, false))⟩,
       ⟨(some 26), (COp.pick (CX.t 22) (CX.c (CVal.bool true)) (CX.t 25)), none⟩,
       ⟨(some 27), (COp.move (CX.t 26)), none⟩,
       ⟨(some 28), (COp.move (CX.t 4)), (some (27, false))⟩,
       ⟨(some 29), (COp.indexStr (CX.t 28) (CX.c (CVal.int (Go.IntKind.i64) 0))), (some (27, false))⟩,
       ⟨(some 30), (COp.bin (Go.BinOp.eql) (CX.t 29) (CX.c (CVal.int (Go.IntKind.u8) 48))), (some (27, false))⟩,
       ⟨(some 31), (COp.move (CX.t 30)), (some (27, false))⟩,
       ⟨(some 32), (COp.move (CX.t 0)), (some (31, true))⟩,
       ⟨(some 33), (COp.bin (Go.BinOp.neq) (CX.t 32) (CX.c (CVal.str [48]))), (some (31, true))⟩,
       ⟨(some 34), (COp.pick (CX.t 31) (CX.t 33) (CX.c (CVal.bool false))), (some (27, false))⟩,
       ⟨(some 35), (COp.pick (CX.t 27) (CX.c (CVal.bool true)) (CX.t 34)), none⟩])
     (.cond (CX.t 35) (.seq (.region [⟨(some 2), (COp.move (CX.c (CVal.int (Go.IntKind.i64) 0))), none⟩,
         ⟨(some 3), (COp.move (CX.c (CVal.bool false))), none⟩])
       (.ret))
      (.skip)))
    (.seq (.region [⟨(some 5), (COp.move (CX.c (CVal.int (Go.IntKind.i64) 0))), none⟩])
     (.seq (.seq (.region [⟨(some 6), (COp.move (CX.c (CVal.int (Go.IntKind.i64) 0))), none⟩])
       (.block 0 (.loop (.seq (.seq (.region [⟨(some 36), (COp.move (CX.t 6)), none⟩,
             ⟨(some 37), (COp.move (CX.t 4)), none⟩,
             ⟨(some 38), (COp.len (LK.str) (CX.t 37)), none⟩,
             ⟨(some 39), (COp.bin (Go.BinOp.lss) (CX.t 36) (CX.t 38)), none⟩])
           (.cond (CX.t 39) (.skip)
            (.exit 0)))
          (.seq (.block 1 (.seq (.region [⟨(some 42), (COp.move (CX.t 4)), none⟩,
               ⟨(some 43), (COp.move (CX.t 6)), none⟩,
               ⟨(some 44), (COp.indexStr (CX.t 42) (CX.t 43)), none⟩,
               ⟨(some 45), (COp.conv (Go.IntKind.i64) (CX.t 44)), none⟩,
               ⟨(some 46), (COp.bin (Go.BinOp.sub) (CX.t 45) (CX.c (CVal.int (Go.IntKind.i64) 48))), none⟩,
               ⟨(some 7), (COp.move (CX.t 46)), none⟩])
             (.seq (.seq (.region [⟨(some 47), (COp.move (CX.t 7)), none⟩,
                 ⟨(some 48), (COp.bin (Go.BinOp.lss) (CX.t 47) (CX.c (CVal.int (Go.IntKind.i64) 0))), none⟩,
                 ⟨(some 49), (COp.move (CX.t 48)), none⟩,
                 ⟨(some 50), (COp.move (CX.t 7)), (some (49, false))⟩,
                 ⟨(some 51), (COp.bin (Go.BinOp.gtr) (CX.t 50) (CX.c (CVal.int (Go.IntKind.i64) 9))), (some (49, false))⟩,
                 ⟨(some 52), (COp.pick (CX.t 49) (CX.c (CVal.bool true)) (CX.t 51)), none⟩,
                 ⟨(some 53), (COp.move (CX.t 52)), none⟩,
                 ⟨(some 54), (COp.move (CX.t 5)), (some (53, false))⟩,
                 ⟨(some 55), (COp.move (CX.t 7)), (some (53, false))⟩,
                 ⟨(some 56), (COp.bin (Go.BinOp.add) (CX.c (CVal.int (Go.IntKind.i64) (-9223372036854775808))) (CX.t 55)), (some (53, false))⟩,
                 ⟨(some 57), (COp.bin (Go.BinOp.quo) (CX.t 56) (CX.c (CVal.int (Go.IntKind.i64) 10))), (some (53, false))⟩,
                 ⟨(some 58), (COp.bin (Go.BinOp.lss) (CX.t 54) (CX.t 57)), (some (53, false))⟩,
                 ⟨(some 59), (COp.pick (CX.t 53) (CX.c (CVal.bool true)) (CX.t 58)), none⟩])
               (.cond (CX.t 59) (.seq (.region [⟨(some 2), (COp.move (CX.c (CVal.int (Go.IntKind.i64) 0))), none⟩,
                   ⟨(some 3), (COp.move (CX.c (CVal.bool false))), none⟩])
                 (.ret))
                (.skip)))
              (.region [⟨(some 60), (COp.move (CX.t 5)), none⟩,
                ⟨(some 61), (COp.bin (Go.BinOp.mul) (CX.c (CVal.int (Go.IntKind.i64) 10)) (CX.t 60)), none⟩,
                ⟨(some 62), (COp.move (CX.t 7)), none⟩,
                ⟨(some 63), (COp.bin (Go.BinOp.sub) (CX.t 61) (CX.t 62)), none⟩,
                ⟨(some 5), (COp.move (CX.t 63)), none⟩]))))
           (.region [⟨(some 40), (COp.move (CX.t 6)), none⟩,
             ⟨(some 41), (COp.bin (Go.BinOp.add) (CX.t 40) (CX.c (CVal.int (Go.IntKind.i64) 1))), none⟩,
             ⟨(some 6), (COp.move (CX.t 41)), none⟩]))))))
      (.seq (.seq (.region [⟨(some 64), (COp.move (CX.t 4)), none⟩,
          ⟨(some 65), (COp.len (LK.str) (CX.t 64)), none⟩,
          ⟨(some 66), (COp.move (CX.t 0)), none⟩,
          ⟨(some 67), (COp.len (LK.str) (CX.t 66)), none⟩,
          ⟨(some 68), (COp.bin (Go.BinOp.lss) (CX.t 65) (CX.t 67)), none⟩])
        (.cond (CX.t 68) (.seq (.region [⟨(some 69), (COp.move (CX.t 5)), none⟩,
            ⟨(some 2), (COp.move (CX.t 69)), none⟩,
            ⟨(some 3), (COp.move (CX.c (CVal.bool true))), none⟩])
          (.ret))
         (.skip)))
       (.seq (.seq (.region [⟨(some 70), (COp.move (CX.t 5)), none⟩,
           ⟨(some 71), (COp.bin (Go.BinOp.eql) (CX.t 70) (CX.c (CVal.int (Go.IntKind.i64) (-9223372036854775808)))), none⟩])
         (.cond (CX.t 71) (.seq (.region [⟨(some 2), (COp.move (CX.c (CVal.int (Go.IntKind.i64) 0))), none⟩,
             ⟨(some 3), (COp.move (CX.c (CVal.bool false))), none⟩])
           (.ret))
          (.skip)))
        (.seq (.region [⟨(some 72), (COp.move (CX.t 5)), none⟩,
           ⟨(some 73), (COp.un (Go.UnOp.neg) (CX.t 72)), none⟩,
           ⟨(some 2), (COp.move (CX.t 73)), none⟩,
           ⟨(some 3), (COp.move (CX.c (CVal.bool true))), none⟩])
         (.ret)))))))))⟩
theorem ok24 : compFunc prog glb 24 p24 = some c24 := by kernel_rfl
/-- internal/stringslite.IndexByte -/
def p26 : List Plan := []
def c26 : CFunc := ⟨8, [CRV.tmp 4],
 .seq (.region [⟨(some 4), (COp.move (CX.c (CVal.int (Go.IntKind.i64) 0))), none⟩])
 (.seq (.region [⟨(some 5), (COp.move (CX.t 0)), none⟩,
    ⟨(some 6), (COp.move (CX.t 1)), none⟩,
    ⟨(some 7), (COp.call (CX.c (CVal.func 30 [] [])) [CX.t 5, CX.t 6]), none⟩,
    ⟨(some 4), (COp.move (CX.t 7)), none⟩])
  (.ret))⟩
theorem ok26 : compFunc prog glb 26 p26 = some c26 := by kernel_rfl
end Go.Proofs.YthdeoeokjmmnbaaDoor.Cm
