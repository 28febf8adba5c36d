/-
  The functions that this seat's laws reach, each as a clean function, and that it is the program's.
-/
import Derived.Test.YtaipbioapbgcnaaDoorCmC
import Derived.Test.YtaipbioapbgcnaaDoorProg
import Derived.KernelRfl
import Derived.Lib.LaidTab
import Derived.Lib.ItoaNum
namespace Go.Proofs.YtaipbioapbgcnaaDoor.Cm
noncomputable abbrev prog := Go.Proofs.Tryd.prog
/-- What the rows list of package variables, as far as the library asks it: the table of the powers of ten, that the two errors are errors; and that a number of the library's own is a number. -/
def facts (w : World) : Prop := Lib.TabIs prog w "internal/strconv.uint64pow10" .u64 Lib.pow10Tab ∧ (∃ t p, w.var? prog "strconv.ErrSyntax" = some #[.iface t p]) ∧ (∃ t p, w.var? prog "strconv.ErrRange" = some #[.iface t p]) ∧ ∃ m, w.cell? ⟨7, 0, none⟩ = some (.int .i64 m)
abbrev glb : Gl := ⟨4, facts⟩
theorem mixed : prog.follows .mixedOrders = true := by kernel_rfl

/-- signalbox/signalboxlaw5.InstrAsks -/
def p3 : List Plan := []
def c3 : CFunc := ⟨40, [CRV.tmp 2],
 .seq (.region [⟨(some 2), (COp.move (CX.c (CVal.bool false))), none⟩])
 (.seq (.region [⟨(some 3), (COp.move (CX.t 0)), none⟩,
    ⟨(some 4), (COp.call (CX.c (CVal.func 7 [] [])) [CX.t 3]), none⟩,
    ⟨(some 5), (COp.move (CX.t 0)), none⟩,
    ⟨(some 6), (COp.call (CX.c (CVal.func 8 [] [])) [CX.t 5]), none⟩,
    ⟨(some 7), (COp.bin (Go.BinOp.neq) (CX.t 6) (CX.c (CVal.str []))), none⟩,
    ⟨(some 8), (COp.eq (TK.bool) false (CX.t 4) (CX.t 7)), none⟩,
    ⟨(some 9), (COp.move (CX.t 8)), none⟩,
    ⟨(some 10), (COp.move (CX.t 0)), (some (9, true))⟩,
    ⟨(some 11), (COp.call (CX.c (CVal.func 9 [] [])) [CX.t 10]), (some (9, true))⟩,
    ⟨(some 12), (COp.move (CX.t 0)), (some (9, true))⟩,
    ⟨(some 13), (COp.call (CX.c (CVal.func 10 [] [])) [CX.t 12]), (some (9, true))⟩,
    ⟨(some 14), (COp.bin (Go.BinOp.eql) (CX.t 11) (CX.t 13)), (some (9, true))⟩,
    ⟨(some 15), (COp.pick (CX.t 9) (CX.t 14) (CX.c (CVal.bool false))), none⟩,
    ⟨(some 16), (COp.move (CX.t 15)), none⟩,
    ⟨(some 17), (COp.move (CX.t 0)), (some (16, true))⟩,
    ⟨(some 18), (COp.call (CX.c (CVal.func 11 [] [])) [CX.t 17]), (some (16, true))⟩,
    ⟨(some 19), (COp.move (CX.t 0)), (some (16, true))⟩,
    ⟨(some 20), (COp.call (CX.c (CVal.func 12 [] [])) [CX.t 19]), (some (16, true))⟩,
    ⟨(some 21), (COp.bin (Go.BinOp.eql) (CX.t 18) (CX.t 20)), (some (16, true))⟩,
    ⟨(some 22), (COp.pick (CX.t 16) (CX.t 21) (CX.c (CVal.bool false))), none⟩,
    ⟨(some 23), (COp.move (CX.t 22)), none⟩,
    ⟨(some 24), (COp.move (CX.t 0)), (some (23, true))⟩,
    ⟨(some 25), (COp.call (CX.c (CVal.func 13 [] [])) [CX.t 24]), (some (23, true))⟩,
    ⟨(some 26), (COp.move (CX.t 0)), (some (23, true))⟩,
    ⟨(some 27), (COp.call (CX.c (CVal.func 14 [] [])) [CX.t 26]), (some (23, true))⟩,
    ⟨(some 28), (COp.bin (Go.BinOp.eql) (CX.t 25) (CX.t 27)), (some (23, true))⟩,
    ⟨(some 29), (COp.pick (CX.t 23) (CX.t 28) (CX.c (CVal.bool false))), none⟩,
    ⟨(some 30), (COp.move (CX.t 29)), none⟩,
    ⟨(some 31), (COp.move (CX.t 0)), (some (30, true))⟩,
    ⟨(some 32), (COp.call (CX.c (CVal.func 15 [] [])) [CX.t 31]), (some (30, true))⟩,
    ⟨(some 33), (COp.move (CX.t 0)), (some (30, true))⟩,
    ⟨(some 34), (COp.call (CX.c (CVal.func 8 [] [])) [CX.t 33]), (some (30, true))⟩,
    ⟨(some 35), (COp.bin (Go.BinOp.eql) (CX.t 32) (CX.t 34)), (some (30, true))⟩,
    ⟨(some 36), (COp.pick (CX.t 30) (CX.t 35) (CX.c (CVal.bool false))), none⟩,
    ⟨(some 37), (COp.move (CX.t 36)), none⟩,
    ⟨(some 38), (COp.call (CX.c (CVal.func 16 [] [])) []), (some (37, true))⟩,
    ⟨(some 39), (COp.pick (CX.t 37) (CX.t 38) (CX.c (CVal.bool false))), none⟩,
    ⟨(some 2), (COp.move (CX.t 39)), none⟩])
  (.ret))⟩
theorem ok3 : compFunc prog glb 3 p3 = some c3 := by kernel_rfl
/-- signalbox/signalboxlaw5.InstrNames -/
def p4 : List Plan := []
def c4 : CFunc := ⟨51, [CRV.tmp 6],
 .seq (.region [⟨(some 6), (COp.move (CX.c (CVal.bool false))), none⟩])
 (.seq (.region [⟨(some 10), (COp.move (CX.t 0)), none⟩,
    ⟨(some 11), (COp.call (CX.c (CVal.func 15 [] [])) [CX.t 10]), none⟩,
    ⟨(some 12), (COp.move (CX.t 1)), none⟩,
    ⟨(some 13), (COp.call (CX.c (CVal.func 15 [] [])) [CX.t 12]), none⟩,
    ⟨(some 7), (COp.move (CX.t 11)), none⟩,
    ⟨(some 8), (COp.move (CX.t 13)), none⟩])
  (.seq (.seq (.region [⟨(some 14), (COp.move (CX.t 7)), none⟩,
      ⟨(some 15), (COp.bin (Go.BinOp.neq) (CX.t 14) (CX.c (CVal.str []))), none⟩,
      ⟨(some 16), (COp.move (CX.t 15)), none⟩,
      ⟨(some 17), (COp.move (CX.t 7)), (some (16, true))⟩,
      ⟨(some 18), (COp.call (CX.c (CVal.func 17 [] [])) [CX.t 17]), (some (16, true))⟩,
      ⟨(some 19), (COp.move (CX.t 0)), (some (16, true))⟩,
      ⟨(some 20), (COp.bin (Go.BinOp.neq) (CX.t 18) (CX.t 19)), (some (16, true))⟩,
      ⟨(some 21), (COp.move (CX.t 20)), (some (16, true))⟩,
      ⟨(some 22), (COp.move (CX.t 7)), (some (21, false))⟩,
      ⟨(some 23), (COp.move (CX.t 8)), (some (21, false))⟩,
      ⟨(some 24), (COp.bin (Go.BinOp.eql) (CX.t 22) (CX.t 23)), (some (21, false))⟩,
      ⟨(some 25), (COp.move (CX.t 24)), (some (21, false))⟩,
      ⟨(some 26), (COp.move (CX.t 0)), (some (25, true))⟩,
      ⟨(some 27), (COp.move (CX.t 1)), (some (25, true))⟩,
      ⟨(some 28), (COp.bin (Go.BinOp.neq) (CX.t 26) (CX.t 27)), (some (25, true))⟩,
      ⟨(some 29), (COp.pick (CX.t 25) (CX.t 28) (CX.c (CVal.bool false))), (some (21, false))⟩,
      ⟨(some 30), (COp.pick (CX.t 21) (CX.c (CVal.bool true)) (CX.t 29)), (some (16, true))⟩,
      ⟨(some 31), (COp.pick (CX.t 16) (CX.t 30) (CX.c (CVal.bool false))), none⟩])
    (.cond (CX.t 31) (.seq (.region [⟨(some 6), (COp.move (CX.c (CVal.bool false))), none⟩])
      (.ret))
     (.skip)))
   (.seq (.region [⟨(some 32), (COp.move (CX.t 2)), none⟩,
      ⟨(some 33), (COp.call (CX.c (CVal.func 17 [] [])) [CX.t 32]), none⟩,
      ⟨(some 9), (COp.move (CX.t 33)), none⟩])
    (.seq (.region [⟨(some 34), (COp.move (CX.t 9)), none⟩,
       ⟨(some 35), (COp.bin (Go.BinOp.eql) (CX.t 34) (CX.c (CVal.int (Go.IntKind.i64) 0))), none⟩,
       ⟨(some 36), (COp.move (CX.t 35)), none⟩,
       ⟨(some 37), (COp.move (CX.t 9)), (some (36, false))⟩,
       ⟨(some 38), (COp.call (CX.c (CVal.func 15 [] [])) [CX.t 37]), (some (36, false))⟩,
       ⟨(some 39), (COp.move (CX.t 2)), (some (36, false))⟩,
       ⟨(some 40), (COp.bin (Go.BinOp.eql) (CX.t 38) (CX.t 39)), (some (36, false))⟩,
       ⟨(some 41), (COp.pick (CX.t 36) (CX.c (CVal.bool true)) (CX.t 40)), none⟩,
       ⟨(some 42), (COp.move (CX.t 41)), none⟩,
       ⟨(some 43), (COp.move (CX.t 9)), (some (42, true))⟩,
       ⟨(some 44), (COp.move (CX.t 2)), (some (42, true))⟩,
       ⟨(some 45), (COp.call (CX.c (CVal.func 18 [] [])) [CX.t 44]), (some (42, true))⟩,
       ⟨(some 46), (COp.bin (Go.BinOp.eql) (CX.t 43) (CX.t 45)), (some (42, true))⟩,
       ⟨(some 47), (COp.pick (CX.t 42) (CX.t 46) (CX.c (CVal.bool false))), none⟩,
       ⟨(some 48), (COp.move (CX.t 47)), none⟩,
       ⟨(some 49), (COp.call (CX.c (CVal.func 16 [] [])) []), (some (48, true))⟩,
       ⟨(some 50), (COp.pick (CX.t 48) (CX.t 49) (CX.c (CVal.bool false))), none⟩,
       ⟨(some 6), (COp.move (CX.t 50)), none⟩])
     (.ret)))))⟩
theorem ok4 : compFunc prog glb 4 p4 = some c4 := by kernel_rfl
/-- signalbox/signalboxlaw5.InstrTexts -/
def p5 : List Plan := []
def c5 : CFunc := ⟨60, [CRV.tmp 6],
 .seq (.region [⟨(some 6), (COp.move (CX.c (CVal.bool false))), none⟩])
 (.seq (.region [⟨(some 12), (COp.move (CX.t 0)), none⟩,
    ⟨(some 13), (COp.move (CX.t 1)), none⟩,
    ⟨(some 14), (COp.move (CX.t 2)), none⟩,
    ⟨(some 15), (COp.build [CVal.int (Go.IntKind.i64) 0, CVal.int (Go.IntKind.i64) 0, CVal.int (Go.IntKind.i64) 0] [(0, 1, CX.t 12), (1, 1, CX.t 13), (2, 1, CX.t 14)]), none⟩,
    ⟨(some 7), (COp.new [CVal.int (Go.IntKind.i64) 0, CVal.int (Go.IntKind.i64) 0, CVal.int (Go.IntKind.i64) 0]), none⟩,
    ⟨none, (COp.store 3 (CX.t 7) (CX.t 15)), none⟩])
  (.seq (.region [⟨(some 16), (COp.load true 3 (CX.t 7)), none⟩,
     ⟨(some 17), (COp.call (CX.c (CVal.func 19 [] [])) [CX.t 16]), none⟩,
     ⟨(some 8), (COp.move (CX.t 17)), none⟩])
   (.seq (.seq (.region [⟨(some 18), (COp.move (CX.t 8)), none⟩,
       ⟨(some 19), (COp.load true 3 (CX.t 7)), none⟩,
       ⟨(some 20), (COp.call (CX.c (CVal.func 20 [] [])) [CX.t 19]), none⟩,
       ⟨(some 21), (COp.bin (Go.BinOp.neq) (CX.t 18) (CX.t 20)), none⟩])
     (.cond (CX.t 21) (.seq (.region [⟨(some 6), (COp.move (CX.c (CVal.bool false))), none⟩])
       (.ret))
      (.skip)))
    (.seq (.region [⟨(some 23), (COp.move (CX.t 8)), none⟩,
       ⟨(some 24), (COp.call (CX.c (CVal.func 21 [] [])) [CX.t 23]), none⟩,
       ⟨(some 22), (COp.move (CX.t 24)), none⟩,
       ⟨(some 25), (COp.extract (CX.t 22) 0), none⟩,
       ⟨(some 26), (COp.extract (CX.t 22) 1), none⟩,
       ⟨(some 9), (COp.new [CVal.int (Go.IntKind.i64) 0, CVal.int (Go.IntKind.i64) 0, CVal.int (Go.IntKind.i64) 0]), none⟩,
       ⟨none, (COp.store 3 (CX.t 9) (CX.t 25)), none⟩,
       ⟨(some 10), (COp.move (CX.t 26)), none⟩])
     (.seq (.seq (.region [⟨(some 27), (COp.move (CX.t 0)), none⟩,
         ⟨(some 28), (COp.call (CX.c (CVal.func 7 [] [])) [CX.t 27]), none⟩,
         ⟨(some 29), (COp.un (Go.UnOp.not) (CX.t 28)), none⟩])
       (.cond (CX.t 29) (.seq (.region [⟨(some 30), (COp.move (CX.t 8)), none⟩,
           ⟨(some 31), (COp.bin (Go.BinOp.eql) (CX.t 30) (CX.c (CVal.str []))), none⟩,
           ⟨(some 32), (COp.move (CX.t 31)), none⟩,
           ⟨(some 33), (COp.move (CX.t 10)), (some (32, true))⟩,
           ⟨(some 34), (COp.un (Go.UnOp.not) (CX.t 33)), (some (32, true))⟩,
           ⟨(some 35), (COp.pick (CX.t 32) (CX.t 34) (CX.c (CVal.bool false))), none⟩,
           ⟨(some 36), (COp.move (CX.t 35)), none⟩,
           ⟨(some 37), (COp.call (CX.c (CVal.func 16 [] [])) []), (some (36, true))⟩,
           ⟨(some 38), (COp.pick (CX.t 36) (CX.t 37) (CX.c (CVal.bool false))), none⟩,
           ⟨(some 6), (COp.move (CX.t 38)), none⟩])
         (.ret))
        (.skip)))
      (.seq (.region [⟨(some 39), (COp.move (CX.t 0)), none⟩,
         ⟨(some 40), (COp.build [CVal.int (Go.IntKind.i64) 0, CVal.int (Go.IntKind.i64) 0, CVal.int (Go.IntKind.i64) 0] [(0, 1, CX.t 39)]), none⟩,
         ⟨(some 11), (COp.new [CVal.int (Go.IntKind.i64) 0, CVal.int (Go.IntKind.i64) 0, CVal.int (Go.IntKind.i64) 0]), none⟩,
         ⟨none, (COp.store 3 (CX.t 11) (CX.t 40)), none⟩])
       (.seq (.seq (.region [⟨(some 41), (COp.move (CX.t 0)), none⟩,
           ⟨(some 42), (COp.call (CX.c (CVal.func 10 [] [])) [CX.t 41]), none⟩,
           ⟨(some 43), (COp.bin (Go.BinOp.gtr) (CX.t 42) (CX.c (CVal.int (Go.IntKind.i64) 0))), none⟩])
         (.cond (CX.t 43) (.region [⟨(some 44), (COp.move (CX.t 1)), none⟩,
            ⟨(some 45), (COp.fieldAddr 1 (CX.t 11)), none⟩,
            ⟨none, (COp.store 1 (CX.t 45) (CX.t 44)), none⟩])
          (.skip)))
        (.seq (.seq (.region [⟨(some 46), (COp.move (CX.t 0)), none⟩,
            ⟨(some 47), (COp.call (CX.c (CVal.func 10 [] [])) [CX.t 46]), none⟩,
            ⟨(some 48), (COp.bin (Go.BinOp.gtr) (CX.t 47) (CX.c (CVal.int (Go.IntKind.i64) 1))), none⟩])
          (.cond (CX.t 48) (.region [⟨(some 49), (COp.move (CX.t 2)), none⟩,
             ⟨(some 50), (COp.fieldAddr 2 (CX.t 11)), none⟩,
             ⟨none, (COp.store 1 (CX.t 50) (CX.t 49)), none⟩])
           (.skip)))
         (.seq (.region [⟨(some 51), (COp.move (CX.t 10)), none⟩,
            ⟨(some 52), (COp.move (CX.t 51)), none⟩,
            ⟨(some 53), (COp.load true 3 (CX.t 9)), (some (52, true))⟩,
            ⟨(some 54), (COp.load true 3 (CX.t 11)), (some (52, true))⟩,
            ⟨(some 55), (COp.eqS [PK.int, PK.int, PK.int] false (CX.t 53) (CX.t 54)), (some (52, true))⟩,
            ⟨(some 56), (COp.pick (CX.t 52) (CX.t 55) (CX.c (CVal.bool false))), none⟩,
            ⟨(some 57), (COp.move (CX.t 56)), none⟩,
            ⟨(some 58), (COp.call (CX.c (CVal.func 16 [] [])) []), (some (57, true))⟩,
            ⟨(some 59), (COp.pick (CX.t 57) (CX.t 58) (CX.c (CVal.bool false))), none⟩,
            ⟨(some 6), (COp.move (CX.t 59)), none⟩])
          (.ret))))))))))⟩
theorem ok5 : compFunc prog glb 5 p5 = some c5 := by kernel_rfl
/-- signalbox/signalboxlaw5.InstrReads -/
def p6 : List Plan := []
def c6 : CFunc := ⟨42, [CRV.tmp 2],
 .seq (.region [⟨(some 2), (COp.move (CX.c (CVal.bool false))), none⟩])
 (.seq (.seq (.region [⟨(some 7), (COp.move (CX.t 0)), none⟩,
     ⟨(some 8), (COp.len (LK.str) (CX.t 7)), none⟩,
     ⟨(some 9), (COp.bin (Go.BinOp.gtr) (CX.t 8) (CX.c (CVal.int (Go.IntKind.i64) 300))), none⟩])
   (.cond (CX.t 9) (.seq (.region [⟨(some 10), (COp.call (CX.c (CVal.func 16 [] [])) []), none⟩,
       ⟨(some 2), (COp.move (CX.t 10)), none⟩])
     (.ret))
    (.skip)))
  (.seq (.region [⟨(some 12), (COp.move (CX.t 0)), none⟩,
     ⟨(some 13), (COp.call (CX.c (CVal.func 21 [] [])) [CX.t 12]), none⟩,
     ⟨(some 11), (COp.move (CX.t 13)), none⟩,
     ⟨(some 14), (COp.extract (CX.t 11) 0), none⟩,
     ⟨(some 15), (COp.extract (CX.t 11) 1), none⟩,
     ⟨(some 3), (COp.new [CVal.int (Go.IntKind.i64) 0, CVal.int (Go.IntKind.i64) 0, CVal.int (Go.IntKind.i64) 0]), none⟩,
     ⟨none, (COp.store 3 (CX.t 3) (CX.t 14)), none⟩,
     ⟨(some 4), (COp.move (CX.t 15)), none⟩])
   (.seq (.region [⟨(some 17), (COp.move (CX.t 0)), none⟩,
      ⟨(some 18), (COp.call (CX.c (CVal.func 22 [] [])) [CX.t 17]), none⟩,
      ⟨(some 16), (COp.move (CX.t 18)), none⟩,
      ⟨(some 19), (COp.extract (CX.t 16) 0), none⟩,
      ⟨(some 20), (COp.extract (CX.t 16) 1), none⟩,
      ⟨(some 5), (COp.new [CVal.int (Go.IntKind.i64) 0, CVal.int (Go.IntKind.i64) 0, CVal.int (Go.IntKind.i64) 0]), none⟩,
      ⟨none, (COp.store 3 (CX.t 5) (CX.t 19)), none⟩,
      ⟨(some 6), (COp.move (CX.t 20)), none⟩])
    (.seq (.region [⟨(some 21), (COp.load true 3 (CX.t 3)), none⟩,
       ⟨(some 22), (COp.load true 3 (CX.t 5)), none⟩,
       ⟨(some 23), (COp.eqS [PK.int, PK.int, PK.int] false (CX.t 21) (CX.t 22)), none⟩,
       ⟨(some 24), (COp.move (CX.t 23)), none⟩,
       ⟨(some 25), (COp.move (CX.t 4)), (some (24, true))⟩,
       ⟨(some 26), (COp.move (CX.t 6)), (some (24, true))⟩,
       ⟨(some 27), (COp.eq (TK.bool) false (CX.t 25) (CX.t 26)), (some (24, true))⟩,
       ⟨(some 28), (COp.pick (CX.t 24) (CX.t 27) (CX.c (CVal.bool false))), none⟩,
       ⟨(some 29), (COp.move (CX.t 28)), none⟩,
       ⟨(some 30), (COp.move (CX.t 4)), (some (29, true))⟩,
       ⟨(some 31), (COp.un (Go.UnOp.not) (CX.t 30)), (some (29, true))⟩,
       ⟨(some 32), (COp.move (CX.t 31)), (some (29, true))⟩,
       ⟨(some 33), (COp.load true 3 (CX.t 3)), (some (32, false))⟩,
       ⟨(some 34), (COp.call (CX.c (CVal.func 19 [] [])) [CX.t 33]), (some (32, false))⟩,
       ⟨(some 35), (COp.move (CX.t 0)), (some (32, false))⟩,
       ⟨(some 36), (COp.bin (Go.BinOp.eql) (CX.t 34) (CX.t 35)), (some (32, false))⟩,
       ⟨(some 37), (COp.pick (CX.t 32) (CX.c (CVal.bool true)) (CX.t 36)), (some (29, true))⟩,
       ⟨(some 38), (COp.pick (CX.t 29) (CX.t 37) (CX.c (CVal.bool false))), none⟩,
       ⟨(some 39), (COp.move (CX.t 38)), none⟩,
       ⟨(some 40), (COp.call (CX.c (CVal.func 16 [] [])) []), (some (39, true))⟩,
       ⟨(some 41), (COp.pick (CX.t 39) (CX.t 40) (CX.c (CVal.bool false))), none⟩,
       ⟨(some 2), (COp.move (CX.t 41)), none⟩])
     (.ret)))))⟩
theorem ok6 : compFunc prog glb 6 p6 = some c6 := by kernel_rfl
/-- signalbox/instr.Is -/
def p7 : List Plan := []
def c7 : CFunc := ⟨9, [CRV.tmp 2],
 .seq (.region [⟨(some 2), (COp.move (CX.c (CVal.bool false))), none⟩])
 (.seq (.region [⟨(some 3), (COp.move (CX.t 0)), none⟩,
    ⟨(some 4), (COp.bin (Go.BinOp.gtr) (CX.t 3) (CX.c (CVal.int (Go.IntKind.i64) 0))), none⟩,
    ⟨(some 5), (COp.move (CX.t 4)), none⟩,
    ⟨(some 6), (COp.move (CX.t 0)), (some (5, true))⟩,
    ⟨(some 7), (COp.bin (Go.BinOp.lss) (CX.t 6) (CX.c (CVal.int (Go.IntKind.i64) 39))), (some (5, true))⟩,
    ⟨(some 8), (COp.pick (CX.t 5) (CX.t 7) (CX.c (CVal.bool false))), none⟩,
    ⟨(some 2), (COp.move (CX.t 8)), none⟩])
  (.ret))⟩
theorem ok7 : compFunc prog glb 7 p7 = some c7 := by kernel_rfl
/-- signalbox/signalboxref1.Name -/
def p8 : List Plan := []
def c8 : CFunc := ⟨15, [CRV.tmp 2],
 .seq (.region [⟨(some 2), (COp.move (CX.c (CVal.str []))), none⟩])
 (.seq (.region [⟨(some 4), (COp.build [CVal.str [], CVal.str [], CVal.str [], CVal.str [], CVal.str [], CVal.str [], CVal.str [], CVal.str [], CVal.str [], CVal.str [], CVal.str [], CVal.str [], CVal.str [], CVal.str [], CVal.str [], CVal.str [], CVal.str [], CVal.str [], CVal.str [], CVal.str [], CVal.str [], CVal.str [], CVal.str [], CVal.str [], CVal.str [], CVal.str [], CVal.str [], CVal.str [], CVal.str [], CVal.str [], CVal.str [], CVal.str [], CVal.str [], CVal.str [], CVal.str [], CVal.str [], CVal.str [], CVal.str []] [(0, 1, CX.c (CVal.str [110, 111, 112])), (1, 1, CX.c (CVal.str [112, 117, 115, 104])), (2, 1, CX.c (CVal.str [108, 111, 97, 100])), (3, 1, CX.c (CVal.str [115, 116, 111, 114, 101])), (4, 1, CX.c (CVal.str [108, 111, 97, 100, 97, 116])), (5, 1, CX.c (CVal.str [115, 116, 111, 114, 101, 97, 116])), (6, 1, CX.c (CVal.str [108, 111, 99, 97, 108])), (7, 1, CX.c (CVal.str [115, 101, 116, 108, 111, 99, 97, 108])), (8, 1, CX.c (CVal.str [97, 100, 100])), (9, 1, CX.c (CVal.str [115, 117, 98])), (10, 1, CX.c (CVal.str [109, 117, 108])), (11, 1, CX.c (CVal.str [100, 105, 118])), (12, 1, CX.c (CVal.str [109, 111, 100])), (13, 1, CX.c (CVal.str [110, 101, 103])), (14, 1, CX.c (CVal.str [101, 113])), (15, 1, CX.c (CVal.str [110, 101])), (16, 1, CX.c (CVal.str [108, 116])), (17, 1, CX.c (CVal.str [108, 101])), (18, 1, CX.c (CVal.str [103, 116])), (19, 1, CX.c (CVal.str [103, 101])), (20, 1, CX.c (CVal.str [97, 110, 100])), (21, 1, CX.c (CVal.str [111, 114])), (22, 1, CX.c (CVal.str [110, 111, 116])), (23, 1, CX.c (CVal.str [106, 117, 109, 112])), (24, 1, CX.c (CVal.str [106, 117, 109, 112, 122, 101, 114, 111])), (25, 1, CX.c (CVal.str [99, 97, 108, 108])), (26, 1, CX.c (CVal.str [114, 101, 116])), (27, 1, CX.c (CVal.str [102, 111, 114, 107])), (28, 1, CX.c (CVal.str [106, 111, 105, 110])), (29, 1, CX.c (CVal.str [112])), (30, 1, CX.c (CVal.str [118])), (31, 1, CX.c (CVal.str [101, 110, 116, 101, 114])), (32, 1, CX.c (CVal.str [97, 119, 97, 105, 116])), (33, 1, CX.c (CVal.str [108, 101, 97, 118, 101])), (34, 1, CX.c (CVal.str [114, 101, 113, 117, 101, 115, 116])), (35, 1, CX.c (CVal.str [114, 101, 108, 101, 97, 115, 101])), (36, 1, CX.c (CVal.str [114, 101, 97, 100])), (37, 1, CX.c (CVal.str [119, 114, 105, 116, 101]))]), none⟩,
    ⟨(some 3), (COp.new [CVal.str [], CVal.str [], CVal.str [], CVal.str [], CVal.str [], CVal.str [], CVal.str [], CVal.str [], CVal.str [], CVal.str [], CVal.str [], CVal.str [], CVal.str [], CVal.str [], CVal.str [], CVal.str [], CVal.str [], CVal.str [], CVal.str [], CVal.str [], CVal.str [], CVal.str [], CVal.str [], CVal.str [], CVal.str [], CVal.str [], CVal.str [], CVal.str [], CVal.str [], CVal.str [], CVal.str [], CVal.str [], CVal.str [], CVal.str [], CVal.str [], CVal.str [], CVal.str [], CVal.str []]), none⟩,
    ⟨none, (COp.store 38 (CX.t 3) (CX.t 4)), none⟩])
  (.seq (.seq (.region [⟨(some 5), (COp.move (CX.t 0)), none⟩,
      ⟨(some 6), (COp.bin (Go.BinOp.lss) (CX.t 5) (CX.c (CVal.int (Go.IntKind.i64) 1))), none⟩,
      ⟨(some 7), (COp.move (CX.t 6)), none⟩,
      ⟨(some 8), (COp.move (CX.t 0)), (some (7, false))⟩,
      ⟨(some 9), (COp.bin (Go.BinOp.gtr) (CX.t 8) (CX.c (CVal.int (Go.IntKind.i64) 38))), (some (7, false))⟩,
      ⟨(some 10), (COp.pick (CX.t 7) (CX.c (CVal.bool true)) (CX.t 9)), none⟩])
    (.cond (CX.t 10) (.seq (.region [⟨(some 2), (COp.move (CX.c (CVal.str []))), none⟩])
      (.ret))
     (.skip)))
   (.seq (.region [⟨(some 11), (COp.move (CX.t 0)), none⟩,
      ⟨(some 12), (COp.bin (Go.BinOp.sub) (CX.t 11) (CX.c (CVal.int (Go.IntKind.i64) 1))), none⟩,
      ⟨(some 13), (COp.indexAddrArr 38 1 (CX.t 3) (CX.t 12)), none⟩,
      ⟨(some 14), (COp.load false 1 (CX.t 13)), none⟩,
      ⟨(some 2), (COp.move (CX.t 14)), none⟩])
    (.ret))))⟩
theorem ok8 : compFunc prog glb 8 p8 = some c8 := by kernel_rfl
/-- signalbox/instr.Operands -/
def p9 : List Plan := []
def c9 : CFunc := ⟨9, [CRV.tmp 2],
 .seq (.region [⟨(some 2), (COp.move (CX.c (CVal.int (Go.IntKind.i64) 0))), none⟩])
 (.seq (.seq (.region [⟨(some 3), (COp.move (CX.t 0)), none⟩,
     ⟨(some 4), (COp.call (CX.c (CVal.func 7 [] [])) [CX.t 3]), none⟩,
     ⟨(some 5), (COp.un (Go.UnOp.not) (CX.t 4)), none⟩])
   (.cond (CX.t 5) (.seq (.region [⟨(some 2), (COp.move (CX.c (CVal.int (Go.IntKind.i64) 0))), none⟩])
     (.ret))
    (.skip)))
  (.seq (.region [⟨(some 6), (COp.move (CX.t 0)), none⟩,
     ⟨(some 7), (COp.indexAddrArr 39 1 (CX.c (CVal.ptr 0 0)) (CX.t 6)), none⟩,
     ⟨(some 8), (COp.load false 1 (CX.t 7)), none⟩,
     ⟨(some 2), (COp.move (CX.t 8)), none⟩])
   (.ret)))⟩
theorem ok9 : compFunc prog glb 9 p9 = some c9 := by kernel_rfl
/-- signalbox/signalboxref1.Operands -/
def p10 : List Plan := []
def c10 : CFunc := ⟨24, [CRV.tmp 2],
 .seq (.region [⟨(some 2), (COp.move (CX.c (CVal.int (Go.IntKind.i64) 0))), none⟩])
 (.seq (.seq (.region [⟨(some 3), (COp.move (CX.t 0)), none⟩])
   (.block 0 (.seq (.region [⟨(some 5), (COp.bin (Go.BinOp.eql) (CX.t 3) (CX.c (CVal.int (Go.IntKind.i64) 33))), none⟩,
       ⟨(some 4), (COp.move (CX.t 5)), none⟩])
     (.cond (CX.t 4) (.seq (.region [⟨(some 2), (COp.move (CX.c (CVal.int (Go.IntKind.i64) 2))), none⟩])
       (.ret))
      (.seq (.seq (.region [⟨(some 7), (COp.bin (Go.BinOp.eql) (CX.t 3) (CX.c (CVal.int (Go.IntKind.i64) 2))), none⟩,
          ⟨(some 6), (COp.move (CX.t 7)), none⟩])
        (.cond (CX.t 6) (.skip)
         (.seq (.region [⟨(some 8), (COp.bin (Go.BinOp.eql) (CX.t 3) (CX.c (CVal.int (Go.IntKind.i64) 3))), none⟩,
            ⟨(some 6), (COp.move (CX.t 8)), none⟩])
          (.cond (CX.t 6) (.skip)
           (.seq (.region [⟨(some 9), (COp.bin (Go.BinOp.eql) (CX.t 3) (CX.c (CVal.int (Go.IntKind.i64) 4))), none⟩,
              ⟨(some 6), (COp.move (CX.t 9)), none⟩])
            (.cond (CX.t 6) (.skip)
             (.seq (.region [⟨(some 10), (COp.bin (Go.BinOp.eql) (CX.t 3) (CX.c (CVal.int (Go.IntKind.i64) 5))), none⟩,
                ⟨(some 6), (COp.move (CX.t 10)), none⟩])
              (.cond (CX.t 6) (.skip)
               (.seq (.region [⟨(some 11), (COp.bin (Go.BinOp.eql) (CX.t 3) (CX.c (CVal.int (Go.IntKind.i64) 6))), none⟩,
                  ⟨(some 6), (COp.move (CX.t 11)), none⟩])
                (.cond (CX.t 6) (.skip)
                 (.seq (.region [⟨(some 12), (COp.bin (Go.BinOp.eql) (CX.t 3) (CX.c (CVal.int (Go.IntKind.i64) 7))), none⟩,
                    ⟨(some 6), (COp.move (CX.t 12)), none⟩])
                  (.cond (CX.t 6) (.skip)
                   (.seq (.region [⟨(some 13), (COp.bin (Go.BinOp.eql) (CX.t 3) (CX.c (CVal.int (Go.IntKind.i64) 8))), none⟩,
                      ⟨(some 6), (COp.move (CX.t 13)), none⟩])
                    (.cond (CX.t 6) (.skip)
                     (.seq (.region [⟨(some 14), (COp.bin (Go.BinOp.eql) (CX.t 3) (CX.c (CVal.int (Go.IntKind.i64) 24))), none⟩,
                        ⟨(some 6), (COp.move (CX.t 14)), none⟩])
                      (.cond (CX.t 6) (.skip)
                       (.seq (.region [⟨(some 15), (COp.bin (Go.BinOp.eql) (CX.t 3) (CX.c (CVal.int (Go.IntKind.i64) 25))), none⟩,
                          ⟨(some 6), (COp.move (CX.t 15)), none⟩])
                        (.cond (CX.t 6) (.skip)
                         (.seq (.region [⟨(some 16), (COp.bin (Go.BinOp.eql) (CX.t 3) (CX.c (CVal.int (Go.IntKind.i64) 26))), none⟩,
                            ⟨(some 6), (COp.move (CX.t 16)), none⟩])
                          (.cond (CX.t 6) (.skip)
                           (.seq (.region [⟨(some 17), (COp.bin (Go.BinOp.eql) (CX.t 3) (CX.c (CVal.int (Go.IntKind.i64) 28))), none⟩,
                              ⟨(some 6), (COp.move (CX.t 17)), none⟩])
                            (.cond (CX.t 6) (.skip)
                             (.seq (.region [⟨(some 18), (COp.bin (Go.BinOp.eql) (CX.t 3) (CX.c (CVal.int (Go.IntKind.i64) 30))), none⟩,
                                ⟨(some 6), (COp.move (CX.t 18)), none⟩])
                              (.cond (CX.t 6) (.skip)
                               (.seq (.region [⟨(some 19), (COp.bin (Go.BinOp.eql) (CX.t 3) (CX.c (CVal.int (Go.IntKind.i64) 31))), none⟩,
                                  ⟨(some 6), (COp.move (CX.t 19)), none⟩])
                                (.cond (CX.t 6) (.skip)
                                 (.seq (.region [⟨(some 20), (COp.bin (Go.BinOp.eql) (CX.t 3) (CX.c (CVal.int (Go.IntKind.i64) 32))), none⟩,
                                    ⟨(some 6), (COp.move (CX.t 20)), none⟩])
                                  (.cond (CX.t 6) (.skip)
                                   (.seq (.region [⟨(some 21), (COp.bin (Go.BinOp.eql) (CX.t 3) (CX.c (CVal.int (Go.IntKind.i64) 34))), none⟩,
                                      ⟨(some 6), (COp.move (CX.t 21)), none⟩])
                                    (.cond (CX.t 6) (.skip)
                                     (.seq (.region [⟨(some 22), (COp.bin (Go.BinOp.eql) (CX.t 3) (CX.c (CVal.int (Go.IntKind.i64) 35))), none⟩,
                                        ⟨(some 6), (COp.move (CX.t 22)), none⟩])
                                      (.cond (CX.t 6) (.skip)
                                       (.region [⟨(some 23), (COp.bin (Go.BinOp.eql) (CX.t 3) (CX.c (CVal.int (Go.IntKind.i64) 36))), none⟩,
                                         ⟨(some 6), (COp.move (CX.t 23)), none⟩])))))))))))))))))))))))))))))))))
       (.cond (CX.t 6) (.seq (.region [⟨(some 2), (COp.move (CX.c (CVal.int (Go.IntKind.i64) 1))), none⟩])
         (.ret))
        (.skip)))))))
  (.seq (.region [⟨(some 2), (COp.move (CX.c (CVal.int (Go.IntKind.i64) 0))), none⟩])
   (.ret)))⟩
theorem ok10 : compFunc prog glb 10 p10 = some c10 := by kernel_rfl
/-- signalbox/instr.Pops -/
def p11 : List Plan := []
def c11 : CFunc := ⟨9, [CRV.tmp 2],
 .seq (.region [⟨(some 2), (COp.move (CX.c (CVal.int (Go.IntKind.i64) 0))), none⟩])
 (.seq (.seq (.region [⟨(some 3), (COp.move (CX.t 0)), none⟩,
     ⟨(some 4), (COp.call (CX.c (CVal.func 7 [] [])) [CX.t 3]), none⟩,
     ⟨(some 5), (COp.un (Go.UnOp.not) (CX.t 4)), none⟩])
   (.cond (CX.t 5) (.seq (.region [⟨(some 2), (COp.move (CX.c (CVal.int (Go.IntKind.i64) 0))), none⟩])
     (.ret))
    (.skip)))
  (.seq (.region [⟨(some 6), (COp.move (CX.t 0)), none⟩,
     ⟨(some 7), (COp.indexAddrArr 39 1 (CX.c (CVal.ptr 1 0)) (CX.t 6)), none⟩,
     ⟨(some 8), (COp.load false 1 (CX.t 7)), none⟩,
     ⟨(some 2), (COp.move (CX.t 8)), none⟩])
   (.ret)))⟩
theorem ok11 : compFunc prog glb 11 p11 = some c11 := by kernel_rfl
/-- signalbox/signalboxref1.Pops -/
def p12 : List Plan := []
def c12 : CFunc := ⟨53, [CRV.tmp 2],
 .seq (.region [⟨(some 2), (COp.move (CX.c (CVal.int (Go.IntKind.i64) 0))), none⟩])
 (.seq (.block 0 (.seq (.region [⟨(some 4), (COp.move (CX.t 0)), none⟩,
      ⟨(some 5), (COp.bin (Go.BinOp.eql) (CX.t 4) (CX.c (CVal.int (Go.IntKind.i64) 6))), none⟩,
      ⟨(some 6), (COp.move (CX.t 5)), none⟩,
      ⟨(some 7), (COp.move (CX.t 0)), (some (6, false))⟩,
      ⟨(some 8), (COp.bin (Go.BinOp.geq) (CX.t 7) (CX.c (CVal.int (Go.IntKind.i64) 9))), (some (6, false))⟩,
      ⟨(some 9), (COp.move (CX.t 8)), (some (6, false))⟩,
      ⟨(some 10), (COp.move (CX.t 0)), (some (9, true))⟩,
      ⟨(some 11), (COp.bin (Go.BinOp.leq) (CX.t 10) (CX.c (CVal.int (Go.IntKind.i64) 13))), (some (9, true))⟩,
      ⟨(some 12), (COp.pick (CX.t 9) (CX.t 11) (CX.c (CVal.bool false))), (some (6, false))⟩,
      ⟨(some 13), (COp.pick (CX.t 6) (CX.c (CVal.bool true)) (CX.t 12)), none⟩,
      ⟨(some 14), (COp.move (CX.t 13)), none⟩,
      ⟨(some 15), (COp.move (CX.t 0)), (some (14, false))⟩,
      ⟨(some 16), (COp.bin (Go.BinOp.geq) (CX.t 15) (CX.c (CVal.int (Go.IntKind.i64) 15))), (some (14, false))⟩,
      ⟨(some 17), (COp.move (CX.t 16)), (some (14, false))⟩,
      ⟨(some 18), (COp.move (CX.t 0)), (some (17, true))⟩,
      ⟨(some 19), (COp.bin (Go.BinOp.leq) (CX.t 18) (CX.c (CVal.int (Go.IntKind.i64) 22))), (some (17, true))⟩,
      ⟨(some 20), (COp.pick (CX.t 17) (CX.t 19) (CX.c (CVal.bool false))), (some (14, false))⟩,
      ⟨(some 21), (COp.pick (CX.t 14) (CX.c (CVal.bool true)) (CX.t 20)), none⟩,
      ⟨(some 3), (COp.move (CX.t 21)), none⟩])
    (.cond (CX.t 3) (.seq (.region [⟨(some 2), (COp.move (CX.c (CVal.int (Go.IntKind.i64) 2))), none⟩])
      (.ret))
     (.seq (.region [⟨(some 23), (COp.move (CX.t 0)), none⟩,
        ⟨(some 24), (COp.bin (Go.BinOp.eql) (CX.t 23) (CX.c (CVal.int (Go.IntKind.i64) 4))), none⟩,
        ⟨(some 25), (COp.move (CX.t 24)), none⟩,
        ⟨(some 26), (COp.move (CX.t 0)), (some (25, false))⟩,
        ⟨(some 27), (COp.bin (Go.BinOp.eql) (CX.t 26) (CX.c (CVal.int (Go.IntKind.i64) 8))), (some (25, false))⟩,
        ⟨(some 28), (COp.pick (CX.t 25) (CX.c (CVal.bool true)) (CX.t 27)), none⟩,
        ⟨(some 29), (COp.move (CX.t 28)), none⟩,
        ⟨(some 30), (COp.move (CX.t 0)), (some (29, false))⟩,
        ⟨(some 31), (COp.bin (Go.BinOp.eql) (CX.t 30) (CX.c (CVal.int (Go.IntKind.i64) 5))), (some (29, false))⟩,
        ⟨(some 32), (COp.pick (CX.t 29) (CX.c (CVal.bool true)) (CX.t 31)), none⟩,
        ⟨(some 33), (COp.move (CX.t 32)), none⟩,
        ⟨(some 34), (COp.move (CX.t 0)), (some (33, false))⟩,
        ⟨(some 35), (COp.bin (Go.BinOp.eql) (CX.t 34) (CX.c (CVal.int (Go.IntKind.i64) 14))), (some (33, false))⟩,
        ⟨(some 36), (COp.pick (CX.t 33) (CX.c (CVal.bool true)) (CX.t 35)), none⟩,
        ⟨(some 37), (COp.move (CX.t 36)), none⟩,
        ⟨(some 38), (COp.move (CX.t 0)), (some (37, false))⟩,
        ⟨(some 39), (COp.bin (Go.BinOp.eql) (CX.t 38) (CX.c (CVal.int (Go.IntKind.i64) 23))), (some (37, false))⟩,
        ⟨(some 40), (COp.pick (CX.t 37) (CX.c (CVal.bool true)) (CX.t 39)), none⟩,
        ⟨(some 41), (COp.move (CX.t 40)), none⟩,
        ⟨(some 42), (COp.move (CX.t 0)), (some (41, false))⟩,
        ⟨(some 43), (COp.bin (Go.BinOp.eql) (CX.t 42) (CX.c (CVal.int (Go.IntKind.i64) 25))), (some (41, false))⟩,
        ⟨(some 44), (COp.pick (CX.t 41) (CX.c (CVal.bool true)) (CX.t 43)), none⟩,
        ⟨(some 45), (COp.move (CX.t 44)), none⟩,
        ⟨(some 46), (COp.move (CX.t 0)), (some (45, false))⟩,
        ⟨(some 47), (COp.bin (Go.BinOp.eql) (CX.t 46) (CX.c (CVal.int (Go.IntKind.i64) 33))), (some (45, false))⟩,
        ⟨(some 48), (COp.pick (CX.t 45) (CX.c (CVal.bool true)) (CX.t 47)), none⟩,
        ⟨(some 49), (COp.move (CX.t 48)), none⟩,
        ⟨(some 50), (COp.move (CX.t 0)), (some (49, false))⟩,
        ⟨(some 51), (COp.bin (Go.BinOp.eql) (CX.t 50) (CX.c (CVal.int (Go.IntKind.i64) 38))), (some (49, false))⟩,
        ⟨(some 52), (COp.pick (CX.t 49) (CX.c (CVal.bool true)) (CX.t 51)), none⟩,
        ⟨(some 22), (COp.move (CX.t 52)), none⟩])
      (.cond (CX.t 22) (.seq (.region [⟨(some 2), (COp.move (CX.c (CVal.int (Go.IntKind.i64) 1))), none⟩])
        (.ret))
       (.skip))))))
  (.seq (.region [⟨(some 2), (COp.move (CX.c (CVal.int (Go.IntKind.i64) 0))), none⟩])
   (.ret)))⟩
theorem ok12 : compFunc prog glb 12 p12 = some c12 := by kernel_rfl
/-- signalbox/instr.Pushes -/
def p13 : List Plan := []
def c13 : CFunc := ⟨9, [CRV.tmp 2],
 .seq (.region [⟨(some 2), (COp.move (CX.c (CVal.int (Go.IntKind.i64) 0))), none⟩])
 (.seq (.seq (.region [⟨(some 3), (COp.move (CX.t 0)), none⟩,
     ⟨(some 4), (COp.call (CX.c (CVal.func 7 [] [])) [CX.t 3]), none⟩,
     ⟨(some 5), (COp.un (Go.UnOp.not) (CX.t 4)), none⟩])
   (.cond (CX.t 5) (.seq (.region [⟨(some 2), (COp.move (CX.c (CVal.int (Go.IntKind.i64) 0))), none⟩])
     (.ret))
    (.skip)))
  (.seq (.region [⟨(some 6), (COp.move (CX.t 0)), none⟩,
     ⟨(some 7), (COp.indexAddrArr 39 1 (CX.c (CVal.ptr 2 0)) (CX.t 6)), none⟩,
     ⟨(some 8), (COp.load false 1 (CX.t 7)), none⟩,
     ⟨(some 2), (COp.move (CX.t 8)), none⟩])
   (.ret)))⟩
theorem ok13 : compFunc prog glb 13 p13 = some c13 := by kernel_rfl
/-- signalbox/signalboxref1.Pushes -/
def p14 : List Plan := []
def c14 : CFunc := ⟨29, [CRV.tmp 2],
 .seq (.region [⟨(some 2), (COp.move (CX.c (CVal.int (Go.IntKind.i64) 0))), none⟩])
 (.seq (.seq (.region [⟨(some 3), (COp.move (CX.t 0)), none⟩,
     ⟨(some 4), (COp.bin (Go.BinOp.eql) (CX.t 3) (CX.c (CVal.int (Go.IntKind.i64) 2))), none⟩,
     ⟨(some 5), (COp.move (CX.t 4)), none⟩,
     ⟨(some 6), (COp.move (CX.t 0)), (some (5, false))⟩,
     ⟨(some 7), (COp.bin (Go.BinOp.eql) (CX.t 6) (CX.c (CVal.int (Go.IntKind.i64) 3))), (some (5, false))⟩,
     ⟨(some 8), (COp.pick (CX.t 5) (CX.c (CVal.bool true)) (CX.t 7)), none⟩,
     ⟨(some 9), (COp.move (CX.t 8)), none⟩,
     ⟨(some 10), (COp.move (CX.t 0)), (some (9, false))⟩,
     ⟨(some 11), (COp.bin (Go.BinOp.eql) (CX.t 10) (CX.c (CVal.int (Go.IntKind.i64) 7))), (some (9, false))⟩,
     ⟨(some 12), (COp.pick (CX.t 9) (CX.c (CVal.bool true)) (CX.t 11)), none⟩,
     ⟨(some 13), (COp.move (CX.t 12)), none⟩,
     ⟨(some 14), (COp.move (CX.t 0)), (some (13, false))⟩,
     ⟨(some 15), (COp.bin (Go.BinOp.eql) (CX.t 14) (CX.c (CVal.int (Go.IntKind.i64) 5))), (some (13, false))⟩,
     ⟨(some 16), (COp.pick (CX.t 13) (CX.c (CVal.bool true)) (CX.t 15)), none⟩,
     ⟨(some 17), (COp.move (CX.t 16)), none⟩,
     ⟨(some 18), (COp.move (CX.t 0)), (some (17, false))⟩,
     ⟨(some 19), (COp.bin (Go.BinOp.geq) (CX.t 18) (CX.c (CVal.int (Go.IntKind.i64) 9))), (some (17, false))⟩,
     ⟨(some 20), (COp.move (CX.t 19)), (some (17, false))⟩,
     ⟨(some 21), (COp.move (CX.t 0)), (some (20, true))⟩,
     ⟨(some 22), (COp.bin (Go.BinOp.leq) (CX.t 21) (CX.c (CVal.int (Go.IntKind.i64) 23))), (some (20, true))⟩,
     ⟨(some 23), (COp.pick (CX.t 20) (CX.t 22) (CX.c (CVal.bool false))), (some (17, false))⟩,
     ⟨(some 24), (COp.pick (CX.t 17) (CX.c (CVal.bool true)) (CX.t 23)), none⟩,
     ⟨(some 25), (COp.move (CX.t 24)), none⟩,
     ⟨(some 26), (COp.move (CX.t 0)), (some (25, false))⟩,
     ⟨(some 27), (COp.bin (Go.BinOp.eql) (CX.t 26) (CX.c (CVal.int (Go.IntKind.i64) 37))), (some (25, false))⟩,
     ⟨(some 28), (COp.pick (CX.t 25) (CX.c (CVal.bool true)) (CX.t 27)), none⟩])
   (.cond (CX.t 28) (.seq (.region [⟨(some 2), (COp.move (CX.c (CVal.int (Go.IntKind.i64) 1))), none⟩])
     (.ret))
    (.skip)))
  (.seq (.region [⟨(some 2), (COp.move (CX.c (CVal.int (Go.IntKind.i64) 0))), none⟩])
   (.ret)))⟩
theorem ok14 : compFunc prog glb 14 p14 = some c14 := by kernel_rfl
/-- signalbox/instr.Name -/
def p15 : List Plan := []
def c15 : CFunc := ⟨9, [CRV.tmp 2],
 .seq (.region [⟨(some 2), (COp.move (CX.c (CVal.str []))), none⟩])
 (.seq (.seq (.region [⟨(some 3), (COp.move (CX.t 0)), none⟩,
     ⟨(some 4), (COp.call (CX.c (CVal.func 7 [] [])) [CX.t 3]), none⟩,
     ⟨(some 5), (COp.un (Go.UnOp.not) (CX.t 4)), none⟩])
   (.cond (CX.t 5) (.seq (.region [⟨(some 2), (COp.move (CX.c (CVal.str []))), none⟩])
     (.ret))
    (.skip)))
  (.seq (.region [⟨(some 6), (COp.move (CX.t 0)), none⟩,
     ⟨(some 7), (COp.indexAddrArr 39 1 (CX.c (CVal.ptr 3 0)) (CX.t 6)), none⟩,
     ⟨(some 8), (COp.load false 1 (CX.t 7)), none⟩,
     ⟨(some 2), (COp.move (CX.t 8)), none⟩])
   (.ret)))⟩
theorem ok15 : compFunc prog glb 15 p15 = some c15 := by kernel_rfl
/-- signalbox/signalboxlaw5.awake -/
def p16 : List Plan := []
def c16 : CFunc := ⟨59, [CRV.tmp 0],
 .seq (.region [⟨(some 0), (COp.move (CX.c (CVal.bool false))), none⟩])
 (.seq (.region [⟨(some 6), (COp.call (CX.c (CVal.func 21 [] [])) [CX.c (CVal.str [97, 119, 97, 105, 116, 32, 49, 32, 55])]), none⟩,
    ⟨(some 5), (COp.move (CX.t 6)), none⟩,
    ⟨(some 7), (COp.extract (CX.t 5) 0), none⟩,
    ⟨(some 8), (COp.extract (CX.t 5) 1), none⟩,
    ⟨(some 1), (COp.new [CVal.int (Go.IntKind.i64) 0, CVal.int (Go.IntKind.i64) 0, CVal.int (Go.IntKind.i64) 0]), none⟩,
    ⟨none, (COp.store 3 (CX.t 1) (CX.t 7)), none⟩,
    ⟨(some 2), (COp.move (CX.t 8)), none⟩])
  (.seq (.region [⟨(some 10), (COp.call (CX.c (CVal.func 21 [] [])) [CX.c (CVal.str [97, 119, 97, 105, 116, 32, 49])]), none⟩,
     ⟨(some 9), (COp.move (CX.t 10)), none⟩,
     ⟨(some 11), (COp.extract (CX.t 9) 0), none⟩,
     ⟨(some 12), (COp.extract (CX.t 9) 1), none⟩,
     ⟨(some 3), (COp.new [CVal.int (Go.IntKind.i64) 0, CVal.int (Go.IntKind.i64) 0, CVal.int (Go.IntKind.i64) 0]), none⟩,
     ⟨none, (COp.store 3 (CX.t 3) (CX.t 11)), none⟩,
     ⟨(some 4), (COp.move (CX.t 12)), none⟩])
   (.seq (.region [⟨(some 13), (COp.call (CX.c (CVal.func 7 [] [])) [CX.c (CVal.int (Go.IntKind.i64) 38)]), none⟩,
      ⟨(some 14), (COp.move (CX.t 13)), none⟩,
      ⟨(some 15), (COp.call (CX.c (CVal.func 7 [] [])) [CX.c (CVal.int (Go.IntKind.i64) 0)]), (some (14, true))⟩,
      ⟨(some 16), (COp.un (Go.UnOp.not) (CX.t 15)), (some (14, true))⟩,
      ⟨(some 17), (COp.pick (CX.t 14) (CX.t 16) (CX.c (CVal.bool false))), none⟩,
      ⟨(some 18), (COp.move (CX.t 17)), none⟩,
      ⟨(some 19), (COp.call (CX.c (CVal.func 9 [] [])) [CX.c (CVal.int (Go.IntKind.i64) 33)]), (some (18, true))⟩,
      ⟨(some 20), (COp.bin (Go.BinOp.eql) (CX.t 19) (CX.c (CVal.int (Go.IntKind.i64) 2))), (some (18, true))⟩,
      ⟨(some 21), (COp.pick (CX.t 18) (CX.t 20) (CX.c (CVal.bool false))), none⟩,
      ⟨(some 22), (COp.move (CX.t 21)), none⟩,
      ⟨(some 23), (COp.call (CX.c (CVal.func 11 [] [])) [CX.c (CVal.int (Go.IntKind.i64) 6)]), (some (22, true))⟩,
      ⟨(some 24), (COp.bin (Go.BinOp.eql) (CX.t 23) (CX.c (CVal.int (Go.IntKind.i64) 2))), (some (22, true))⟩,
      ⟨(some 25), (COp.pick (CX.t 22) (CX.t 24) (CX.c (CVal.bool false))), none⟩,
      ⟨(some 26), (COp.move (CX.t 25)), none⟩,
      ⟨(some 27), (COp.call (CX.c (CVal.func 13 [] [])) [CX.c (CVal.int (Go.IntKind.i64) 37)]), (some (26, true))⟩,
      ⟨(some 28), (COp.bin (Go.BinOp.eql) (CX.t 27) (CX.c (CVal.int (Go.IntKind.i64) 1))), (some (26, true))⟩,
      ⟨(some 29), (COp.pick (CX.t 26) (CX.t 28) (CX.c (CVal.bool false))), none⟩,
      ⟨(some 30), (COp.move (CX.t 29)), none⟩,
      ⟨(some 31), (COp.call (CX.c (CVal.func 15 [] [])) [CX.c (CVal.int (Go.IntKind.i64) 25)]), (some (30, true))⟩,
      ⟨(some 32), (COp.bin (Go.BinOp.eql) (CX.t 31) (CX.c (CVal.str [106, 117, 109, 112, 122, 101, 114, 111]))), (some (30, true))⟩,
      ⟨(some 33), (COp.pick (CX.t 30) (CX.t 32) (CX.c (CVal.bool false))), none⟩,
      ⟨(some 34), (COp.move (CX.t 33)), none⟩,
      ⟨(some 35), (COp.call (CX.c (CVal.func 17 [] [])) [CX.c (CVal.str [109, 111, 100])]), (some (34, true))⟩,
      ⟨(some 36), (COp.bin (Go.BinOp.eql) (CX.t 35) (CX.c (CVal.int (Go.IntKind.i64) 13))), (some (34, true))⟩,
      ⟨(some 37), (COp.pick (CX.t 34) (CX.t 36) (CX.c (CVal.bool false))), none⟩,
      ⟨(some 38), (COp.move (CX.t 37)), none⟩,
      ⟨(some 39), (COp.call (CX.c (CVal.func 17 [] [])) [CX.c (CVal.str [120])]), (some (38, true))⟩,
      ⟨(some 40), (COp.bin (Go.BinOp.eql) (CX.t 39) (CX.c (CVal.int (Go.IntKind.i64) 0))), (some (38, true))⟩,
      ⟨(some 41), (COp.pick (CX.t 38) (CX.t 40) (CX.c (CVal.bool false))), none⟩,
      ⟨(some 42), (COp.move (CX.t 41)), none⟩,
      ⟨(some 43), (COp.move (CX.t 2)), (some (42, true))⟩,
      ⟨(some 44), (COp.pick (CX.t 42) (CX.t 43) (CX.c (CVal.bool false))), none⟩,
      ⟨(some 45), (COp.move (CX.t 44)), none⟩,
      ⟨(some 46), (COp.load true 3 (CX.t 1)), (some (45, true))⟩,
      ⟨(some 47), (COp.build [CVal.int (Go.IntKind.i64) 0, CVal.int (Go.IntKind.i64) 0, CVal.int (Go.IntKind.i64) 0] [(0, 1, CX.c (CVal.int (Go.IntKind.i64) 33)), (1, 1, CX.c (CVal.int (Go.IntKind.i64) 1)), (2, 1, CX.c (CVal.int (Go.IntKind.i64) 7))]), (some (45, true))⟩,
      ⟨(some 48), (COp.eqS [PK.int, PK.int, PK.int] false (CX.t 46) (CX.t 47)), (some (45, true))⟩,
      ⟨(some 49), (COp.pick (CX.t 45) (CX.t 48) (CX.c (CVal.bool false))), none⟩,
      ⟨(some 50), (COp.move (CX.t 49)), none⟩,
      ⟨(some 51), (COp.move (CX.t 4)), (some (50, true))⟩,
      ⟨(some 52), (COp.un (Go.UnOp.not) (CX.t 51)), (some (50, true))⟩,
      ⟨(some 53), (COp.pick (CX.t 50) (CX.t 52) (CX.c (CVal.bool false))), none⟩,
      ⟨(some 54), (COp.move (CX.t 53)), none⟩,
      ⟨(some 55), (COp.build [CVal.int (Go.IntKind.i64) 0, CVal.int (Go.IntKind.i64) 0, CVal.int (Go.IntKind.i64) 0] [(0, 1, CX.c (CVal.int (Go.IntKind.i64) 2)), (1, 1, CX.c (CVal.int (Go.IntKind.i64) (-3))), (2, 1, CX.c (CVal.int (Go.IntKind.i64) 9))]), (some (54, true))⟩,
      ⟨(some 56), (COp.call (CX.c (CVal.func 19 [] [])) [CX.t 55]), (some (54, true))⟩,
      ⟨(some 57), (COp.bin (Go.BinOp.eql) (CX.t 56) (CX.c (CVal.str [112, 117, 115, 104, 32, 45, 51]))), (some (54, true))⟩,
      ⟨(some 58), (COp.pick (CX.t 54) (CX.t 57) (CX.c (CVal.bool false))), none⟩,
      ⟨(some 0), (COp.move (CX.t 58)), none⟩])
    (.ret))))⟩
theorem ok16 : compFunc prog glb 16 p16 = some c16 := by kernel_rfl
/-- signalbox/instr.Op -/
def p17 : List Plan := []
def c17 : CFunc := ⟨6, [CRV.tmp 2],
 .seq (.region [⟨(some 2), (COp.move (CX.c (CVal.int (Go.IntKind.i64) 0))), none⟩])
 (.seq (.region [⟨(some 3), (COp.call (CX.c (CVal.func 23 [] [])) []), none⟩,
    ⟨(some 4), (COp.move (CX.t 0)), none⟩,
    ⟨(some 5), (COp.lookup (KT.one (PK.str)) (CVal.int (Go.IntKind.i64) 0) false (CX.t 3) (CX.t 4)), none⟩,
    ⟨(some 2), (COp.move (CX.t 5)), none⟩])
  (.ret))⟩
theorem ok17 : compFunc prog glb 17 p17 = some c17 := by kernel_rfl
/-- signalbox/signalboxref1.Op -/
def p18 : List Plan := []
def c18 : CFunc := ⟨13, [CRV.tmp 2],
 .seq (.region [⟨(some 2), (COp.move (CX.c (CVal.int (Go.IntKind.i64) 0))), none⟩])
 (.seq (.seq (.region [⟨(some 3), (COp.move (CX.c (CVal.int (Go.IntKind.i64) 1))), none⟩])
   (.block 0 (.loop (.seq (.seq (.region [⟨(some 4), (COp.move (CX.t 3)), none⟩,
         ⟨(some 5), (COp.bin (Go.BinOp.leq) (CX.t 4) (CX.c (CVal.int (Go.IntKind.i64) 38))), none⟩])
       (.cond (CX.t 5) (.skip)
        (.exit 0)))
      (.seq (.block 1 (.seq (.region [⟨(some 8), (COp.move (CX.t 3)), none⟩,
           ⟨(some 9), (COp.call (CX.c (CVal.func 8 [] [])) [CX.t 8]), none⟩,
           ⟨(some 10), (COp.move (CX.t 0)), none⟩,
           ⟨(some 11), (COp.bin (Go.BinOp.eql) (CX.t 9) (CX.t 10)), none⟩])
         (.cond (CX.t 11) (.seq (.region [⟨(some 12), (COp.move (CX.t 3)), none⟩,
             ⟨(some 2), (COp.move (CX.t 12)), none⟩])
           (.ret))
          (.skip))))
       (.region [⟨(some 6), (COp.move (CX.t 3)), none⟩,
         ⟨(some 7), (COp.bin (Go.BinOp.add) (CX.t 6) (CX.c (CVal.int (Go.IntKind.i64) 1))), none⟩,
         ⟨(some 3), (COp.move (CX.t 7)), none⟩]))))))
  (.seq (.region [⟨(some 2), (COp.move (CX.c (CVal.int (Go.IntKind.i64) 0))), none⟩])
   (.ret)))⟩
theorem ok18 : compFunc prog glb 18 p18 = some c18 := by kernel_rfl
/-- signalbox/instr.Text -/
def p19 : List Plan := [⟨[(0, DK.quiet [0]), (1, DK.quiet [0]), (2, DK.eff), (3, DK.quiet [0, 3]), (4, DK.quiet [0, 3]), (5, DK.eff), (6, DK.quiet [0, 3, 6]), (7, DK.quiet [0, 3, 6]), (8, DK.eff), (10, DK.alloc 0), (9, DK.quiet [9]), (11, DK.eff)], 1, [0, 1, 3, 0, 8, 31, 0, 64, 255, 511, 0, 2047]⟩]
def c19 : CFunc := ⟨24, [CRV.tmp 2],
 .seq (.region [⟨(some 1), (COp.box (CX.t 0)), none⟩,
   ⟨(some 2), (COp.move (CX.c (CVal.str []))), none⟩])
 (.seq (.draw [⟨0, ⟨(some 4), (COp.fieldAddr 0 (CX.t 1)), none⟩, (DK.quiet [0])⟩,
    ⟨1, ⟨(some 5), (COp.load false 1 (CX.t 4)), none⟩, (DK.quiet [0])⟩,
    ⟨2, ⟨(some 6), (COp.call (CX.c (CVal.func 15 [] [])) [CX.t 5]), none⟩, (DK.eff)⟩,
    ⟨3, ⟨(some 7), (COp.fieldAddr 1 (CX.t 1)), none⟩, (DK.quiet [0, 3])⟩,
    ⟨4, ⟨(some 8), (COp.load false 1 (CX.t 7)), none⟩, (DK.quiet [0, 3])⟩,
    ⟨5, ⟨(some 9), (COp.call (CX.c (CVal.func 24 [] [])) [CX.t 8]), none⟩, (DK.eff)⟩,
    ⟨6, ⟨(some 10), (COp.fieldAddr 2 (CX.t 1)), none⟩, (DK.quiet [0, 3, 6])⟩,
    ⟨7, ⟨(some 11), (COp.load false 1 (CX.t 10)), none⟩, (DK.quiet [0, 3, 6])⟩,
    ⟨8, ⟨(some 12), (COp.call (CX.c (CVal.func 24 [] [])) [CX.t 11]), none⟩, (DK.eff)⟩,
    ⟨10, ⟨(some 3), (COp.new [CVal.str [], CVal.str [], CVal.str []]), none⟩, (DK.alloc 0)⟩,
    ⟨9, ⟨(some 13), (COp.build [CVal.str [], CVal.str [], CVal.str []] [(0, 1, CX.t 6), (1, 1, CX.t 9), (2, 1, CX.t 12)]), none⟩, (DK.quiet [9])⟩,
    ⟨11, ⟨none, (COp.store 3 (CX.t 3) (CX.t 13)), none⟩, (DK.eff)⟩] 1)
  (.seq (.seq (.region [⟨(some 14), (COp.fieldAddr 0 (CX.t 1)), none⟩,
      ⟨(some 15), (COp.load false 1 (CX.t 14)), none⟩,
      ⟨(some 16), (COp.call (CX.c (CVal.func 7 [] [])) [CX.t 15]), none⟩,
      ⟨(some 17), (COp.un (Go.UnOp.not) (CX.t 16)), none⟩])
    (.cond (CX.t 17) (.seq (.region [⟨(some 2), (COp.move (CX.c (CVal.str []))), none⟩])
      (.ret))
     (.skip)))
   (.seq (.region [⟨(some 18), (COp.fieldAddr 0 (CX.t 1)), none⟩,
      ⟨(some 19), (COp.load false 1 (CX.t 18)), none⟩,
      ⟨(some 20), (COp.call (CX.c (CVal.func 9 [] [])) [CX.t 19]), none⟩,
      ⟨(some 21), (COp.bin (Go.BinOp.add) (CX.c (CVal.int (Go.IntKind.i64) 1)) (CX.t 20)), none⟩,
      ⟨(some 22), (COp.sliceArr 3 1 (CX.t 3) none (some (CX.t 21)) none), none⟩,
      ⟨(some 23), (COp.call (CX.c (CVal.func 25 [] [])) [CX.t 22, CX.c (CVal.str [32])]), none⟩,
      ⟨(some 2), (COp.move (CX.t 23)), none⟩])
    (.ret))))⟩
theorem ok19 : compFunc prog glb 19 p19 = some c19 := by kernel_rfl
/-- signalbox/signalboxref1.Text -/
def p20 : List Plan := []
def c20 : CFunc := ⟨28, [CRV.tmp 2],
 .seq (.region [⟨(some 1), (COp.box (CX.t 0)), none⟩,
   ⟨(some 2), (COp.move (CX.c (CVal.str []))), none⟩])
 (.seq (.region [⟨(some 4), (COp.fieldAddr 0 (CX.t 1)), none⟩,
    ⟨(some 5), (COp.load false 1 (CX.t 4)), none⟩,
    ⟨(some 6), (COp.call (CX.c (CVal.func 8 [] [])) [CX.t 5]), none⟩,
    ⟨(some 3), (COp.move (CX.t 6)), none⟩])
  (.seq (.seq (.region [⟨(some 7), (COp.fieldAddr 0 (CX.t 1)), none⟩,
      ⟨(some 8), (COp.load false 1 (CX.t 7)), none⟩,
      ⟨(some 9), (COp.call (CX.c (CVal.func 10 [] [])) [CX.t 8]), none⟩,
      ⟨(some 10), (COp.bin (Go.BinOp.gtr) (CX.t 9) (CX.c (CVal.int (Go.IntKind.i64) 0))), none⟩])
    (.cond (CX.t 10) (.region [⟨(some 11), (COp.move (CX.t 3)), none⟩,
       ⟨(some 12), (COp.bin (Go.BinOp.add) (CX.t 11) (CX.c (CVal.str [32]))), none⟩,
       ⟨(some 13), (COp.fieldAddr 1 (CX.t 1)), none⟩,
       ⟨(some 14), (COp.load false 1 (CX.t 13)), none⟩,
       ⟨(some 15), (COp.call (CX.c (CVal.func 24 [] [])) [CX.t 14]), none⟩,
       ⟨(some 16), (COp.bin (Go.BinOp.add) (CX.t 12) (CX.t 15)), none⟩,
       ⟨(some 3), (COp.move (CX.t 16)), none⟩])
     (.skip)))
   (.seq (.seq (.region [⟨(some 17), (COp.fieldAddr 0 (CX.t 1)), none⟩,
       ⟨(some 18), (COp.load false 1 (CX.t 17)), none⟩,
       ⟨(some 19), (COp.call (CX.c (CVal.func 10 [] [])) [CX.t 18]), none⟩,
       ⟨(some 20), (COp.bin (Go.BinOp.gtr) (CX.t 19) (CX.c (CVal.int (Go.IntKind.i64) 1))), none⟩])
     (.cond (CX.t 20) (.region [⟨(some 21), (COp.move (CX.t 3)), none⟩,
        ⟨(some 22), (COp.bin (Go.BinOp.add) (CX.t 21) (CX.c (CVal.str [32]))), none⟩,
        ⟨(some 23), (COp.fieldAddr 2 (CX.t 1)), none⟩,
        ⟨(some 24), (COp.load false 1 (CX.t 23)), none⟩,
        ⟨(some 25), (COp.call (CX.c (CVal.func 24 [] [])) [CX.t 24]), none⟩,
        ⟨(some 26), (COp.bin (Go.BinOp.add) (CX.t 22) (CX.t 25)), none⟩,
        ⟨(some 3), (COp.move (CX.t 26)), none⟩])
      (.skip)))
    (.seq (.region [⟨(some 27), (COp.move (CX.t 3)), none⟩,
       ⟨(some 2), (COp.move (CX.t 27)), none⟩])
     (.ret)))))⟩
theorem ok20 : compFunc prog glb 20 p20 = some c20 := by kernel_rfl
/-- signalbox/instr.Read -/
def p21 : List Plan := []
def c21 : CFunc := ⟨58, [CRV.cell 2 true 3, CRV.tmp 3],
 .seq (.region [⟨(some 2), (COp.new [CVal.int (Go.IntKind.i64) 0, CVal.int (Go.IntKind.i64) 0, CVal.int (Go.IntKind.i64) 0]), none⟩,
   ⟨(some 3), (COp.move (CX.c (CVal.bool false))), none⟩])
 (.seq (.region [⟨(some 8), (COp.move (CX.t 0)), none⟩,
    ⟨(some 9), (COp.call (CX.c (CVal.func 26 [] [])) [CX.t 8, CX.c (CVal.str [32])]), none⟩,
    ⟨(some 4), (COp.move (CX.t 9)), none⟩])
  (.seq (.region [⟨(some 10), (COp.move (CX.t 4)), none⟩,
     ⟨(some 11), (COp.indexAddr 1 (CX.t 10) (CX.c (CVal.int (Go.IntKind.i64) 0))), none⟩,
     ⟨(some 12), (COp.load false 1 (CX.t 11)), none⟩,
     ⟨(some 13), (COp.call (CX.c (CVal.func 17 [] [])) [CX.t 12]), none⟩,
     ⟨(some 14), (COp.build [CVal.int (Go.IntKind.i64) 0, CVal.int (Go.IntKind.i64) 0, CVal.int (Go.IntKind.i64) 0] [(0, 1, CX.t 13)]), none⟩,
     ⟨(some 5), (COp.new [CVal.int (Go.IntKind.i64) 0, CVal.int (Go.IntKind.i64) 0, CVal.int (Go.IntKind.i64) 0]), none⟩,
     ⟨none, (COp.store 3 (CX.t 5) (CX.t 14)), none⟩])
   (.seq (.seq (.region [⟨(some 15), (COp.fieldAddr 0 (CX.t 5)), none⟩,
       ⟨(some 16), (COp.load false 1 (CX.t 15)), none⟩,
       ⟨(some 17), (COp.call (CX.c (CVal.func 9 [] [])) [CX.t 16]), none⟩,
       ⟨(some 18), (COp.move (CX.t 4)), none⟩,
       ⟨(some 19), (COp.len (LK.slice) (CX.t 18)), none⟩,
       ⟨(some 20), (COp.bin (Go.BinOp.sub) (CX.t 19) (CX.c (CVal.int (Go.IntKind.i64) 1))), none⟩,
       ⟨(some 21), (COp.bin (Go.BinOp.neq) (CX.t 17) (CX.t 20)), none⟩])
     (.cond (CX.t 21) (.seq (.region [⟨(some 22), (COp.build [CVal.int (Go.IntKind.i64) 0, CVal.int (Go.IntKind.i64) 0, CVal.int (Go.IntKind.i64) 0] []), none⟩,
         ⟨none, (COp.store 3 (CX.t 2) (CX.t 22)), none⟩,
         ⟨(some 3), (COp.move (CX.c (CVal.bool false))), none⟩])
       (.ret))
      (.skip)))
    (.seq (.seq (.region [⟨(some 23), (COp.fieldAddr 1 (CX.t 5)), none⟩,
        ⟨(some 24), (COp.fieldAddr 2 (CX.t 5)), none⟩,
        ⟨(some 25), (COp.build [CVal.nilPtr, CVal.nilPtr] [(0, 1, CX.t 23), (1, 1, CX.t 24)]), none⟩,
        ⟨(some 26), (COp.move (CX.c (CVal.int (Go.IntKind.i64) 0))), none⟩])
      (.block 0 (.loop (.seq (.region [⟨(some 27), (COp.bin (Go.BinOp.lss) (CX.t 26) (CX.c (CVal.int (Go.IntKind.i64) 2))), none⟩])
         (.seq (.cond (CX.t 27) (.skip)
           (.exit 0))
          (.seq (.block 1 (.seq (.region [⟨(some 28), (COp.move (CX.t 26)), none⟩,
               ⟨(some 29), (COp.indexArr 2 false 1 (CX.t 25) (CX.t 26)), none⟩,
               ⟨(some 6), (COp.move (CX.t 28)), none⟩,
               ⟨(some 7), (COp.move (CX.t 29)), none⟩])
             (.seq (.region [⟨(some 30), (COp.move (CX.t 6)), none⟩,
                ⟨(some 31), (COp.move (CX.t 4)), none⟩,
                ⟨(some 32), (COp.len (LK.slice) (CX.t 31)), none⟩,
                ⟨(some 33), (COp.bin (Go.BinOp.sub) (CX.t 32) (CX.c (CVal.int (Go.IntKind.i64) 1))), none⟩,
                ⟨(some 34), (COp.bin (Go.BinOp.lss) (CX.t 30) (CX.t 33)), none⟩])
              (.cond (CX.t 34) (.region [⟨(some 36), (COp.move (CX.t 7)), none⟩,
                 ⟨(some 37), (COp.move (CX.t 4)), none⟩,
                 ⟨(some 38), (COp.move (CX.t 6)), none⟩,
                 ⟨(some 39), (COp.bin (Go.BinOp.add) (CX.c (CVal.int (Go.IntKind.i64) 1)) (CX.t 38)), none⟩,
                 ⟨(some 40), (COp.indexAddr 1 (CX.t 37) (CX.t 39)), none⟩,
                 ⟨(some 41), (COp.load false 1 (CX.t 40)), none⟩,
                 ⟨(some 42), (COp.call (CX.c (CVal.func 27 [] [])) [CX.t 41]), none⟩,
                 ⟨(some 35), (COp.move (CX.t 42)), none⟩,
                 ⟨(some 43), (COp.extract (CX.t 35) 0), none⟩,
                 ⟨(some 44), (COp.extract (CX.t 35) 1), none⟩,
                 ⟨(some 45), (COp.nilCheck (CX.t 36)), none⟩,
                 ⟨none, (COp.store 1 (CX.t 45) (CX.t 43)), none⟩])
               (.skip)))))
           (.region [⟨(some 46), (COp.bin (Go.BinOp.add) (CX.t 26) (CX.c (CVal.int (Go.IntKind.i64) 1))), none⟩,
             ⟨(some 26), (COp.move (CX.t 46)), none⟩])))))))
     (.seq (.seq (.region [⟨(some 47), (COp.fieldAddr 0 (CX.t 5)), none⟩,
         ⟨(some 48), (COp.load false 1 (CX.t 47)), none⟩,
         ⟨(some 49), (COp.bin (Go.BinOp.eql) (CX.t 48) (CX.c (CVal.int (Go.IntKind.i64) 0))), none⟩,
         ⟨(some 50), (COp.move (CX.t 49)), none⟩,
         ⟨(some 51), (COp.load true 3 (CX.t 5)), (some (50, false))⟩,
         ⟨(some 52), (COp.call (CX.c (CVal.func 19 [] [])) [CX.t 51]), (some (50, false))⟩,
         ⟨(some 53), (COp.move (CX.t 0)), (some (50, false))⟩,
         ⟨(some 54), (COp.bin (Go.BinOp.neq) (CX.t 52) (CX.t 53)), (some (50, false))⟩,
         ⟨(some 55), (COp.pick (CX.t 50) (CX.c (CVal.bool true)) (CX.t 54)), none⟩])
       (.cond (CX.t 55) (.seq (.region [⟨(some 56), (COp.build [CVal.int (Go.IntKind.i64) 0, CVal.int (Go.IntKind.i64) 0, CVal.int (Go.IntKind.i64) 0] []), none⟩,
           ⟨none, (COp.store 3 (CX.t 2) (CX.t 56)), none⟩,
           ⟨(some 3), (COp.move (CX.c (CVal.bool false))), none⟩])
         (.ret))
        (.skip)))
      (.seq (.region [⟨(some 57), (COp.load true 3 (CX.t 5)), none⟩,
         ⟨none, (COp.store 3 (CX.t 2) (CX.t 57)), none⟩,
         ⟨(some 3), (COp.move (CX.c (CVal.bool true))), none⟩])
       (.ret)))))))⟩
theorem ok21 : compFunc prog glb 21 p21 = some c21 := by kernel_rfl
/-- signalbox/signalboxref1.ReadInstr -/
def p22 : List Plan := []
def c22 : CFunc := ⟨53, [CRV.cell 2 true 3, CRV.tmp 3],
 .seq (.region [⟨(some 2), (COp.new [CVal.int (Go.IntKind.i64) 0, CVal.int (Go.IntKind.i64) 0, CVal.int (Go.IntKind.i64) 0]), none⟩,
   ⟨(some 3), (COp.move (CX.c (CVal.bool false))), none⟩])
 (.seq (.region [⟨(some 10), (COp.move (CX.t 0)), none⟩,
    ⟨(some 11), (COp.call (CX.c (CVal.func 28 [] [])) [CX.t 10]), none⟩,
    ⟨(some 4), (COp.move (CX.t 11)), none⟩])
  (.seq (.region [⟨(some 12), (COp.move (CX.t 4)), none⟩,
     ⟨(some 13), (COp.indexAddr 1 (CX.t 12) (CX.c (CVal.int (Go.IntKind.i64) 0))), none⟩,
     ⟨(some 14), (COp.load false 1 (CX.t 13)), none⟩,
     ⟨(some 15), (COp.call (CX.c (CVal.func 18 [] [])) [CX.t 14]), none⟩,
     ⟨(some 5), (COp.move (CX.t 15)), none⟩])
   (.seq (.seq (.region [⟨(some 16), (COp.move (CX.t 5)), none⟩,
       ⟨(some 17), (COp.bin (Go.BinOp.eql) (CX.t 16) (CX.c (CVal.int (Go.IntKind.i64) 0))), none⟩,
       ⟨(some 18), (COp.move (CX.t 17)), none⟩,
       ⟨(some 19), (COp.move (CX.t 4)), (some (18, false))⟩,
       ⟨(some 20), (COp.len (LK.slice) (CX.t 19)), (some (18, false))⟩,
       ⟨(some 21), (COp.move (CX.t 5)), (some (18, false))⟩,
       ⟨(some 22), (COp.call (CX.c (CVal.func 10 [] [])) [CX.t 21]), (some (18, false))⟩,
       ⟨(some 23), (COp.bin (Go.BinOp.add) (CX.c (CVal.int (Go.IntKind.i64) 1)) (CX.t 22)), (some (18, false))⟩,
       ⟨(some 24), (COp.bin (Go.BinOp.neq) (CX.t 20) (CX.t 23)), (some (18, false))⟩,
       ⟨(some 25), (COp.pick (CX.t 18) (CX.c (CVal.bool true)) (CX.t 24)), none⟩])
     (.cond (CX.t 25) (.seq (.region [⟨(some 26), (COp.build [CVal.int (Go.IntKind.i64) 0, CVal.int (Go.IntKind.i64) 0, CVal.int (Go.IntKind.i64) 0] []), none⟩,
         ⟨none, (COp.store 3 (CX.t 2) (CX.t 26)), none⟩,
         ⟨(some 3), (COp.move (CX.c (CVal.bool false))), none⟩])
       (.ret))
      (.skip)))
    (.seq (.region [⟨(some 27), (COp.move (CX.t 5)), none⟩,
       ⟨(some 28), (COp.build [CVal.int (Go.IntKind.i64) 0, CVal.int (Go.IntKind.i64) 0, CVal.int (Go.IntKind.i64) 0] [(0, 1, CX.t 27)]), none⟩,
       ⟨(some 6), (COp.new [CVal.int (Go.IntKind.i64) 0, CVal.int (Go.IntKind.i64) 0, CVal.int (Go.IntKind.i64) 0]), none⟩,
       ⟨none, (COp.store 3 (CX.t 6) (CX.t 28)), none⟩])
     (.seq (.seq (.region [⟨(some 7), (COp.move (CX.c (CVal.int (Go.IntKind.i64) 1))), none⟩])
       (.block 0 (.loop (.seq (.seq (.region [⟨(some 29), (COp.move (CX.t 7)), none⟩,
             ⟨(some 30), (COp.move (CX.t 4)), none⟩,
             ⟨(some 31), (COp.len (LK.slice) (CX.t 30)), none⟩,
             ⟨(some 32), (COp.bin (Go.BinOp.lss) (CX.t 29) (CX.t 31)), none⟩])
           (.cond (CX.t 32) (.skip)
            (.exit 0)))
          (.seq (.block 1 (.seq (.region [⟨(some 36), (COp.move (CX.t 4)), none⟩,
               ⟨(some 37), (COp.move (CX.t 7)), none⟩,
               ⟨(some 38), (COp.indexAddr 1 (CX.t 36) (CX.t 37)), none⟩,
               ⟨(some 39), (COp.load false 1 (CX.t 38)), none⟩,
               ⟨(some 40), (COp.call (CX.c (CVal.func 29 [] [])) [CX.t 39]), none⟩,
               ⟨(some 35), (COp.move (CX.t 40)), none⟩,
               ⟨(some 41), (COp.extract (CX.t 35) 0), none⟩,
               ⟨(some 42), (COp.extract (CX.t 35) 1), none⟩,
               ⟨(some 8), (COp.move (CX.t 41)), none⟩,
               ⟨(some 9), (COp.move (CX.t 42)), none⟩])
             (.seq (.seq (.region [⟨(some 43), (COp.move (CX.t 9)), none⟩,
                 ⟨(some 44), (COp.un (Go.UnOp.not) (CX.t 43)), none⟩])
               (.cond (CX.t 44) (.seq (.region [⟨(some 45), (COp.build [CVal.int (Go.IntKind.i64) 0, CVal.int (Go.IntKind.i64) 0, CVal.int (Go.IntKind.i64) 0] []), none⟩,
                   ⟨none, (COp.store 3 (CX.t 2) (CX.t 45)), none⟩,
                   ⟨(some 3), (COp.move (CX.c (CVal.bool false))), none⟩])
                 (.ret))
                (.skip)))
              (.seq (.region [⟨(some 46), (COp.move (CX.t 7)), none⟩,
                 ⟨(some 47), (COp.bin (Go.BinOp.eql) (CX.t 46) (CX.c (CVal.int (Go.IntKind.i64) 1))), none⟩])
               (.cond (CX.t 47) (.region [⟨(some 48), (COp.move (CX.t 8)), none⟩,
                  ⟨(some 49), (COp.fieldAddr 1 (CX.t 6)), none⟩,
                  ⟨none, (COp.store 1 (CX.t 49) (CX.t 48)), none⟩])
                (.region [⟨(some 50), (COp.move (CX.t 8)), none⟩,
                  ⟨(some 51), (COp.fieldAddr 2 (CX.t 6)), none⟩,
                  ⟨none, (COp.store 1 (CX.t 51) (CX.t 50)), none⟩]))))))
           (.region [⟨(some 33), (COp.move (CX.t 7)), none⟩,
             ⟨(some 34), (COp.bin (Go.BinOp.add) (CX.t 33) (CX.c (CVal.int (Go.IntKind.i64) 1))), none⟩,
             ⟨(some 7), (COp.move (CX.t 34)), none⟩]))))))
      (.seq (.region [⟨(some 52), (COp.load true 3 (CX.t 6)), none⟩,
         ⟨none, (COp.store 3 (CX.t 2) (CX.t 52)), none⟩,
         ⟨(some 3), (COp.move (CX.c (CVal.bool true))), none⟩])
       (.ret)))))))⟩
theorem ok22 : compFunc prog glb 22 p22 = some c22 := by kernel_rfl
/-- signalbox/instr.ops -/
def p23 : List Plan := []
def c23 : CFunc := ⟨14, [CRV.tmp 0],
 .seq (.region [⟨(some 0), (COp.move (CX.c (CVal.nilMap))), none⟩])
 (.seq (.region [⟨(some 3), (COp.newMap), none⟩,
    ⟨(some 1), (COp.move (CX.t 3)), none⟩])
  (.seq (.seq (.region [⟨(some 2), (COp.move (CX.c (CVal.int (Go.IntKind.i64) 1))), none⟩])
    (.block 0 (.loop (.seq (.seq (.region [⟨(some 4), (COp.move (CX.t 2)), none⟩,
          ⟨(some 5), (COp.bin (Go.BinOp.lss) (CX.t 4) (CX.c (CVal.int (Go.IntKind.i64) 39))), none⟩])
        (.cond (CX.t 5) (.skip)
         (.exit 0)))
       (.seq (.block 1 (.region [⟨(some 8), (COp.move (CX.t 1)), none⟩,
           ⟨(some 9), (COp.move (CX.t 2)), none⟩,
           ⟨(some 10), (COp.indexAddrArr 39 1 (CX.c (CVal.ptr 3 0)) (CX.t 9)), none⟩,
           ⟨(some 11), (COp.load false 1 (CX.t 10)), none⟩,
           ⟨(some 12), (COp.move (CX.t 2)), none⟩,
           ⟨none, (COp.mapUpdate (KT.one (PK.str)) (CX.t 8) (CX.t 11) (CX.t 12)), none⟩]))
        (.region [⟨(some 6), (COp.move (CX.t 2)), none⟩,
          ⟨(some 7), (COp.bin (Go.BinOp.add) (CX.t 6) (CX.c (CVal.int (Go.IntKind.i64) 1))), none⟩,
          ⟨(some 2), (COp.move (CX.t 7)), none⟩]))))))
   (.seq (.region [⟨(some 13), (COp.move (CX.t 1)), none⟩,
      ⟨(some 0), (COp.move (CX.t 13)), none⟩])
    (.ret))))⟩
theorem ok23 : compFunc prog glb 23 p23 = some c23 := by kernel_rfl
/-- signalbox/signalboxref1.Words -/
def p28 : List Plan := []
def c28 : CFunc := ⟨33, [CRV.tmp 2],
 .seq (.region [⟨(some 2), (COp.move (CX.c (CVal.nilSlice))), none⟩])
 (.seq (.region [⟨(some 6), (COp.buildSlice [CVal.str []] 0 []), none⟩,
    ⟨(some 3), (COp.move (CX.t 6)), none⟩])
  (.seq (.region [⟨(some 4), (COp.move (CX.c (CVal.int (Go.IntKind.i64) 0))), none⟩])
   (.seq (.seq (.region [⟨(some 5), (COp.move (CX.c (CVal.int (Go.IntKind.i64) 0))), none⟩])
     (.block 0 (.loop (.seq (.seq (.region [⟨(some 7), (COp.move (CX.t 5)), none⟩,
           ⟨(some 8), (COp.move (CX.t 0)), none⟩,
           ⟨(some 9), (COp.len (LK.str) (CX.t 8)), none⟩,
           ⟨(some 10), (COp.bin (Go.BinOp.leq) (CX.t 7) (CX.t 9)), none⟩])
         (.cond (CX.t 10) (.skip)
          (.exit 0)))
        (.seq (.block 1 (.seq (.region [⟨(some 13), (COp.move (CX.t 5)), none⟩,
             ⟨(some 14), (COp.move (CX.t 0)), none⟩,
             ⟨(some 15), (COp.len (LK.str) (CX.t 14)), none⟩,
             ⟨(some 16), (COp.bin (Go.BinOp.eql) (CX.t 13) (CX.t 15)), none⟩,
             ⟨(some 17), (COp.move (CX.t 16)), none⟩,
             ⟨(some 18), (COp.move (CX.t 0)), (some (17, false))⟩,
             ⟨(some 19), (COp.move (CX.t 5)), (some (17, false))⟩,
             ⟨(some 20), (COp.indexStr (CX.t 18) (CX.t 19)), (some (17, false))⟩,
             ⟨(some 21), (COp.bin (Go.BinOp.eql) (CX.t 20) (CX.c (CVal.int (Go.IntKind.u8) 32))), (some (17, false))⟩,
             ⟨(some 22), (COp.pick (CX.t 17) (CX.c (CVal.bool true)) (CX.t 21)), none⟩])
           (.cond (CX.t 22) (.seq (.region [⟨(some 23), (COp.move (CX.t 3)), none⟩,
               ⟨(some 24), (COp.move (CX.t 0)), none⟩,
               ⟨(some 25), (COp.move (CX.t 4)), none⟩,
               ⟨(some 26), (COp.move (CX.t 5)), none⟩,
               ⟨(some 27), (COp.sliceStr (CX.t 24) (some (CX.t 25)) (some (CX.t 26))), none⟩,
               ⟨(some 28), (COp.buildSlice [CVal.str []] 1 [(0, 1, CX.t 27)]), none⟩,
               ⟨(some 29), (COp.append 1 16 (CX.t 23) (CX.t 28)), none⟩,
               ⟨(some 3), (COp.move (CX.t 29)), none⟩])
             (.region [⟨(some 30), (COp.move (CX.t 5)), none⟩,
               ⟨(some 31), (COp.bin (Go.BinOp.add) (CX.t 30) (CX.c (CVal.int (Go.IntKind.i64) 1))), none⟩,
               ⟨(some 4), (COp.move (CX.t 31)), none⟩]))
            (.skip))))
         (.region [⟨(some 11), (COp.move (CX.t 5)), none⟩,
           ⟨(some 12), (COp.bin (Go.BinOp.add) (CX.t 11) (CX.c (CVal.int (Go.IntKind.i64) 1))), none⟩,
           ⟨(some 5), (COp.move (CX.t 12)), none⟩]))))))
    (.seq (.region [⟨(some 32), (COp.move (CX.t 3)), none⟩,
       ⟨(some 2), (COp.move (CX.t 32)), none⟩])
     (.ret)))))⟩
theorem ok28 : compFunc prog glb 28 p28 = some c28 := by kernel_rfl
/-- signalbox/signalboxref1.Num -/
def p29 : List Plan := []
def c29 : CFunc := ⟨74, [CRV.tmp 2, CRV.tmp 3],
 .seq (.region [⟨(some 2), (COp.move (CX.c (CVal.int (Go.IntKind.i64) 0))), none⟩,
   ⟨(some 3), (COp.move (CX.c (CVal.bool false))), none⟩])
 (.seq (.region [⟨(some 8), (COp.move (CX.t 0)), none⟩,
    ⟨(some 4), (COp.move (CX.t 8)), none⟩])
  (.seq (.seq (.region [⟨(some 9), (COp.move (CX.t 0)), none⟩,
      ⟨(some 10), (COp.len (LK.str) (CX.t 9)), none⟩,
      ⟨(some 11), (COp.bin (Go.BinOp.gtr) (CX.t 10) (CX.c (CVal.int (Go.IntKind.i64) 0))), none⟩,
      ⟨(some 12), (COp.move (CX.t 11)), none⟩,
      ⟨(some 13), (COp.move (CX.t 0)), (some (12, true))⟩,
      ⟨(some 14), (COp.indexStr (CX.t 13) (CX.c (CVal.int (Go.IntKind.i64) 0))), (some (12, true))⟩,
      ⟨(some 15), (COp.bin (Go.BinOp.eql) (CX.t 14) (CX.c (CVal.int (Go.IntKind.u8) 45))), (some (12, true))⟩,
      ⟨(some 16), (COp.pick (CX.t 12) (CX.t 15) (CX.c (CVal.bool false))), none⟩])
    (.cond (CX.t 16) (.region [⟨(some 17), (COp.move (CX.t 0)), none⟩,
       ⟨(some 18), (COp.sliceStr (CX.t 17) (some (CX.c (CVal.int (Go.IntKind.i64) 1))) none), none⟩,
       ⟨(some 4), (COp.move (CX.t 18)), none⟩])
     (.skip)))
   (.seq (.seq (.region [⟨(some 19), (COp.move (CX.t 4)), none⟩,
       ⟨(some 20), (COp.len (LK.str) (CX.t 19)), none⟩,
       ⟨(some 21), (COp.bin (Go.BinOp.eql) (CX.t 20) (CX.c (CVal.int (Go.IntKind.i64) 0))), none⟩,
       ⟨(some 22), (COp.move (CX.t 21)), none⟩,
       ⟨(some 23), (COp.move (CX.t 4)), (some (22, false))⟩,
       ⟨(some 24), (COp.len (LK.str) (CX.t 23)), (some (22, false))⟩,
       ⟨(some 25), (COp.bin (Go.BinOp.gtr) (CX.t 24) (CX.c (CVal.int (Go.IntKind.i64) 19))), (some (22, false))⟩,
       ⟨(some 26), (COp.pick (CX.t 22) (CX.c (CVal.bool true)) (CX.t 25)), none⟩,
       ⟨(some 27), (COp.move (CX.t 26)), none⟩,
       ⟨(some 28), (COp.move (CX.t 4)), (some (27, false))⟩,
       ⟨(some 29), (COp.indexStr (CX.t 28) (CX.c (CVal.int (Go.IntKind.i64) 0))), (some (27, false))⟩,
       ⟨(some 30), (COp.bin (Go.BinOp.eql) (CX.t 29) (CX.c (CVal.int (Go.IntKind.u8) 48))), (some (27, false))⟩,
       ⟨(some 31), (COp.move (CX.t 30)), (some (27, false))⟩,
       ⟨(some 32), (COp.move (CX.t 0)), (some (31, true))⟩,
       ⟨(some 33), (COp.bin (Go.BinOp.neq) (CX.t 32) (CX.c (CVal.str [48]))), (some (31, true))⟩,
       ⟨(some 34), (COp.pick (CX.t 31) (CX.t 33) (CX.c (CVal.bool false))), (some (27, false))⟩,
       ⟨(some 35), (COp.pick (CX.t 27) (CX.c (CVal.bool true)) (CX.t 34)), none⟩])
     (.cond (CX.t 35) (.seq (.region [⟨(some 2), (COp.move (CX.c (CVal.int (Go.IntKind.i64) 0))), none⟩,
         ⟨(some 3), (COp.move (CX.c (CVal.bool false))), none⟩])
       (.ret))
      (.skip)))
    (.seq (.region [⟨(some 5), (COp.move (CX.c (CVal.int (Go.IntKind.i64) 0))), none⟩])
     (.seq (.seq (.region [⟨(some 6), (COp.move (CX.c (CVal.int (Go.IntKind.i64) 0))), none⟩])
       (.block 0 (.loop (.seq (.seq (.region [⟨(some 36), (COp.move (CX.t 6)), none⟩,
             ⟨(some 37), (COp.move (CX.t 4)), none⟩,
             ⟨(some 38), (COp.len (LK.str) (CX.t 37)), none⟩,
             ⟨(some 39), (COp.bin (Go.BinOp.lss) (CX.t 36) (CX.t 38)), none⟩])
           (.cond (CX.t 39) (.skip)
            (.exit 0)))
          (.seq (.block 1 (.seq (.region [⟨(some 42), (COp.move (CX.t 4)), none⟩,
               ⟨(some 43), (COp.move (CX.t 6)), none⟩,
               ⟨(some 44), (COp.indexStr (CX.t 42) (CX.t 43)), none⟩,
               ⟨(some 45), (COp.conv (Go.IntKind.i64) (CX.t 44)), none⟩,
               ⟨(some 46), (COp.bin (Go.BinOp.sub) (CX.t 45) (CX.c (CVal.int (Go.IntKind.i64) 48))), none⟩,
               ⟨(some 7), (COp.move (CX.t 46)), none⟩])
             (.seq (.seq (.region [⟨(some 47), (COp.move (CX.t 7)), none⟩,
                 ⟨(some 48), (COp.bin (Go.BinOp.lss) (CX.t 47) (CX.c (CVal.int (Go.IntKind.i64) 0))), none⟩,
                 ⟨(some 49), (COp.move (CX.t 48)), none⟩,
                 ⟨(some 50), (COp.move (CX.t 7)), (some (49, false))⟩,
                 ⟨(some 51), (COp.bin (Go.BinOp.gtr) (CX.t 50) (CX.c (CVal.int (Go.IntKind.i64) 9))), (some (49, false))⟩,
                 ⟨(some 52), (COp.pick (CX.t 49) (CX.c (CVal.bool true)) (CX.t 51)), none⟩,
                 ⟨(some 53), (COp.move (CX.t 52)), none⟩,
                 ⟨(some 54), (COp.move (CX.t 5)), (some (53, false))⟩,
                 ⟨(some 55), (COp.move (CX.t 7)), (some (53, false))⟩,
                 ⟨(some 56), (COp.bin (Go.BinOp.add) (CX.c (CVal.int (Go.IntKind.i64) (-9223372036854775808))) (CX.t 55)), (some (53, false))⟩,
                 ⟨(some 57), (COp.bin (Go.BinOp.quo) (CX.t 56) (CX.c (CVal.int (Go.IntKind.i64) 10))), (some (53, false))⟩,
                 ⟨(some 58), (COp.bin (Go.BinOp.lss) (CX.t 54) (CX.t 57)), (some (53, false))⟩,
                 ⟨(some 59), (COp.pick (CX.t 53) (CX.c (CVal.bool true)) (CX.t 58)), none⟩])
               (.cond (CX.t 59) (.seq (.region [⟨(some 2), (COp.move (CX.c (CVal.int (Go.IntKind.i64) 0))), none⟩,
                   ⟨(some 3), (COp.move (CX.c (CVal.bool false))), none⟩])
                 (.ret))
                (.skip)))
              (.region [⟨(some 60), (COp.move (CX.t 5)), none⟩,
                ⟨(some 61), (COp.bin (Go.BinOp.mul) (CX.c (CVal.int (Go.IntKind.i64) 10)) (CX.t 60)), none⟩,
                ⟨(some 62), (COp.move (CX.t 7)), none⟩,
                ⟨(some 63), (COp.bin (Go.BinOp.sub) (CX.t 61) (CX.t 62)), none⟩,
                ⟨(some 5), (COp.move (CX.t 63)), none⟩]))))
           (.region [⟨(some 40), (COp.move (CX.t 6)), none⟩,
             ⟨(some 41), (COp.bin (Go.BinOp.add) (CX.t 40) (CX.c (CVal.int (Go.IntKind.i64) 1))), none⟩,
             ⟨(some 6), (COp.move (CX.t 41)), none⟩]))))))
      (.seq (.seq (.region [⟨(some 64), (COp.move (CX.t 4)), none⟩,
          ⟨(some 65), (COp.len (LK.str) (CX.t 64)), none⟩,
          ⟨(some 66), (COp.move (CX.t 0)), none⟩,
          ⟨(some 67), (COp.len (LK.str) (CX.t 66)), none⟩,
          ⟨(some 68), (COp.bin (Go.BinOp.lss) (CX.t 65) (CX.t 67)), none⟩])
        (.cond (CX.t 68) (.seq (.region [⟨(some 69), (COp.move (CX.t 5)), none⟩,
            ⟨(some 2), (COp.move (CX.t 69)), none⟩,
            ⟨(some 3), (COp.move (CX.c (CVal.bool true))), none⟩])
          (.ret))
         (.skip)))
       (.seq (.seq (.region [⟨(some 70), (COp.move (CX.t 5)), none⟩,
           ⟨(some 71), (COp.bin (Go.BinOp.eql) (CX.t 70) (CX.c (CVal.int (Go.IntKind.i64) (-9223372036854775808)))), none⟩])
         (.cond (CX.t 71) (.seq (.region [⟨(some 2), (COp.move (CX.c (CVal.int (Go.IntKind.i64) 0))), none⟩,
             ⟨(some 3), (COp.move (CX.c (CVal.bool false))), none⟩])
           (.ret))
          (.skip)))
        (.seq (.region [⟨(some 72), (COp.move (CX.t 5)), none⟩,
           ⟨(some 73), (COp.un (Go.UnOp.neg) (CX.t 72)), none⟩,
           ⟨(some 2), (COp.move (CX.t 73)), none⟩,
           ⟨(some 3), (COp.move (CX.c (CVal.bool true))), none⟩])
         (.ret)))))))))⟩
theorem ok29 : compFunc prog glb 29 p29 = some c29 := by kernel_rfl
end Go.Proofs.YtaipbioapbgcnaaDoor.Cm
