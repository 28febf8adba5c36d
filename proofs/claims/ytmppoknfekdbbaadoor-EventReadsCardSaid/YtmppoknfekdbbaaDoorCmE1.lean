/-
  The functions that this seat's laws reach, each as a clean function, and that it is the program's.
-/
import Derived.Test.YtmppoknfekdbbaaDoorCmXS
import Derived.Test.YtmppoknfekdbbaaDoorProg
import Derived.KernelRfl
import Derived.Lib.LaidTab
import Derived.Lib.ItoaNum
namespace Go.Proofs.YtmppoknfekdbbaaDoor.Cm
noncomputable abbrev prog := Go.Proofs.Tryd.prog
/-- What the rows list of package variables, as far as it is used: the table of the powers of ten, and that the two errors are errors. -/
def facts (w : World) : Prop := Lib.TabIs prog w "internal/strconv.uint64pow10" .u64 Lib.pow10Tab ∧ (∃ t p, w.var? prog "strconv.ErrSyntax" = some #[.iface t p]) ∧ ∃ t p, w.var? prog "strconv.ErrRange" = some #[.iface t p]
abbrev glb : Gl := ⟨0, facts⟩
theorem mixed : prog.follows .mixedOrders = true := by kernel_rfl

/-- signalbox/signalboxlaw17.EventTexts -/
def p3 : List Plan := []
def c3 : CFunc := ⟨55, [CRV.tmp 10],
 .seq (.region [⟨(some 10), (COp.move (CX.c (CVal.bool false))), none⟩])
 (.seq (.region [⟨(some 15), (COp.move (CX.t 0)), none⟩,
    ⟨(some 16), (COp.move (CX.t 1)), none⟩,
    ⟨(some 17), (COp.move (CX.t 2)), none⟩,
    ⟨(some 18), (COp.move (CX.t 3)), none⟩,
    ⟨(some 19), (COp.move (CX.t 4)), none⟩,
    ⟨(some 20), (COp.build [CVal.int (Go.IntKind.i64) 0, CVal.int (Go.IntKind.i64) 0, CVal.int (Go.IntKind.i64) 0, CVal.int (Go.IntKind.i64) 0, CVal.int (Go.IntKind.i64) 0] [(0, 1, CX.t 15), (1, 1, CX.t 16), (2, 1, CX.t 17), (3, 1, CX.t 18), (4, 1, CX.t 19)]), none⟩,
    ⟨(some 11), (COp.new [CVal.int (Go.IntKind.i64) 0, CVal.int (Go.IntKind.i64) 0, CVal.int (Go.IntKind.i64) 0, CVal.int (Go.IntKind.i64) 0, CVal.int (Go.IntKind.i64) 0]), none⟩,
    ⟨none, (COp.store 5 (CX.t 11) (CX.t 20)), none⟩])
  (.seq (.region [⟨(some 21), (COp.load true 5 (CX.t 11)), none⟩,
     ⟨(some 22), (COp.call (CX.c (CVal.func 6 [] [])) [CX.t 21]), none⟩,
     ⟨(some 12), (COp.move (CX.t 22)), none⟩])
   (.seq (.seq (.region [⟨(some 23), (COp.move (CX.t 12)), none⟩,
       ⟨(some 24), (COp.load true 5 (CX.t 11)), none⟩,
       ⟨(some 25), (COp.call (CX.c (CVal.func 7 [] [])) [CX.t 24]), none⟩,
       ⟨(some 26), (COp.bin (Go.BinOp.neq) (CX.t 23) (CX.t 25)), none⟩,
       ⟨(some 27), (COp.move (CX.t 26)), none⟩,
       ⟨(some 28), (COp.move (CX.t 1)), (some (27, false))⟩,
       ⟨(some 29), (COp.call (CX.c (CVal.func 8 [] [])) [CX.t 28]), (some (27, false))⟩,
       ⟨(some 30), (COp.move (CX.t 1)), (some (27, false))⟩,
       ⟨(some 31), (COp.call (CX.c (CVal.func 9 [] [])) [CX.t 30]), (some (27, false))⟩,
       ⟨(some 32), (COp.bin (Go.BinOp.neq) (CX.t 29) (CX.t 31)), (some (27, false))⟩,
       ⟨(some 33), (COp.pick (CX.t 27) (CX.c (CVal.bool true)) (CX.t 32)), none⟩])
     (.cond (CX.t 33) (.seq (.region [⟨(some 10), (COp.move (CX.c (CVal.bool false))), none⟩])
       (.ret))
      (.skip)))
    (.seq (.region [⟨(some 35), (COp.move (CX.t 12)), none⟩,
       ⟨(some 36), (COp.call (CX.c (CVal.func 10 [] [])) [CX.t 35]), none⟩,
       ⟨(some 34), (COp.move (CX.t 36)), none⟩,
       ⟨(some 37), (COp.extract (CX.t 34) 0), none⟩,
       ⟨(some 38), (COp.extract (CX.t 34) 1), none⟩,
       ⟨(some 13), (COp.new [CVal.int (Go.IntKind.i64) 0, CVal.int (Go.IntKind.i64) 0, CVal.int (Go.IntKind.i64) 0, CVal.int (Go.IntKind.i64) 0, CVal.int (Go.IntKind.i64) 0]), none⟩,
       ⟨none, (COp.store 5 (CX.t 13) (CX.t 37)), none⟩,
       ⟨(some 14), (COp.move (CX.t 38)), none⟩])
     (.seq (.region [⟨(some 39), (COp.move (CX.t 14)), none⟩,
        ⟨(some 40), (COp.move (CX.t 12)), none⟩,
        ⟨(some 41), (COp.bin (Go.BinOp.neq) (CX.t 40) (CX.c (CVal.str []))), none⟩,
        ⟨(some 42), (COp.eq (TK.bool) false (CX.t 39) (CX.t 41)), none⟩,
        ⟨(some 43), (COp.move (CX.t 42)), none⟩,
        ⟨(some 44), (COp.move (CX.t 14)), (some (43, true))⟩,
        ⟨(some 45), (COp.un (Go.UnOp.not) (CX.t 44)), (some (43, true))⟩,
        ⟨(some 46), (COp.move (CX.t 45)), (some (43, true))⟩,
        ⟨(some 47), (COp.load true 5 (CX.t 13)), (some (46, false))⟩,
        ⟨(some 48), (COp.load true 5 (CX.t 11)), (some (46, false))⟩,
        ⟨(some 49), (COp.eqS [PK.int, PK.int, PK.int, PK.int, PK.int] false (CX.t 47) (CX.t 48)), (some (46, false))⟩,
        ⟨(some 50), (COp.pick (CX.t 46) (CX.c (CVal.bool true)) (CX.t 49)), (some (43, true))⟩,
        ⟨(some 51), (COp.pick (CX.t 43) (CX.t 50) (CX.c (CVal.bool false))), none⟩,
        ⟨(some 52), (COp.move (CX.t 51)), none⟩,
        ⟨(some 53), (COp.call (CX.c (CVal.func 11 [] [])) []), (some (52, true))⟩,
        ⟨(some 54), (COp.pick (CX.t 52) (CX.t 53) (CX.c (CVal.bool false))), none⟩,
        ⟨(some 10), (COp.move (CX.t 54)), none⟩])
      (.ret))))))⟩
theorem ok3 : compFunc prog glb 3 p3 = some c3 := by kernel_rfl
/-- signalbox/signalboxlaw17.EventReads -/
def p4 : List Plan := []
def c4 : CFunc := ⟨42, [CRV.tmp 2],
 .seq (.region [⟨(some 2), (COp.move (CX.c (CVal.bool false))), none⟩])
 (.seq (.seq (.region [⟨(some 7), (COp.move (CX.t 0)), none⟩,
     ⟨(some 8), (COp.len (LK.str) (CX.t 7)), none⟩,
     ⟨(some 9), (COp.bin (Go.BinOp.gtr) (CX.t 8) (CX.c (CVal.int (Go.IntKind.i64) 300))), none⟩])
   (.cond (CX.t 9) (.seq (.region [⟨(some 10), (COp.call (CX.c (CVal.func 11 [] [])) []), none⟩,
       ⟨(some 2), (COp.move (CX.t 10)), none⟩])
     (.ret))
    (.skip)))
  (.seq (.region [⟨(some 12), (COp.move (CX.t 0)), none⟩,
     ⟨(some 13), (COp.call (CX.c (CVal.func 10 [] [])) [CX.t 12]), none⟩,
     ⟨(some 11), (COp.move (CX.t 13)), none⟩,
     ⟨(some 14), (COp.extract (CX.t 11) 0), none⟩,
     ⟨(some 15), (COp.extract (CX.t 11) 1), none⟩,
     ⟨(some 3), (COp.new [CVal.int (Go.IntKind.i64) 0, CVal.int (Go.IntKind.i64) 0, CVal.int (Go.IntKind.i64) 0, CVal.int (Go.IntKind.i64) 0, CVal.int (Go.IntKind.i64) 0]), none⟩,
     ⟨none, (COp.store 5 (CX.t 3) (CX.t 14)), none⟩,
     ⟨(some 4), (COp.move (CX.t 15)), none⟩])
   (.seq (.region [⟨(some 17), (COp.move (CX.t 0)), none⟩,
      ⟨(some 18), (COp.call (CX.c (CVal.func 12 [] [])) [CX.t 17]), none⟩,
      ⟨(some 16), (COp.move (CX.t 18)), none⟩,
      ⟨(some 19), (COp.extract (CX.t 16) 0), none⟩,
      ⟨(some 20), (COp.extract (CX.t 16) 1), none⟩,
      ⟨(some 5), (COp.new [CVal.int (Go.IntKind.i64) 0, CVal.int (Go.IntKind.i64) 0, CVal.int (Go.IntKind.i64) 0, CVal.int (Go.IntKind.i64) 0, CVal.int (Go.IntKind.i64) 0]), none⟩,
      ⟨none, (COp.store 5 (CX.t 5) (CX.t 19)), none⟩,
      ⟨(some 6), (COp.move (CX.t 20)), none⟩])
    (.seq (.region [⟨(some 21), (COp.load true 5 (CX.t 3)), none⟩,
       ⟨(some 22), (COp.load true 5 (CX.t 5)), none⟩,
       ⟨(some 23), (COp.eqS [PK.int, PK.int, PK.int, PK.int, PK.int] false (CX.t 21) (CX.t 22)), none⟩,
       ⟨(some 24), (COp.move (CX.t 23)), none⟩,
       ⟨(some 25), (COp.move (CX.t 4)), (some (24, true))⟩,
       ⟨(some 26), (COp.move (CX.t 6)), (some (24, true))⟩,
       ⟨(some 27), (COp.eq (TK.bool) false (CX.t 25) (CX.t 26)), (some (24, true))⟩,
       ⟨(some 28), (COp.pick (CX.t 24) (CX.t 27) (CX.c (CVal.bool false))), none⟩,
       ⟨(some 29), (COp.move (CX.t 28)), none⟩,
       ⟨(some 30), (COp.move (CX.t 4)), (some (29, true))⟩,
       ⟨(some 31), (COp.un (Go.UnOp.not) (CX.t 30)), (some (29, true))⟩,
       ⟨(some 32), (COp.move (CX.t 31)), (some (29, true))⟩,
       ⟨(some 33), (COp.load true 5 (CX.t 3)), (some (32, false))⟩,
       ⟨(some 34), (COp.call (CX.c (CVal.func 6 [] [])) [CX.t 33]), (some (32, false))⟩,
       ⟨(some 35), (COp.move (CX.t 0)), (some (32, false))⟩,
       ⟨(some 36), (COp.bin (Go.BinOp.eql) (CX.t 34) (CX.t 35)), (some (32, false))⟩,
       ⟨(some 37), (COp.pick (CX.t 32) (CX.c (CVal.bool true)) (CX.t 36)), (some (29, true))⟩,
       ⟨(some 38), (COp.pick (CX.t 29) (CX.t 37) (CX.c (CVal.bool false))), none⟩,
       ⟨(some 39), (COp.move (CX.t 38)), none⟩,
       ⟨(some 40), (COp.call (CX.c (CVal.func 11 [] [])) []), (some (39, true))⟩,
       ⟨(some 41), (COp.pick (CX.t 39) (CX.t 40) (CX.c (CVal.bool false))), none⟩,
       ⟨(some 2), (COp.move (CX.t 41)), none⟩])
     (.ret)))))⟩
theorem ok4 : compFunc prog glb 4 p4 = some c4 := by kernel_rfl
/-- signalbox/signalboxlaw17.EventLists -/
def p5 : List Plan := []
def c5 : CFunc := ⟨71, [CRV.tmp 6],
 .seq (.region [⟨(some 6), (COp.move (CX.c (CVal.bool false))), none⟩])
 (.seq (.seq (.region [⟨(some 8), (COp.move (CX.t 0)), none⟩,
     ⟨(some 9), (COp.len (LK.slice) (CX.t 8)), none⟩,
     ⟨(some 10), (COp.bin (Go.BinOp.gtr) (CX.t 9) (CX.c (CVal.int (Go.IntKind.i64) 200))), none⟩,
     ⟨(some 11), (COp.move (CX.t 10)), none⟩,
     ⟨(some 12), (COp.move (CX.t 1)), (some (11, false))⟩,
     ⟨(some 13), (COp.len (LK.slice) (CX.t 12)), (some (11, false))⟩,
     ⟨(some 14), (COp.bin (Go.BinOp.gtr) (CX.t 13) (CX.c (CVal.int (Go.IntKind.i64) 200))), (some (11, false))⟩,
     ⟨(some 15), (COp.pick (CX.t 11) (CX.c (CVal.bool true)) (CX.t 14)), none⟩])
   (.cond (CX.t 15) (.seq (.region [⟨(some 16), (COp.call (CX.c (CVal.func 11 [] [])) []), none⟩,
       ⟨(some 6), (COp.move (CX.t 16)), none⟩])
     (.ret))
    (.skip)))
  (.seq (.region [⟨(some 7), (COp.move (CX.c (CVal.int (Go.IntKind.i64) 0))), none⟩])
   (.seq (.seq (.region [⟨(some 17), (COp.move (CX.t 0)), none⟩,
       ⟨(some 18), (COp.len (LK.slice) (CX.t 17)), none⟩,
       ⟨(some 19), (COp.bin (Go.BinOp.gtr) (CX.t 18) (CX.c (CVal.int (Go.IntKind.i64) 0))), none⟩,
       ⟨(some 20), (COp.move (CX.t 19)), none⟩,
       ⟨(some 21), (COp.move (CX.t 2)), (some (20, true))⟩,
       ⟨(some 22), (COp.bin (Go.BinOp.gtr) (CX.t 21) (CX.c (CVal.int (Go.IntKind.i64) 0))), (some (20, true))⟩,
       ⟨(some 23), (COp.pick (CX.t 20) (CX.t 22) (CX.c (CVal.bool false))), none⟩])
     (.cond (CX.t 23) (.region [⟨(some 24), (COp.move (CX.t 2)), none⟩,
        ⟨(some 25), (COp.move (CX.t 0)), none⟩,
        ⟨(some 26), (COp.len (LK.slice) (CX.t 25)), none⟩,
        ⟨(some 27), (COp.bin (Go.BinOp.add) (CX.t 26) (CX.c (CVal.int (Go.IntKind.i64) 1))), none⟩,
        ⟨(some 28), (COp.bin (Go.BinOp.rem) (CX.t 24) (CX.t 27)), none⟩,
        ⟨(some 7), (COp.move (CX.t 28)), none⟩])
      (.skip)))
    (.seq (.region [⟨(some 29), (COp.move (CX.t 0)), none⟩,
       ⟨(some 30), (COp.move (CX.t 1)), none⟩,
       ⟨(some 31), (COp.call (CX.c (CVal.func 13 [] [])) [CX.t 29, CX.t 30]), none⟩,
       ⟨(some 32), (COp.move (CX.t 0)), none⟩,
       ⟨(some 33), (COp.move (CX.t 1)), none⟩,
       ⟨(some 34), (COp.call (CX.c (CVal.func 14 [] [])) [CX.t 32, CX.t 33]), none⟩,
       ⟨(some 35), (COp.eq (TK.bool) false (CX.t 31) (CX.t 34)), none⟩,
       ⟨(some 36), (COp.move (CX.t 35)), none⟩,
       ⟨(some 37), (COp.move (CX.t 0)), (some (36, true))⟩,
       ⟨(some 38), (COp.move (CX.t 1)), (some (36, true))⟩,
       ⟨(some 39), (COp.call (CX.c (CVal.func 15 [] [])) [CX.t 37, CX.t 38]), (some (36, true))⟩,
       ⟨(some 40), (COp.move (CX.t 0)), (some (36, true))⟩,
       ⟨(some 41), (COp.move (CX.t 1)), (some (36, true))⟩,
       ⟨(some 42), (COp.call (CX.c (CVal.func 16 [] [])) [CX.t 40, CX.t 41]), (some (36, true))⟩,
       ⟨(some 43), (COp.eq (TK.bool) false (CX.t 39) (CX.t 42)), (some (36, true))⟩,
       ⟨(some 44), (COp.pick (CX.t 36) (CX.t 43) (CX.c (CVal.bool false))), none⟩,
       ⟨(some 45), (COp.move (CX.t 44)), none⟩,
       ⟨(some 46), (COp.move (CX.t 0)), (some (45, true))⟩,
       ⟨(some 47), (COp.move (CX.t 7)), (some (45, true))⟩,
       ⟨(some 48), (COp.slice 5 (CX.t 46) none (some (CX.t 47)) none), (some (45, true))⟩,
       ⟨(some 49), (COp.move (CX.t 0)), (some (45, true))⟩,
       ⟨(some 50), (COp.call (CX.c (CVal.func 15 [] [])) [CX.t 48, CX.t 49]), (some (45, true))⟩,
       ⟨(some 51), (COp.pick (CX.t 45) (CX.t 50) (CX.c (CVal.bool false))), none⟩,
       ⟨(some 52), (COp.move (CX.t 51)), none⟩,
       ⟨(some 53), (COp.move (CX.t 0)), (some (52, true))⟩,
       ⟨(some 54), (COp.buildSlice [CVal.int (Go.IntKind.i64) 0, CVal.int (Go.IntKind.i64) 0, CVal.int (Go.IntKind.i64) 0, CVal.int (Go.IntKind.i64) 0, CVal.int (Go.IntKind.i64) 0] 0 []), (some (52, true))⟩,
       ⟨(some 55), (COp.move (CX.t 0)), (some (52, true))⟩,
       ⟨(some 56), (COp.append 5 40 (CX.t 54) (CX.t 55)), (some (52, true))⟩,
       ⟨(some 57), (COp.move (CX.t 1)), (some (52, true))⟩,
       ⟨(some 58), (COp.append 5 40 (CX.t 56) (CX.t 57)), (some (52, true))⟩,
       ⟨(some 59), (COp.call (CX.c (CVal.func 15 [] [])) [CX.t 53, CX.t 58]), (some (52, true))⟩,
       ⟨(some 60), (COp.pick (CX.t 52) (CX.t 59) (CX.c (CVal.bool false))), none⟩,
       ⟨(some 61), (COp.move (CX.t 60)), none⟩,
       ⟨(some 62), (COp.move (CX.t 0)), (some (61, true))⟩,
       ⟨(some 63), (COp.call (CX.c (CVal.func 18 [] [])) [CX.t 62]), (some (61, true))⟩,
       ⟨(some 64), (COp.move (CX.t 0)), (some (61, true))⟩,
       ⟨(some 65), (COp.call (CX.c (CVal.func 19 [] [])) [CX.t 64]), (some (61, true))⟩,
       ⟨(some 66), (COp.call (CX.c (CVal.func 17 [] [])) [CX.t 63, CX.t 65]), (some (61, true))⟩,
       ⟨(some 67), (COp.pick (CX.t 61) (CX.t 66) (CX.c (CVal.bool false))), none⟩,
       ⟨(some 68), (COp.move (CX.t 67)), none⟩,
       ⟨(some 69), (COp.call (CX.c (CVal.func 11 [] [])) []), (some (68, true))⟩,
       ⟨(some 70), (COp.pick (CX.t 68) (CX.t 69) (CX.c (CVal.bool false))), none⟩,
       ⟨(some 6), (COp.move (CX.t 70)), none⟩])
     (.ret)))))⟩
theorem ok5 : compFunc prog glb 5 p5 = some c5 := by kernel_rfl
/-- signalbox/event.Text -/
def p6 : List Plan := [⟨[(0, DK.quiet [0]), (1, DK.quiet [0]), (2, DK.eff), (4, DK.quiet [0, 3]), (5, DK.quiet [0, 3]), (6, DK.eff), (7, DK.quiet [0, 3, 6]), (8, DK.quiet [0, 3, 6]), (9, DK.eff), (10, DK.quiet [0, 3, 6, 9]), (11, DK.quiet [0, 3, 6, 9]), (12, DK.eff), (3, DK.quiet [0, 3, 6, 9, 12]), (13, DK.eff), (14, DK.eff), (15, DK.quiet [15])], 0, [0, 1, 3, 0, 0, 16, 55, 0, 128, 503, 0, 1024, 4087, 8191, 16383, 32767]⟩]
def c6 : CFunc := ⟨24, [CRV.tmp 2],
 .seq (.region [⟨(some 1), (COp.box (CX.t 0)), none⟩,
   ⟨(some 2), (COp.move (CX.c (CVal.str []))), none⟩])
 (.seq (.region [⟨(some 4), (COp.fieldAddr 1 (CX.t 1)), none⟩,
    ⟨(some 5), (COp.load false 1 (CX.t 4)), none⟩,
    ⟨(some 6), (COp.call (CX.c (CVal.func 8 [] [])) [CX.t 5]), none⟩,
    ⟨(some 3), (COp.move (CX.t 6)), none⟩])
  (.seq (.seq (.region [⟨(some 7), (COp.move (CX.t 3)), none⟩,
      ⟨(some 8), (COp.bin (Go.BinOp.eql) (CX.t 7) (CX.c (CVal.str []))), none⟩])
    (.cond (CX.t 8) (.seq (.region [⟨(some 2), (COp.move (CX.c (CVal.str []))), none⟩])
      (.ret))
     (.skip)))
   (.seq (.draw [⟨0, ⟨(some 9), (COp.fieldAddr 0 (CX.t 1)), none⟩, (DK.quiet [0])⟩,
      ⟨1, ⟨(some 10), (COp.load false 1 (CX.t 9)), none⟩, (DK.quiet [0])⟩,
      ⟨2, ⟨(some 11), (COp.call (CX.c (CVal.func 21 [] [])) [CX.t 10]), none⟩, (DK.eff)⟩,
      ⟨4, ⟨(some 13), (COp.fieldAddr 2 (CX.t 1)), none⟩, (DK.quiet [0, 3])⟩,
      ⟨5, ⟨(some 14), (COp.load false 1 (CX.t 13)), none⟩, (DK.quiet [0, 3])⟩,
      ⟨6, ⟨(some 15), (COp.call (CX.c (CVal.func 21 [] [])) [CX.t 14]), none⟩, (DK.eff)⟩,
      ⟨7, ⟨(some 16), (COp.fieldAddr 3 (CX.t 1)), none⟩, (DK.quiet [0, 3, 6])⟩,
      ⟨8, ⟨(some 17), (COp.load false 1 (CX.t 16)), none⟩, (DK.quiet [0, 3, 6])⟩,
      ⟨9, ⟨(some 18), (COp.call (CX.c (CVal.func 21 [] [])) [CX.t 17]), none⟩, (DK.eff)⟩,
      ⟨10, ⟨(some 19), (COp.fieldAddr 4 (CX.t 1)), none⟩, (DK.quiet [0, 3, 6, 9])⟩,
      ⟨11, ⟨(some 20), (COp.load false 1 (CX.t 19)), none⟩, (DK.quiet [0, 3, 6, 9])⟩,
      ⟨12, ⟨(some 21), (COp.call (CX.c (CVal.func 21 [] [])) [CX.t 20]), none⟩, (DK.eff)⟩,
      ⟨3, ⟨(some 12), (COp.move (CX.t 3)), none⟩, (DK.quiet [0, 3, 6, 9, 12])⟩,
      ⟨13, ⟨(some 22), (COp.buildSlice [CVal.str []] 5 [(0, 1, CX.t 11), (1, 1, CX.t 12), (2, 1, CX.t 15), (3, 1, CX.t 18), (4, 1, CX.t 21)]), none⟩, (DK.eff)⟩,
      ⟨14, ⟨(some 23), (COp.call (CX.c (CVal.func 20 [] [])) [CX.t 22, CX.c (CVal.str [32])]), none⟩, (DK.eff)⟩,
      ⟨15, ⟨(some 2), (COp.move (CX.t 23)), none⟩, (DK.quiet [15])⟩] 0)
    (.ret))))⟩
theorem ok6 : compFunc prog glb 6 p6 = some c6 := by kernel_rfl
/-- signalbox/signalboxref1.EventText -/
def p7 : List Plan := [⟨[(0, DK.quiet [0]), (1, DK.quiet [0]), (2, DK.eff), (4, DK.quiet [0, 3]), (5, DK.quiet [0, 3]), (6, DK.eff), (9, DK.quiet [0, 3, 6]), (10, DK.quiet [0, 3, 6]), (11, DK.eff), (14, DK.quiet [0, 3, 6, 9]), (15, DK.quiet [0, 3, 6, 9]), (16, DK.eff), (19, DK.quiet [0, 3, 6, 9, 12]), (20, DK.quiet [0, 3, 6, 9, 12]), (21, DK.eff), (3, DK.quiet [3, 6, 9, 12, 15]), (7, DK.quiet [6, 9, 12, 15]), (8, DK.quiet [6, 9, 12, 15]), (12, DK.quiet [9, 12, 15]), (13, DK.quiet [9, 12, 15]), (17, DK.quiet [12, 15]), (18, DK.quiet [12, 15]), (22, DK.quiet [15]), (23, DK.quiet [15])], 0, [0, 1, 3, 7, 0, 16, 55, 127, 255, 0, 512, 1655, 4095, 8191, 0, 16384, 52855, 131071, 262143, 0, 524288, 1691255, 4194303, 8388607]⟩]
def c7 : CFunc := ⟨30, [CRV.tmp 2],
 .seq (.region [⟨(some 1), (COp.box (CX.t 0)), none⟩,
   ⟨(some 2), (COp.move (CX.c (CVal.str []))), none⟩])
 (.seq (.seq (.region [⟨(some 3), (COp.fieldAddr 1 (CX.t 1)), none⟩,
     ⟨(some 4), (COp.load false 1 (CX.t 3)), none⟩,
     ⟨(some 5), (COp.call (CX.c (CVal.func 9 [] [])) [CX.t 4]), none⟩,
     ⟨(some 6), (COp.bin (Go.BinOp.eql) (CX.t 5) (CX.c (CVal.str []))), none⟩])
   (.cond (CX.t 6) (.seq (.region [⟨(some 2), (COp.move (CX.c (CVal.str []))), none⟩])
     (.ret))
    (.skip)))
  (.seq (.draw [⟨0, ⟨(some 7), (COp.fieldAddr 0 (CX.t 1)), none⟩, (DK.quiet [0])⟩,
     ⟨1, ⟨(some 8), (COp.load false 1 (CX.t 7)), none⟩, (DK.quiet [0])⟩,
     ⟨2, ⟨(some 9), (COp.call (CX.c (CVal.func 21 [] [])) [CX.t 8]), none⟩, (DK.eff)⟩,
     ⟨4, ⟨(some 11), (COp.fieldAddr 1 (CX.t 1)), none⟩, (DK.quiet [0, 3])⟩,
     ⟨5, ⟨(some 12), (COp.load false 1 (CX.t 11)), none⟩, (DK.quiet [0, 3])⟩,
     ⟨6, ⟨(some 13), (COp.call (CX.c (CVal.func 9 [] [])) [CX.t 12]), none⟩, (DK.eff)⟩,
     ⟨9, ⟨(some 16), (COp.fieldAddr 2 (CX.t 1)), none⟩, (DK.quiet [0, 3, 6])⟩,
     ⟨10, ⟨(some 17), (COp.load false 1 (CX.t 16)), none⟩, (DK.quiet [0, 3, 6])⟩,
     ⟨11, ⟨(some 18), (COp.call (CX.c (CVal.func 21 [] [])) [CX.t 17]), none⟩, (DK.eff)⟩,
     ⟨14, ⟨(some 21), (COp.fieldAddr 3 (CX.t 1)), none⟩, (DK.quiet [0, 3, 6, 9])⟩,
     ⟨15, ⟨(some 22), (COp.load false 1 (CX.t 21)), none⟩, (DK.quiet [0, 3, 6, 9])⟩,
     ⟨16, ⟨(some 23), (COp.call (CX.c (CVal.func 21 [] [])) [CX.t 22]), none⟩, (DK.eff)⟩,
     ⟨19, ⟨(some 26), (COp.fieldAddr 4 (CX.t 1)), none⟩, (DK.quiet [0, 3, 6, 9, 12])⟩,
     ⟨20, ⟨(some 27), (COp.load false 1 (CX.t 26)), none⟩, (DK.quiet [0, 3, 6, 9, 12])⟩,
     ⟨21, ⟨(some 28), (COp.call (CX.c (CVal.func 21 [] [])) [CX.t 27]), none⟩, (DK.eff)⟩,
     ⟨3, ⟨(some 10), (COp.bin (Go.BinOp.add) (CX.t 9) (CX.c (CVal.str [32]))), none⟩, (DK.quiet [3, 6, 9, 12, 15])⟩,
     ⟨7, ⟨(some 14), (COp.bin (Go.BinOp.add) (CX.t 10) (CX.t 13)), none⟩, (DK.quiet [6, 9, 12, 15])⟩,
     ⟨8, ⟨(some 15), (COp.bin (Go.BinOp.add) (CX.t 14) (CX.c (CVal.str [32]))), none⟩, (DK.quiet [6, 9, 12, 15])⟩,
     ⟨12, ⟨(some 19), (COp.bin (Go.BinOp.add) (CX.t 15) (CX.t 18)), none⟩, (DK.quiet [9, 12, 15])⟩,
     ⟨13, ⟨(some 20), (COp.bin (Go.BinOp.add) (CX.t 19) (CX.c (CVal.str [32]))), none⟩, (DK.quiet [9, 12, 15])⟩,
     ⟨17, ⟨(some 24), (COp.bin (Go.BinOp.add) (CX.t 20) (CX.t 23)), none⟩, (DK.quiet [12, 15])⟩,
     ⟨18, ⟨(some 25), (COp.bin (Go.BinOp.add) (CX.t 24) (CX.c (CVal.str [32]))), none⟩, (DK.quiet [12, 15])⟩,
     ⟨22, ⟨(some 29), (COp.bin (Go.BinOp.add) (CX.t 25) (CX.t 28)), none⟩, (DK.quiet [15])⟩,
     ⟨23, ⟨(some 2), (COp.move (CX.t 29)), none⟩, (DK.quiet [15])⟩] 0)
   (.ret)))⟩
theorem ok7 : compFunc prog glb 7 p7 = some c7 := by kernel_rfl
/-- signalbox/event.Name -/
def p8 : List Plan := []
def c8 : CFunc := ⟨16, [CRV.tmp 2],
 .seq (.region [⟨(some 2), (COp.move (CX.c (CVal.str []))), none⟩])
 (.seq (.seq (.region [⟨(some 3), (COp.move (CX.t 0)), none⟩])
   (.block 0 (.seq (.region [⟨(some 5), (COp.bin (Go.BinOp.eql) (CX.t 3) (CX.c (CVal.int (Go.IntKind.i64) 1))), none⟩,
       ⟨(some 4), (COp.move (CX.t 5)), none⟩])
     (.cond (CX.t 4) (.seq (.region [⟨(some 2), (COp.move (CX.c (CVal.str [119, 114, 105, 116, 101]))), none⟩])
       (.ret))
      (.seq (.region [⟨(some 7), (COp.bin (Go.BinOp.eql) (CX.t 3) (CX.c (CVal.int (Go.IntKind.i64) 2))), none⟩,
         ⟨(some 6), (COp.move (CX.t 7)), none⟩])
       (.cond (CX.t 6) (.seq (.region [⟨(some 2), (COp.move (CX.c (CVal.str [98, 108, 111, 99, 107]))), none⟩])
         (.ret))
        (.seq (.region [⟨(some 9), (COp.bin (Go.BinOp.eql) (CX.t 3) (CX.c (CVal.int (Go.IntKind.i64) 3))), none⟩,
           ⟨(some 8), (COp.move (CX.t 9)), none⟩])
         (.cond (CX.t 8) (.seq (.region [⟨(some 2), (COp.move (CX.c (CVal.str [103, 114, 97, 110, 116]))), none⟩])
           (.ret))
          (.seq (.region [⟨(some 11), (COp.bin (Go.BinOp.eql) (CX.t 3) (CX.c (CVal.int (Go.IntKind.i64) 4))), none⟩,
             ⟨(some 10), (COp.move (CX.t 11)), none⟩])
           (.cond (CX.t 10) (.seq (.region [⟨(some 2), (COp.move (CX.c (CVal.str [116, 114, 97, 112]))), none⟩])
             (.ret))
            (.seq (.region [⟨(some 13), (COp.bin (Go.BinOp.eql) (CX.t 3) (CX.c (CVal.int (Go.IntKind.i64) 5))), none⟩,
               ⟨(some 12), (COp.move (CX.t 13)), none⟩])
             (.cond (CX.t 12) (.seq (.region [⟨(some 2), (COp.move (CX.c (CVal.str [101, 110, 100]))), none⟩])
               (.ret))
              (.seq (.region [⟨(some 15), (COp.bin (Go.BinOp.eql) (CX.t 3) (CX.c (CVal.int (Go.IntKind.i64) 6))), none⟩,
                 ⟨(some 14), (COp.move (CX.t 15)), none⟩])
               (.cond (CX.t 14) (.seq (.region [⟨(some 2), (COp.move (CX.c (CVal.str [115, 116, 111, 112]))), none⟩])
                 (.ret))
                (.skip)))))))))))))))
  (.seq (.region [⟨(some 2), (COp.move (CX.c (CVal.str []))), none⟩])
   (.ret)))⟩
theorem ok8 : compFunc prog glb 8 p8 = some c8 := by kernel_rfl
/-- signalbox/signalboxref1.EventName -/
def p9 : List Plan := []
def c9 : CFunc := ⟨15, [CRV.tmp 2],
 .seq (.region [⟨(some 2), (COp.move (CX.c (CVal.str []))), none⟩])
 (.seq (.region [⟨(some 4), (COp.build [CVal.str [], CVal.str [], CVal.str [], CVal.str [], CVal.str [], CVal.str []] [(0, 1, CX.c (CVal.str [119, 114, 105, 116, 101])), (1, 1, CX.c (CVal.str [98, 108, 111, 99, 107])), (2, 1, CX.c (CVal.str [103, 114, 97, 110, 116])), (3, 1, CX.c (CVal.str [116, 114, 97, 112])), (4, 1, CX.c (CVal.str [101, 110, 100])), (5, 1, CX.c (CVal.str [115, 116, 111, 112]))]), none⟩,
    ⟨(some 3), (COp.new [CVal.str [], CVal.str [], CVal.str [], CVal.str [], CVal.str [], CVal.str []]), none⟩,
    ⟨none, (COp.store 6 (CX.t 3) (CX.t 4)), none⟩])
  (.seq (.seq (.region [⟨(some 5), (COp.move (CX.t 0)), none⟩,
      ⟨(some 6), (COp.bin (Go.BinOp.lss) (CX.t 5) (CX.c (CVal.int (Go.IntKind.i64) 1))), none⟩,
      ⟨(some 7), (COp.move (CX.t 6)), none⟩,
      ⟨(some 8), (COp.move (CX.t 0)), (some (7, false))⟩,
      ⟨(some 9), (COp.bin (Go.BinOp.gtr) (CX.t 8) (CX.c (CVal.int (Go.IntKind.i64) 6))), (some (7, false))⟩,
      ⟨(some 10), (COp.pick (CX.t 7) (CX.c (CVal.bool true)) (CX.t 9)), none⟩])
    (.cond (CX.t 10) (.seq (.region [⟨(some 2), (COp.move (CX.c (CVal.str []))), none⟩])
      (.ret))
     (.skip)))
   (.seq (.region [⟨(some 11), (COp.move (CX.t 0)), none⟩,
      ⟨(some 12), (COp.bin (Go.BinOp.sub) (CX.t 11) (CX.c (CVal.int (Go.IntKind.i64) 1))), none⟩,
      ⟨(some 13), (COp.indexAddrArr 6 1 (CX.t 3) (CX.t 12)), none⟩,
      ⟨(some 14), (COp.load false 1 (CX.t 13)), none⟩,
      ⟨(some 2), (COp.move (CX.t 14)), none⟩])
    (.ret))))⟩
theorem ok9 : compFunc prog glb 9 p9 = some c9 := by kernel_rfl
/-- signalbox/event.Read -/
def p10 : List Plan := [⟨[(0, DK.quiet [0]), (1, DK.quiet [0]), (2, DK.quiet [0]), (3, DK.eff), (4, DK.quiet [0, 4]), (5, DK.quiet [0, 4]), (6, DK.quiet [0, 4]), (7, DK.eff), (8, DK.quiet [0, 4, 8]), (9, DK.quiet [0, 4, 8]), (10, DK.quiet [0, 4, 8]), (11, DK.eff), (12, DK.quiet [0, 4, 8, 12]), (13, DK.quiet [0, 4, 8, 12]), (14, DK.quiet [0, 4, 8, 12]), (15, DK.eff), (16, DK.quiet [0, 4, 8, 12, 16]), (17, DK.quiet [0, 4, 8, 12, 16]), (18, DK.quiet [0, 4, 8, 12, 16]), (19, DK.eff), (21, DK.alloc 0), (20, DK.quiet [20]), (22, DK.eff)], 1, [0, 1, 3, 7, 0, 16, 48, 127, 0, 256, 768, 2047, 0, 4096, 12288, 32767, 0, 65536, 196608, 524287, 1048575, 0, 4194303]⟩]
def c10 : CFunc := ⟨44, [CRV.cell 2 true 5, CRV.tmp 3],
 .seq (.region [⟨(some 2), (COp.new [CVal.int (Go.IntKind.i64) 0, CVal.int (Go.IntKind.i64) 0, CVal.int (Go.IntKind.i64) 0, CVal.int (Go.IntKind.i64) 0, CVal.int (Go.IntKind.i64) 0]), none⟩,
   ⟨(some 3), (COp.move (CX.c (CVal.bool false))), none⟩])
 (.seq (.region [⟨(some 6), (COp.move (CX.t 0)), none⟩,
    ⟨(some 7), (COp.call (CX.c (CVal.func 22 [] [])) [CX.t 6]), none⟩,
    ⟨(some 4), (COp.move (CX.t 7)), none⟩])
  (.seq (.seq (.region [⟨(some 8), (COp.move (CX.t 4)), none⟩,
      ⟨(some 9), (COp.len (LK.slice) (CX.t 8)), none⟩,
      ⟨(some 10), (COp.bin (Go.BinOp.neq) (CX.t 9) (CX.c (CVal.int (Go.IntKind.i64) 5))), none⟩])
    (.cond (CX.t 10) (.seq (.region [⟨(some 11), (COp.build [CVal.int (Go.IntKind.i64) 0, CVal.int (Go.IntKind.i64) 0, CVal.int (Go.IntKind.i64) 0, CVal.int (Go.IntKind.i64) 0, CVal.int (Go.IntKind.i64) 0] []), none⟩,
        ⟨none, (COp.store 5 (CX.t 2) (CX.t 11)), none⟩,
        ⟨(some 3), (COp.move (CX.c (CVal.bool false))), none⟩])
      (.ret))
     (.skip)))
   (.seq (.draw [⟨0, ⟨(some 12), (COp.move (CX.t 4)), none⟩, (DK.quiet [0])⟩,
      ⟨1, ⟨(some 13), (COp.indexAddr 1 (CX.t 12) (CX.c (CVal.int (Go.IntKind.i64) 0))), none⟩, (DK.quiet [0])⟩,
      ⟨2, ⟨(some 14), (COp.load false 1 (CX.t 13)), none⟩, (DK.quiet [0])⟩,
      ⟨3, ⟨(some 15), (COp.call (CX.c (CVal.func 23 [] [])) [CX.t 14]), none⟩, (DK.eff)⟩,
      ⟨4, ⟨(some 16), (COp.move (CX.t 4)), none⟩, (DK.quiet [0, 4])⟩,
      ⟨5, ⟨(some 17), (COp.indexAddr 1 (CX.t 16) (CX.c (CVal.int (Go.IntKind.i64) 1))), none⟩, (DK.quiet [0, 4])⟩,
      ⟨6, ⟨(some 18), (COp.load false 1 (CX.t 17)), none⟩, (DK.quiet [0, 4])⟩,
      ⟨7, ⟨(some 19), (COp.call (CX.c (CVal.func 24 [] [])) [CX.t 18]), none⟩, (DK.eff)⟩,
      ⟨8, ⟨(some 20), (COp.move (CX.t 4)), none⟩, (DK.quiet [0, 4, 8])⟩,
      ⟨9, ⟨(some 21), (COp.indexAddr 1 (CX.t 20) (CX.c (CVal.int (Go.IntKind.i64) 2))), none⟩, (DK.quiet [0, 4, 8])⟩,
      ⟨10, ⟨(some 22), (COp.load false 1 (CX.t 21)), none⟩, (DK.quiet [0, 4, 8])⟩,
      ⟨11, ⟨(some 23), (COp.call (CX.c (CVal.func 23 [] [])) [CX.t 22]), none⟩, (DK.eff)⟩,
      ⟨12, ⟨(some 24), (COp.move (CX.t 4)), none⟩, (DK.quiet [0, 4, 8, 12])⟩,
      ⟨13, ⟨(some 25), (COp.indexAddr 1 (CX.t 24) (CX.c (CVal.int (Go.IntKind.i64) 3))), none⟩, (DK.quiet [0, 4, 8, 12])⟩,
      ⟨14, ⟨(some 26), (COp.load false 1 (CX.t 25)), none⟩, (DK.quiet [0, 4, 8, 12])⟩,
      ⟨15, ⟨(some 27), (COp.call (CX.c (CVal.func 23 [] [])) [CX.t 26]), none⟩, (DK.eff)⟩,
      ⟨16, ⟨(some 28), (COp.move (CX.t 4)), none⟩, (DK.quiet [0, 4, 8, 12, 16])⟩,
      ⟨17, ⟨(some 29), (COp.indexAddr 1 (CX.t 28) (CX.c (CVal.int (Go.IntKind.i64) 4))), none⟩, (DK.quiet [0, 4, 8, 12, 16])⟩,
      ⟨18, ⟨(some 30), (COp.load false 1 (CX.t 29)), none⟩, (DK.quiet [0, 4, 8, 12, 16])⟩,
      ⟨19, ⟨(some 31), (COp.call (CX.c (CVal.func 23 [] [])) [CX.t 30]), none⟩, (DK.eff)⟩,
      ⟨21, ⟨(some 5), (COp.new [CVal.int (Go.IntKind.i64) 0, CVal.int (Go.IntKind.i64) 0, CVal.int (Go.IntKind.i64) 0, CVal.int (Go.IntKind.i64) 0, CVal.int (Go.IntKind.i64) 0]), none⟩, (DK.alloc 0)⟩,
      ⟨20, ⟨(some 32), (COp.build [CVal.int (Go.IntKind.i64) 0, CVal.int (Go.IntKind.i64) 0, CVal.int (Go.IntKind.i64) 0, CVal.int (Go.IntKind.i64) 0, CVal.int (Go.IntKind.i64) 0] [(0, 1, CX.t 15), (1, 1, CX.t 19), (2, 1, CX.t 23), (3, 1, CX.t 27), (4, 1, CX.t 31)]), none⟩, (DK.quiet [20])⟩,
      ⟨22, ⟨none, (COp.store 5 (CX.t 5) (CX.t 32)), none⟩, (DK.eff)⟩] 1)
    (.seq (.seq (.region [⟨(some 33), (COp.fieldAddr 1 (CX.t 5)), none⟩,
        ⟨(some 34), (COp.load false 1 (CX.t 33)), none⟩,
        ⟨(some 35), (COp.bin (Go.BinOp.eql) (CX.t 34) (CX.c (CVal.int (Go.IntKind.i64) 0))), none⟩,
        ⟨(some 36), (COp.move (CX.t 35)), none⟩,
        ⟨(some 37), (COp.load true 5 (CX.t 5)), (some (36, false))⟩,
        ⟨(some 38), (COp.call (CX.c (CVal.func 6 [] [])) [CX.t 37]), (some (36, false))⟩,
        ⟨(some 39), (COp.move (CX.t 0)), (some (36, false))⟩,
        ⟨(some 40), (COp.bin (Go.BinOp.neq) (CX.t 38) (CX.t 39)), (some (36, false))⟩,
        ⟨(some 41), (COp.pick (CX.t 36) (CX.c (CVal.bool true)) (CX.t 40)), none⟩])
      (.cond (CX.t 41) (.seq (.region [⟨(some 42), (COp.build [CVal.int (Go.IntKind.i64) 0, CVal.int (Go.IntKind.i64) 0, CVal.int (Go.IntKind.i64) 0, CVal.int (Go.IntKind.i64) 0, CVal.int (Go.IntKind.i64) 0] []), none⟩,
          ⟨none, (COp.store 5 (CX.t 2) (CX.t 42)), none⟩,
          ⟨(some 3), (COp.move (CX.c (CVal.bool false))), none⟩])
        (.ret))
       (.skip)))
     (.seq (.region [⟨(some 43), (COp.load true 5 (CX.t 5)), none⟩,
        ⟨none, (COp.store 5 (CX.t 2) (CX.t 43)), none⟩,
        ⟨(some 3), (COp.move (CX.c (CVal.bool true))), none⟩])
      (.ret))))))⟩
theorem ok10 : compFunc prog glb 10 p10 = some c10 := by kernel_rfl
/-- signalbox/signalboxlaw17.awake -/
def p11 : List Plan := []
def c11 : CFunc := ⟨71, [CRV.tmp 0],
 .seq (.region [⟨(some 0), (COp.move (CX.c (CVal.bool false))), none⟩])
 (.seq (.region [⟨(some 7), (COp.call (CX.c (CVal.func 10 [] [])) [CX.c (CVal.str [51, 32, 119, 114, 105, 116, 101, 32, 50, 32, 49, 55, 32, 48])]), none⟩,
    ⟨(some 6), (COp.move (CX.t 7)), none⟩,
    ⟨(some 8), (COp.extract (CX.t 6) 0), none⟩,
    ⟨(some 9), (COp.extract (CX.t 6) 1), none⟩,
    ⟨(some 1), (COp.new [CVal.int (Go.IntKind.i64) 0, CVal.int (Go.IntKind.i64) 0, CVal.int (Go.IntKind.i64) 0, CVal.int (Go.IntKind.i64) 0, CVal.int (Go.IntKind.i64) 0]), none⟩,
    ⟨none, (COp.store 5 (CX.t 1) (CX.t 8)), none⟩,
    ⟨(some 2), (COp.move (CX.t 9)), none⟩])
  (.seq (.region [⟨(some 11), (COp.call (CX.c (CVal.func 10 [] [])) [CX.c (CVal.str [51, 32, 119, 114, 105, 116, 101, 32, 50, 32, 49, 55])]), none⟩,
     ⟨(some 10), (COp.move (CX.t 11)), none⟩,
     ⟨(some 12), (COp.extract (CX.t 10) 0), none⟩,
     ⟨(some 13), (COp.extract (CX.t 10) 1), none⟩,
     ⟨(some 3), (COp.new [CVal.int (Go.IntKind.i64) 0, CVal.int (Go.IntKind.i64) 0, CVal.int (Go.IntKind.i64) 0, CVal.int (Go.IntKind.i64) 0, CVal.int (Go.IntKind.i64) 0]), none⟩,
     ⟨none, (COp.store 5 (CX.t 3) (CX.t 12)), none⟩,
     ⟨(some 4), (COp.move (CX.t 13)), none⟩])
   (.seq (.region [⟨(some 14), (COp.build [CVal.int (Go.IntKind.i64) 0, CVal.int (Go.IntKind.i64) 0, CVal.int (Go.IntKind.i64) 0, CVal.int (Go.IntKind.i64) 0, CVal.int (Go.IntKind.i64) 0] [(0, 1, CX.c (CVal.int (Go.IntKind.i64) 1)), (1, 1, CX.c (CVal.int (Go.IntKind.i64) 1)), (2, 1, CX.c (CVal.int (Go.IntKind.i64) 2)), (3, 1, CX.c (CVal.int (Go.IntKind.i64) 5))]), none⟩,
      ⟨(some 15), (COp.build [CVal.int (Go.IntKind.i64) 0, CVal.int (Go.IntKind.i64) 0, CVal.int (Go.IntKind.i64) 0, CVal.int (Go.IntKind.i64) 0, CVal.int (Go.IntKind.i64) 0] [(0, 1, CX.c (CVal.int (Go.IntKind.i64) 1)), (1, 1, CX.c (CVal.int (Go.IntKind.i64) 5)), (2, 1, CX.c (CVal.int (Go.IntKind.i64) 2))]), none⟩,
      ⟨(some 16), (COp.buildSlice [CVal.int (Go.IntKind.i64) 0, CVal.int (Go.IntKind.i64) 0, CVal.int (Go.IntKind.i64) 0, CVal.int (Go.IntKind.i64) 0, CVal.int (Go.IntKind.i64) 0] 2 [(0, 5, CX.t 14), (5, 5, CX.t 15)]), none⟩,
      ⟨(some 5), (COp.move (CX.t 16)), none⟩])
    (.seq (.region [⟨(some 17), (COp.build [CVal.int (Go.IntKind.i64) 0, CVal.int (Go.IntKind.i64) 0, CVal.int (Go.IntKind.i64) 0, CVal.int (Go.IntKind.i64) 0, CVal.int (Go.IntKind.i64) 0] [(0, 1, CX.c (CVal.int (Go.IntKind.i64) 3)), (1, 1, CX.c (CVal.int (Go.IntKind.i64) 1)), (2, 1, CX.c (CVal.int (Go.IntKind.i64) 2)), (3, 1, CX.c (CVal.int (Go.IntKind.i64) 17))]), none⟩,
       ⟨(some 18), (COp.call (CX.c (CVal.func 6 [] [])) [CX.t 17]), none⟩,
       ⟨(some 19), (COp.bin (Go.BinOp.eql) (CX.t 18) (CX.c (CVal.str [51, 32, 119, 114, 105, 116, 101, 32, 50, 32, 49, 55, 32, 48]))), none⟩,
       ⟨(some 20), (COp.move (CX.t 19)), none⟩,
       ⟨(some 21), (COp.move (CX.t 2)), (some (20, true))⟩,
       ⟨(some 22), (COp.pick (CX.t 20) (CX.t 21) (CX.c (CVal.bool false))), none⟩,
       ⟨(some 23), (COp.move (CX.t 22)), none⟩,
       ⟨(some 24), (COp.load true 5 (CX.t 1)), (some (23, true))⟩,
       ⟨(some 25), (COp.build [CVal.int (Go.IntKind.i64) 0, CVal.int (Go.IntKind.i64) 0, CVal.int (Go.IntKind.i64) 0, CVal.int (Go.IntKind.i64) 0, CVal.int (Go.IntKind.i64) 0] [(0, 1, CX.c (CVal.int (Go.IntKind.i64) 3)), (1, 1, CX.c (CVal.int (Go.IntKind.i64) 1)), (2, 1, CX.c (CVal.int (Go.IntKind.i64) 2)), (3, 1, CX.c (CVal.int (Go.IntKind.i64) 17))]), (some (23, true))⟩,
       ⟨(some 26), (COp.eqS [PK.int, PK.int, PK.int, PK.int, PK.int] false (CX.t 24) (CX.t 25)), (some (23, true))⟩,
       ⟨(some 27), (COp.pick (CX.t 23) (CX.t 26) (CX.c (CVal.bool false))), none⟩,
       ⟨(some 28), (COp.move (CX.t 27)), none⟩,
       ⟨(some 29), (COp.move (CX.t 4)), (some (28, true))⟩,
       ⟨(some 30), (COp.un (Go.UnOp.not) (CX.t 29)), (some (28, true))⟩,
       ⟨(some 31), (COp.pick (CX.t 28) (CX.t 30) (CX.c (CVal.bool false))), none⟩,
       ⟨(some 32), (COp.move (CX.t 31)), none⟩,
       ⟨(some 33), (COp.call (CX.c (CVal.func 8 [] [])) [CX.c (CVal.int (Go.IntKind.i64) 6)]), (some (32, true))⟩,
       ⟨(some 34), (COp.bin (Go.BinOp.eql) (CX.t 33) (CX.c (CVal.str [115, 116, 111, 112]))), (some (32, true))⟩,
       ⟨(some 35), (COp.pick (CX.t 32) (CX.t 34) (CX.c (CVal.bool false))), none⟩,
       ⟨(some 36), (COp.move (CX.t 35)), none⟩,
       ⟨(some 37), (COp.call (CX.c (CVal.func 8 [] [])) [CX.c (CVal.int (Go.IntKind.i64) 7)]), (some (36, true))⟩,
       ⟨(some 38), (COp.bin (Go.BinOp.eql) (CX.t 37) (CX.c (CVal.str []))), (some (36, true))⟩,
       ⟨(some 39), (COp.pick (CX.t 36) (CX.t 38) (CX.c (CVal.bool false))), none⟩,
       ⟨(some 40), (COp.move (CX.t 39)), none⟩,
       ⟨(some 41), (COp.move (CX.t 5)), (some (40, true))⟩,
       ⟨(some 42), (COp.move (CX.t 5)), (some (40, true))⟩,
       ⟨(some 43), (COp.call (CX.c (CVal.func 13 [] [])) [CX.t 41, CX.t 42]), (some (40, true))⟩,
       ⟨(some 44), (COp.pick (CX.t 40) (CX.t 43) (CX.c (CVal.bool false))), none⟩,
       ⟨(some 45), (COp.move (CX.t 44)), none⟩,
       ⟨(some 46), (COp.move (CX.t 5)), (some (45, true))⟩,
       ⟨(some 47), (COp.move (CX.t 5)), (some (45, true))⟩,
       ⟨(some 48), (COp.slice 5 (CX.t 47) none (some (CX.c (CVal.int (Go.IntKind.i64) 1))) none), (some (45, true))⟩,
       ⟨(some 49), (COp.call (CX.c (CVal.func 13 [] [])) [CX.t 46, CX.t 48]), (some (45, true))⟩,
       ⟨(some 50), (COp.un (Go.UnOp.not) (CX.t 49)), (some (45, true))⟩,
       ⟨(some 51), (COp.pick (CX.t 45) (CX.t 50) (CX.c (CVal.bool false))), none⟩,
       ⟨(some 52), (COp.move (CX.t 51)), none⟩,
       ⟨(some 53), (COp.move (CX.t 5)), (some (52, true))⟩,
       ⟨(some 54), (COp.slice 5 (CX.t 53) none (some (CX.c (CVal.int (Go.IntKind.i64) 1))) none), (some (52, true))⟩,
       ⟨(some 55), (COp.move (CX.t 5)), (some (52, true))⟩,
       ⟨(some 56), (COp.call (CX.c (CVal.func 15 [] [])) [CX.t 54, CX.t 55]), (some (52, true))⟩,
       ⟨(some 57), (COp.pick (CX.t 52) (CX.t 56) (CX.c (CVal.bool false))), none⟩,
       ⟨(some 58), (COp.move (CX.t 57)), none⟩,
       ⟨(some 59), (COp.move (CX.t 5)), (some (58, true))⟩,
       ⟨(some 60), (COp.move (CX.t 5)), (some (58, true))⟩,
       ⟨(some 61), (COp.slice 5 (CX.t 60) none (some (CX.c (CVal.int (Go.IntKind.i64) 1))) none), (some (58, true))⟩,
       ⟨(some 62), (COp.call (CX.c (CVal.func 15 [] [])) [CX.t 59, CX.t 61]), (some (58, true))⟩,
       ⟨(some 63), (COp.un (Go.UnOp.not) (CX.t 62)), (some (58, true))⟩,
       ⟨(some 64), (COp.pick (CX.t 58) (CX.t 63) (CX.c (CVal.bool false))), none⟩,
       ⟨(some 65), (COp.move (CX.t 64)), none⟩,
       ⟨(some 66), (COp.move (CX.t 5)), (some (65, true))⟩,
       ⟨(some 67), (COp.call (CX.c (CVal.func 18 [] [])) [CX.t 66]), (some (65, true))⟩,
       ⟨(some 68), (COp.buildSlice [CVal.int (Go.IntKind.i64) 0] 1 [(0, 1, CX.c (CVal.int (Go.IntKind.i64) 5))]), (some (65, true))⟩,
       ⟨(some 69), (COp.call (CX.c (CVal.func 17 [] [])) [CX.t 67, CX.t 68]), (some (65, true))⟩,
       ⟨(some 70), (COp.pick (CX.t 65) (CX.t 69) (CX.c (CVal.bool false))), none⟩,
       ⟨(some 0), (COp.move (CX.t 70)), none⟩])
     (.ret)))))⟩
theorem ok11 : compFunc prog glb 11 p11 = some c11 := by kernel_rfl
/-- signalbox/signalboxref1.ReadEvent -/
def p12 : List Plan := [⟨[(0, DK.quiet [0]), (1, DK.eff), (2, DK.quiet [0, 2]), (3, DK.quiet [0, 2]), (4, DK.quiet [0, 2]), (5, DK.quiet [2])], 0, [0, 1, 0, 4, 12, 31]⟩]
def c12 : CFunc := ⟨85, [CRV.cell 2 true 5, CRV.tmp 3],
 .seq (.region [⟨(some 2), (COp.new [CVal.int (Go.IntKind.i64) 0, CVal.int (Go.IntKind.i64) 0, CVal.int (Go.IntKind.i64) 0, CVal.int (Go.IntKind.i64) 0, CVal.int (Go.IntKind.i64) 0]), none⟩,
   ⟨(some 3), (COp.move (CX.c (CVal.bool false))), none⟩])
 (.seq (.region [⟨(some 15), (COp.move (CX.t 0)), none⟩,
    ⟨(some 16), (COp.call (CX.c (CVal.func 25 [] [])) [CX.t 15]), none⟩,
    ⟨(some 4), (COp.move (CX.t 16)), none⟩])
  (.seq (.seq (.region [⟨(some 17), (COp.move (CX.t 4)), none⟩,
      ⟨(some 18), (COp.len (LK.slice) (CX.t 17)), none⟩,
      ⟨(some 19), (COp.bin (Go.BinOp.neq) (CX.t 18) (CX.c (CVal.int (Go.IntKind.i64) 5))), none⟩])
    (.cond (CX.t 19) (.seq (.region [⟨(some 20), (COp.build [CVal.int (Go.IntKind.i64) 0, CVal.int (Go.IntKind.i64) 0, CVal.int (Go.IntKind.i64) 0, CVal.int (Go.IntKind.i64) 0, CVal.int (Go.IntKind.i64) 0] []), none⟩,
        ⟨none, (COp.store 5 (CX.t 2) (CX.t 20)), none⟩,
        ⟨(some 3), (COp.move (CX.c (CVal.bool false))), none⟩])
      (.ret))
     (.skip)))
   (.seq (.region [⟨(some 22), (COp.move (CX.t 4)), none⟩,
      ⟨(some 23), (COp.indexAddr 1 (CX.t 22) (CX.c (CVal.int (Go.IntKind.i64) 0))), none⟩,
      ⟨(some 24), (COp.load false 1 (CX.t 23)), none⟩,
      ⟨(some 25), (COp.call (CX.c (CVal.func 26 [] [])) [CX.t 24]), none⟩,
      ⟨(some 21), (COp.move (CX.t 25)), none⟩,
      ⟨(some 26), (COp.extract (CX.t 21) 0), none⟩,
      ⟨(some 27), (COp.extract (CX.t 21) 1), none⟩,
      ⟨(some 5), (COp.move (CX.t 26)), none⟩,
      ⟨(some 6), (COp.move (CX.t 27)), none⟩])
    (.seq (.region [⟨(some 29), (COp.move (CX.t 4)), none⟩,
       ⟨(some 30), (COp.indexAddr 1 (CX.t 29) (CX.c (CVal.int (Go.IntKind.i64) 2))), none⟩,
       ⟨(some 31), (COp.load false 1 (CX.t 30)), none⟩,
       ⟨(some 32), (COp.call (CX.c (CVal.func 26 [] [])) [CX.t 31]), none⟩,
       ⟨(some 28), (COp.move (CX.t 32)), none⟩,
       ⟨(some 33), (COp.extract (CX.t 28) 0), none⟩,
       ⟨(some 34), (COp.extract (CX.t 28) 1), none⟩,
       ⟨(some 7), (COp.move (CX.t 33)), none⟩,
       ⟨(some 8), (COp.move (CX.t 34)), none⟩])
     (.seq (.region [⟨(some 36), (COp.move (CX.t 4)), none⟩,
        ⟨(some 37), (COp.indexAddr 1 (CX.t 36) (CX.c (CVal.int (Go.IntKind.i64) 3))), none⟩,
        ⟨(some 38), (COp.load false 1 (CX.t 37)), none⟩,
        ⟨(some 39), (COp.call (CX.c (CVal.func 26 [] [])) [CX.t 38]), none⟩,
        ⟨(some 35), (COp.move (CX.t 39)), none⟩,
        ⟨(some 40), (COp.extract (CX.t 35) 0), none⟩,
        ⟨(some 41), (COp.extract (CX.t 35) 1), none⟩,
        ⟨(some 9), (COp.move (CX.t 40)), none⟩,
        ⟨(some 10), (COp.move (CX.t 41)), none⟩])
      (.seq (.region [⟨(some 43), (COp.move (CX.t 4)), none⟩,
         ⟨(some 44), (COp.indexAddr 1 (CX.t 43) (CX.c (CVal.int (Go.IntKind.i64) 4))), none⟩,
         ⟨(some 45), (COp.load false 1 (CX.t 44)), none⟩,
         ⟨(some 46), (COp.call (CX.c (CVal.func 26 [] [])) [CX.t 45]), none⟩,
         ⟨(some 42), (COp.move (CX.t 46)), none⟩,
         ⟨(some 47), (COp.extract (CX.t 42) 0), none⟩,
         ⟨(some 48), (COp.extract (CX.t 42) 1), none⟩,
         ⟨(some 11), (COp.move (CX.t 47)), none⟩,
         ⟨(some 12), (COp.move (CX.t 48)), none⟩])
       (.seq (.region [⟨(some 13), (COp.move (CX.c (CVal.int (Go.IntKind.i64) 0))), none⟩])
        (.seq (.seq (.region [⟨(some 14), (COp.move (CX.c (CVal.int (Go.IntKind.i64) 1))), none⟩])
          (.block 0 (.loop (.seq (.seq (.region [⟨(some 49), (COp.move (CX.t 14)), none⟩,
                ⟨(some 50), (COp.bin (Go.BinOp.leq) (CX.t 49) (CX.c (CVal.int (Go.IntKind.i64) 6))), none⟩])
              (.cond (CX.t 50) (.skip)
               (.exit 0)))
             (.seq (.block 1 (.seq (.draw [⟨0, ⟨(some 53), (COp.move (CX.t 14)), none⟩, (DK.quiet [0])⟩,
                  ⟨1, ⟨(some 54), (COp.call (CX.c (CVal.func 9 [] [])) [CX.t 53]), none⟩, (DK.eff)⟩,
                  ⟨2, ⟨(some 55), (COp.move (CX.t 4)), none⟩, (DK.quiet [0, 2])⟩,
                  ⟨3, ⟨(some 56), (COp.indexAddr 1 (CX.t 55) (CX.c (CVal.int (Go.IntKind.i64) 1))), none⟩, (DK.quiet [0, 2])⟩,
                  ⟨4, ⟨(some 57), (COp.load false 1 (CX.t 56)), none⟩, (DK.quiet [0, 2])⟩,
                  ⟨5, ⟨(some 58), (COp.bin (Go.BinOp.eql) (CX.t 54) (CX.t 57)), none⟩, (DK.quiet [2])⟩] 0)
                (.cond (CX.t 58) (.region [⟨(some 59), (COp.move (CX.t 14)), none⟩,
                   ⟨(some 13), (COp.move (CX.t 59)), none⟩])
                 (.skip))))
              (.region [⟨(some 51), (COp.move (CX.t 14)), none⟩,
                ⟨(some 52), (COp.bin (Go.BinOp.add) (CX.t 51) (CX.c (CVal.int (Go.IntKind.i64) 1))), none⟩,
                ⟨(some 14), (COp.move (CX.t 52)), none⟩]))))))
         (.seq (.seq (.region [⟨(some 60), (COp.move (CX.t 6)), none⟩,
             ⟨(some 61), (COp.un (Go.UnOp.not) (CX.t 60)), none⟩,
             ⟨(some 62), (COp.move (CX.t 61)), none⟩,
             ⟨(some 63), (COp.move (CX.t 8)), (some (62, false))⟩,
             ⟨(some 64), (COp.un (Go.UnOp.not) (CX.t 63)), (some (62, false))⟩,
             ⟨(some 65), (COp.pick (CX.t 62) (CX.c (CVal.bool true)) (CX.t 64)), none⟩,
             ⟨(some 66), (COp.move (CX.t 65)), none⟩,
             ⟨(some 67), (COp.move (CX.t 10)), (some (66, false))⟩,
             ⟨(some 68), (COp.un (Go.UnOp.not) (CX.t 67)), (some (66, false))⟩,
             ⟨(some 69), (COp.pick (CX.t 66) (CX.c (CVal.bool true)) (CX.t 68)), none⟩,
             ⟨(some 70), (COp.move (CX.t 69)), none⟩,
             ⟨(some 71), (COp.move (CX.t 12)), (some (70, false))⟩,
             ⟨(some 72), (COp.un (Go.UnOp.not) (CX.t 71)), (some (70, false))⟩,
             ⟨(some 73), (COp.pick (CX.t 70) (CX.c (CVal.bool true)) (CX.t 72)), none⟩,
             ⟨(some 74), (COp.move (CX.t 73)), none⟩,
             ⟨(some 75), (COp.move (CX.t 13)), (some (74, false))⟩,
             ⟨(some 76), (COp.bin (Go.BinOp.eql) (CX.t 75) (CX.c (CVal.int (Go.IntKind.i64) 0))), (some (74, false))⟩,
             ⟨(some 77), (COp.pick (CX.t 74) (CX.c (CVal.bool true)) (CX.t 76)), none⟩])
           (.cond (CX.t 77) (.seq (.region [⟨(some 78), (COp.build [CVal.int (Go.IntKind.i64) 0, CVal.int (Go.IntKind.i64) 0, CVal.int (Go.IntKind.i64) 0, CVal.int (Go.IntKind.i64) 0, CVal.int (Go.IntKind.i64) 0] []), none⟩,
               ⟨none, (COp.store 5 (CX.t 2) (CX.t 78)), none⟩,
               ⟨(some 3), (COp.move (CX.c (CVal.bool false))), none⟩])
             (.ret))
            (.skip)))
          (.seq (.region [⟨(some 79), (COp.move (CX.t 5)), none⟩,
             ⟨(some 80), (COp.move (CX.t 13)), none⟩,
             ⟨(some 81), (COp.move (CX.t 7)), none⟩,
             ⟨(some 82), (COp.move (CX.t 9)), none⟩,
             ⟨(some 83), (COp.move (CX.t 11)), none⟩,
             ⟨(some 84), (COp.build [CVal.int (Go.IntKind.i64) 0, CVal.int (Go.IntKind.i64) 0, CVal.int (Go.IntKind.i64) 0, CVal.int (Go.IntKind.i64) 0, CVal.int (Go.IntKind.i64) 0] [(0, 1, CX.t 79), (1, 1, CX.t 80), (2, 1, CX.t 81), (3, 1, CX.t 82), (4, 1, CX.t 83)]), none⟩,
             ⟨none, (COp.store 5 (CX.t 2) (CX.t 84)), none⟩,
             ⟨(some 3), (COp.move (CX.c (CVal.bool true))), none⟩])
           (.ret)))))))))))⟩
theorem ok12 : compFunc prog glb 12 p12 = some c12 := by kernel_rfl
/-- signalbox/event.Same -/
def p13 : List Plan := []
def c13 : CFunc := ⟨8, [CRV.tmp 4],
 .seq (.region [⟨(some 4), (COp.move (CX.c (CVal.bool false))), none⟩])
 (.seq (.region [⟨(some 5), (COp.move (CX.t 0)), none⟩,
    ⟨(some 6), (COp.move (CX.t 1)), none⟩,
    ⟨(some 7), (COp.call (CX.c (CVal.func 27 [] [])) [CX.t 5, CX.t 6]), none⟩,
    ⟨(some 4), (COp.move (CX.t 7)), none⟩])
  (.ret))⟩
theorem ok13 : compFunc prog glb 13 p13 = some c13 := by kernel_rfl
/-- signalbox/signalboxref1.Events -/
def p14 : List Plan := []
def c14 : CFunc := ⟨15, [CRV.tmp 4],
 .seq (.region [⟨(some 4), (COp.move (CX.c (CVal.bool false))), none⟩])
 (.seq (.region [⟨(some 5), (COp.move (CX.t 0)), none⟩,
    ⟨(some 6), (COp.len (LK.slice) (CX.t 5)), none⟩,
    ⟨(some 7), (COp.move (CX.t 1)), none⟩,
    ⟨(some 8), (COp.len (LK.slice) (CX.t 7)), none⟩,
    ⟨(some 9), (COp.bin (Go.BinOp.eql) (CX.t 6) (CX.t 8)), none⟩,
    ⟨(some 10), (COp.move (CX.t 9)), none⟩,
    ⟨(some 11), (COp.move (CX.t 0)), (some (10, true))⟩,
    ⟨(some 12), (COp.move (CX.t 1)), (some (10, true))⟩,
    ⟨(some 13), (COp.call (CX.c (CVal.func 16 [] [])) [CX.t 11, CX.t 12]), (some (10, true))⟩,
    ⟨(some 14), (COp.pick (CX.t 10) (CX.t 13) (CX.c (CVal.bool false))), none⟩,
    ⟨(some 4), (COp.move (CX.t 14)), none⟩])
  (.ret))⟩
theorem ok14 : compFunc prog glb 14 p14 = some c14 := by kernel_rfl
/-- signalbox/event.Prefix -/
def p15 : List Plan := []
def c15 : CFunc := ⟨18, [CRV.tmp 4],
 .seq (.region [⟨(some 4), (COp.move (CX.c (CVal.bool false))), none⟩])
 (.seq (.region [⟨(some 5), (COp.move (CX.t 0)), none⟩,
    ⟨(some 6), (COp.len (LK.slice) (CX.t 5)), none⟩,
    ⟨(some 7), (COp.move (CX.t 1)), none⟩,
    ⟨(some 8), (COp.len (LK.slice) (CX.t 7)), none⟩,
    ⟨(some 9), (COp.bin (Go.BinOp.leq) (CX.t 6) (CX.t 8)), none⟩,
    ⟨(some 10), (COp.move (CX.t 9)), none⟩,
    ⟨(some 11), (COp.move (CX.t 0)), (some (10, true))⟩,
    ⟨(some 12), (COp.move (CX.t 1)), (some (10, true))⟩,
    ⟨(some 13), (COp.move (CX.t 0)), (some (10, true))⟩,
    ⟨(some 14), (COp.len (LK.slice) (CX.t 13)), (some (10, true))⟩,
    ⟨(some 15), (COp.slice 5 (CX.t 12) none (some (CX.t 14)) none), (some (10, true))⟩,
    ⟨(some 16), (COp.call (CX.c (CVal.func 27 [] [])) [CX.t 11, CX.t 15]), (some (10, true))⟩,
    ⟨(some 17), (COp.pick (CX.t 10) (CX.t 16) (CX.c (CVal.bool false))), none⟩,
    ⟨(some 4), (COp.move (CX.t 17)), none⟩])
  (.ret))⟩
theorem ok15 : compFunc prog glb 15 p15 = some c15 := by kernel_rfl
/-- signalbox/signalboxref1.Prefix -/
def p16 : List Plan := [⟨[(5, DK.quiet [0]), (4, DK.quiet [0]), (6, DK.quiet [0]), (7, DK.quiet [0]), (1, DK.quiet [0]), (0, DK.quiet [0]), (2, DK.quiet [0]), (3, DK.quiet [0]), (8, DK.quiet [0])], 0, [0, 0, 3, 7, 0, 0, 48, 112, 255]⟩]
def c16 : CFunc := ⟨26, [CRV.tmp 4],
 .seq (.region [⟨(some 4), (COp.move (CX.c (CVal.bool false))), none⟩])
 (.seq (.seq (.region [⟨(some 6), (COp.move (CX.t 0)), none⟩,
     ⟨(some 7), (COp.len (LK.slice) (CX.t 6)), none⟩,
     ⟨(some 8), (COp.move (CX.t 1)), none⟩,
     ⟨(some 9), (COp.len (LK.slice) (CX.t 8)), none⟩,
     ⟨(some 10), (COp.bin (Go.BinOp.gtr) (CX.t 7) (CX.t 9)), none⟩])
   (.cond (CX.t 10) (.seq (.region [⟨(some 4), (COp.move (CX.c (CVal.bool false))), none⟩])
     (.ret))
    (.skip)))
  (.seq (.seq (.region [⟨(some 5), (COp.move (CX.c (CVal.int (Go.IntKind.i64) 0))), none⟩])
    (.block 0 (.loop (.seq (.seq (.region [⟨(some 11), (COp.move (CX.t 5)), none⟩,
          ⟨(some 12), (COp.move (CX.t 0)), none⟩,
          ⟨(some 13), (COp.len (LK.slice) (CX.t 12)), none⟩,
          ⟨(some 14), (COp.bin (Go.BinOp.lss) (CX.t 11) (CX.t 13)), none⟩])
        (.cond (CX.t 14) (.skip)
         (.exit 0)))
       (.seq (.block 1 (.seq (.draw [⟨5, ⟨(some 22), (COp.move (CX.t 5)), none⟩, (DK.quiet [0])⟩,
            ⟨4, ⟨(some 21), (COp.move (CX.t 1)), none⟩, (DK.quiet [0])⟩,
            ⟨6, ⟨(some 23), (COp.indexAddr 5 (CX.t 21) (CX.t 22)), none⟩, (DK.quiet [0])⟩,
            ⟨7, ⟨(some 24), (COp.load true 5 (CX.t 23)), none⟩, (DK.quiet [0])⟩,
            ⟨1, ⟨(some 18), (COp.move (CX.t 5)), none⟩, (DK.quiet [0])⟩,
            ⟨0, ⟨(some 17), (COp.move (CX.t 0)), none⟩, (DK.quiet [0])⟩,
            ⟨2, ⟨(some 19), (COp.indexAddr 5 (CX.t 17) (CX.t 18)), none⟩, (DK.quiet [0])⟩,
            ⟨3, ⟨(some 20), (COp.load true 5 (CX.t 19)), none⟩, (DK.quiet [0])⟩,
            ⟨8, ⟨(some 25), (COp.eqS [PK.int, PK.int, PK.int, PK.int, PK.int] true (CX.t 20) (CX.t 24)), none⟩, (DK.quiet [0])⟩] 0)
          (.cond (CX.t 25) (.seq (.region [⟨(some 4), (COp.move (CX.c (CVal.bool false))), none⟩])
            (.ret))
           (.skip))))
        (.region [⟨(some 15), (COp.move (CX.t 5)), none⟩,
          ⟨(some 16), (COp.bin (Go.BinOp.add) (CX.t 15) (CX.c (CVal.int (Go.IntKind.i64) 1))), none⟩,
          ⟨(some 5), (COp.move (CX.t 16)), none⟩]))))))
   (.seq (.region [⟨(some 4), (COp.move (CX.c (CVal.bool true))), none⟩])
    (.ret))))⟩
theorem ok16 : compFunc prog glb 16 p16 = some c16 := by kernel_rfl
/-- signalbox/signalboxref1.Ints -/
def p17 : List Plan := [⟨[(5, DK.quiet [0]), (4, DK.quiet [0]), (6, DK.quiet [0]), (7, DK.quiet [0]), (1, DK.quiet [0]), (0, DK.quiet [0]), (2, DK.quiet [0]), (3, DK.quiet [0]), (8, DK.quiet [0])], 0, [0, 0, 3, 7, 0, 0, 48, 112, 255]⟩]
def c17 : CFunc := ⟨26, [CRV.tmp 4],
 .seq (.region [⟨(some 4), (COp.move (CX.c (CVal.bool false))), none⟩])
 (.seq (.seq (.region [⟨(some 6), (COp.move (CX.t 0)), none⟩,
     ⟨(some 7), (COp.len (LK.slice) (CX.t 6)), none⟩,
     ⟨(some 8), (COp.move (CX.t 1)), none⟩,
     ⟨(some 9), (COp.len (LK.slice) (CX.t 8)), none⟩,
     ⟨(some 10), (COp.bin (Go.BinOp.neq) (CX.t 7) (CX.t 9)), none⟩])
   (.cond (CX.t 10) (.seq (.region [⟨(some 4), (COp.move (CX.c (CVal.bool false))), none⟩])
     (.ret))
    (.skip)))
  (.seq (.seq (.region [⟨(some 5), (COp.move (CX.c (CVal.int (Go.IntKind.i64) 0))), none⟩])
    (.block 0 (.loop (.seq (.seq (.region [⟨(some 11), (COp.move (CX.t 5)), none⟩,
          ⟨(some 12), (COp.move (CX.t 0)), none⟩,
          ⟨(some 13), (COp.len (LK.slice) (CX.t 12)), none⟩,
          ⟨(some 14), (COp.bin (Go.BinOp.lss) (CX.t 11) (CX.t 13)), none⟩])
        (.cond (CX.t 14) (.skip)
         (.exit 0)))
       (.seq (.block 1 (.seq (.draw [⟨5, ⟨(some 22), (COp.move (CX.t 5)), none⟩, (DK.quiet [0])⟩,
            ⟨4, ⟨(some 21), (COp.move (CX.t 1)), none⟩, (DK.quiet [0])⟩,
            ⟨6, ⟨(some 23), (COp.indexAddr 1 (CX.t 21) (CX.t 22)), none⟩, (DK.quiet [0])⟩,
            ⟨7, ⟨(some 24), (COp.load false 1 (CX.t 23)), none⟩, (DK.quiet [0])⟩,
            ⟨1, ⟨(some 18), (COp.move (CX.t 5)), none⟩, (DK.quiet [0])⟩,
            ⟨0, ⟨(some 17), (COp.move (CX.t 0)), none⟩, (DK.quiet [0])⟩,
            ⟨2, ⟨(some 19), (COp.indexAddr 1 (CX.t 17) (CX.t 18)), none⟩, (DK.quiet [0])⟩,
            ⟨3, ⟨(some 20), (COp.load false 1 (CX.t 19)), none⟩, (DK.quiet [0])⟩,
            ⟨8, ⟨(some 25), (COp.bin (Go.BinOp.neq) (CX.t 20) (CX.t 24)), none⟩, (DK.quiet [0])⟩] 0)
          (.cond (CX.t 25) (.seq (.region [⟨(some 4), (COp.move (CX.c (CVal.bool false))), none⟩])
            (.ret))
           (.skip))))
        (.region [⟨(some 15), (COp.move (CX.t 5)), none⟩,
          ⟨(some 16), (COp.bin (Go.BinOp.add) (CX.t 15) (CX.c (CVal.int (Go.IntKind.i64) 1))), none⟩,
          ⟨(some 5), (COp.move (CX.t 16)), none⟩]))))))
   (.seq (.region [⟨(some 4), (COp.move (CX.c (CVal.bool true))), none⟩])
    (.ret))))⟩
theorem ok17 : compFunc prog glb 17 p17 = some c17 := by kernel_rfl
/-- signalbox/event.Outputs -/
def p18 : List Plan := []
def c18 : CFunc := ⟨21, [CRV.tmp 2],
 .seq (.region [⟨(some 2), (COp.move (CX.c (CVal.nilSlice))), none⟩])
 (.seq (.seq (.region [⟨(some 5), (COp.move (CX.t 0)), none⟩,
     ⟨(some 6), (COp.len (LK.slice) (CX.t 5)), none⟩,
     ⟨(some 7), (COp.move (CX.c (CVal.int (Go.IntKind.i64) 0))), none⟩])
   (.block 0 (.loop (.seq (.region [⟨(some 8), (COp.bin (Go.BinOp.lss) (CX.t 7) (CX.t 6)), none⟩])
      (.seq (.cond (CX.t 8) (.skip)
        (.exit 0))
       (.seq (.block 1 (.seq (.region [⟨(some 9), (COp.indexAddr 5 (CX.t 5) (CX.t 7)), none⟩,
            ⟨(some 10), (COp.load true 5 (CX.t 9)), none⟩,
            ⟨(some 4), (COp.new [CVal.int (Go.IntKind.i64) 0, CVal.int (Go.IntKind.i64) 0, CVal.int (Go.IntKind.i64) 0, CVal.int (Go.IntKind.i64) 0, CVal.int (Go.IntKind.i64) 0]), none⟩,
            ⟨none, (COp.store 5 (CX.t 4) (CX.t 10)), none⟩])
          (.seq (.region [⟨(some 11), (COp.fieldAddr 1 (CX.t 4)), none⟩,
             ⟨(some 12), (COp.load false 1 (CX.t 11)), none⟩,
             ⟨(some 13), (COp.bin (Go.BinOp.eql) (CX.t 12) (CX.c (CVal.int (Go.IntKind.i64) 1))), none⟩])
           (.cond (CX.t 13) (.region [⟨(some 14), (COp.move (CX.t 2)), none⟩,
              ⟨(some 15), (COp.fieldAddr 3 (CX.t 4)), none⟩,
              ⟨(some 16), (COp.load false 1 (CX.t 15)), none⟩,
              ⟨(some 17), (COp.buildSlice [CVal.int (Go.IntKind.i64) 0] 1 [(0, 1, CX.t 16)]), none⟩,
              ⟨(some 18), (COp.append 1 8 (CX.t 14) (CX.t 17)), none⟩,
              ⟨(some 2), (COp.move (CX.t 18)), none⟩])
            (.skip)))))
        (.region [⟨(some 19), (COp.bin (Go.BinOp.add) (CX.t 7) (CX.c (CVal.int (Go.IntKind.i64) 1))), none⟩,
          ⟨(some 7), (COp.move (CX.t 19)), none⟩])))))))
  (.seq (.region [⟨(some 20), (COp.move (CX.t 2)), none⟩,
     ⟨(some 2), (COp.move (CX.t 20)), none⟩])
   (.ret)))⟩
theorem ok18 : compFunc prog glb 18 p18 = some c18 := by kernel_rfl
/-- signalbox/signalboxref1.Outputs -/
def p19 : List Plan := []
def c19 : CFunc := ⟨27, [CRV.tmp 2],
 .seq (.region [⟨(some 2), (COp.move (CX.c (CVal.nilSlice))), none⟩])
 (.seq (.region [⟨(some 5), (COp.buildSlice [CVal.int (Go.IntKind.i64) 0] 0 []), none⟩,
    ⟨(some 3), (COp.move (CX.t 5)), none⟩])
  (.seq (.seq (.region [⟨(some 4), (COp.move (CX.c (CVal.int (Go.IntKind.i64) 0))), none⟩])
    (.block 0 (.loop (.seq (.seq (.region [⟨(some 6), (COp.move (CX.t 4)), none⟩,
          ⟨(some 7), (COp.move (CX.t 0)), none⟩,
          ⟨(some 8), (COp.len (LK.slice) (CX.t 7)), none⟩,
          ⟨(some 9), (COp.bin (Go.BinOp.lss) (CX.t 6) (CX.t 8)), none⟩])
        (.cond (CX.t 9) (.skip)
         (.exit 0)))
       (.seq (.block 1 (.seq (.region [⟨(some 12), (COp.move (CX.t 0)), none⟩,
            ⟨(some 13), (COp.move (CX.t 4)), none⟩,
            ⟨(some 14), (COp.indexAddr 5 (CX.t 12) (CX.t 13)), none⟩,
            ⟨(some 15), (COp.fieldAddr 1 (CX.t 14)), none⟩,
            ⟨(some 16), (COp.load false 1 (CX.t 15)), none⟩,
            ⟨(some 17), (COp.bin (Go.BinOp.eql) (CX.t 16) (CX.c (CVal.int (Go.IntKind.i64) 1))), none⟩])
          (.cond (CX.t 17) (.region [⟨(some 18), (COp.move (CX.t 3)), none⟩,
             ⟨(some 19), (COp.move (CX.t 0)), none⟩,
             ⟨(some 20), (COp.move (CX.t 4)), none⟩,
             ⟨(some 21), (COp.indexAddr 5 (CX.t 19) (CX.t 20)), none⟩,
             ⟨(some 22), (COp.fieldAddr 3 (CX.t 21)), none⟩,
             ⟨(some 23), (COp.load false 1 (CX.t 22)), none⟩,
             ⟨(some 24), (COp.buildSlice [CVal.int (Go.IntKind.i64) 0] 1 [(0, 1, CX.t 23)]), none⟩,
             ⟨(some 25), (COp.append 1 8 (CX.t 18) (CX.t 24)), none⟩,
             ⟨(some 3), (COp.move (CX.t 25)), none⟩])
           (.skip))))
        (.region [⟨(some 10), (COp.move (CX.t 4)), none⟩,
          ⟨(some 11), (COp.bin (Go.BinOp.add) (CX.t 10) (CX.c (CVal.int (Go.IntKind.i64) 1))), none⟩,
          ⟨(some 4), (COp.move (CX.t 11)), none⟩]))))))
   (.seq (.region [⟨(some 26), (COp.move (CX.t 3)), none⟩,
      ⟨(some 2), (COp.move (CX.t 26)), none⟩])
    (.ret))))⟩
theorem ok19 : compFunc prog glb 19 p19 = some c19 := by kernel_rfl
/-- signalbox/event.words -/
def p22 : List Plan := []
def c22 : CFunc := ⟨29, [CRV.tmp 2],
 .seq (.region [⟨(some 2), (COp.move (CX.c (CVal.nilSlice))), none⟩])
 (.seq (.region [⟨(some 3), (COp.move (CX.c (CVal.int (Go.IntKind.i64) 0))), none⟩])
  (.seq (.seq (.region [⟨(some 6), (COp.move (CX.t 0)), none⟩,
      ⟨(some 7), (COp.rangeStr (CX.t 6)), none⟩])
    (.block 0 (.loop (.seq (.region [⟨(some 8), (COp.nextStr (CX.t 7)), none⟩,
         ⟨(some 9), (COp.extract (CX.t 8) 0), none⟩])
       (.seq (.cond (CX.t 9) (.skip)
         (.exit 0))
        (.block 1 (.seq (.region [⟨(some 10), (COp.extract (CX.t 8) 1), none⟩,
            ⟨(some 11), (COp.extract (CX.t 8) 2), none⟩,
            ⟨(some 4), (COp.move (CX.t 10)), none⟩,
            ⟨(some 5), (COp.move (CX.t 11)), none⟩])
          (.seq (.region [⟨(some 12), (COp.move (CX.t 5)), none⟩,
             ⟨(some 13), (COp.bin (Go.BinOp.eql) (CX.t 12) (CX.c (CVal.int (Go.IntKind.i32) 32))), none⟩])
           (.cond (CX.t 13) (.seq (.region [⟨(some 14), (COp.move (CX.t 2)), none⟩,
               ⟨(some 15), (COp.move (CX.t 0)), none⟩,
               ⟨(some 16), (COp.move (CX.t 3)), none⟩,
               ⟨(some 17), (COp.move (CX.t 4)), none⟩,
               ⟨(some 18), (COp.sliceStr (CX.t 15) (some (CX.t 16)) (some (CX.t 17))), none⟩,
               ⟨(some 19), (COp.buildSlice [CVal.str []] 1 [(0, 1, CX.t 18)]), none⟩,
               ⟨(some 20), (COp.append 1 16 (CX.t 14) (CX.t 19)), none⟩,
               ⟨(some 2), (COp.move (CX.t 20)), none⟩])
             (.region [⟨(some 21), (COp.move (CX.t 4)), none⟩,
               ⟨(some 22), (COp.bin (Go.BinOp.add) (CX.t 21) (CX.c (CVal.int (Go.IntKind.i64) 1))), none⟩,
               ⟨(some 3), (COp.move (CX.t 22)), none⟩]))
            (.skip))))))))))
   (.seq (.region [⟨(some 23), (COp.move (CX.t 2)), none⟩,
      ⟨(some 24), (COp.move (CX.t 0)), none⟩,
      ⟨(some 25), (COp.move (CX.t 3)), none⟩,
      ⟨(some 26), (COp.sliceStr (CX.t 24) (some (CX.t 25)) none), none⟩,
      ⟨(some 27), (COp.buildSlice [CVal.str []] 1 [(0, 1, CX.t 26)]), none⟩,
      ⟨(some 28), (COp.append 1 16 (CX.t 23) (CX.t 27)), none⟩,
      ⟨(some 2), (COp.move (CX.t 28)), none⟩])
    (.ret))))⟩
theorem ok22 : compFunc prog glb 22 p22 = some c22 := by kernel_rfl
/-- signalbox/event.number[int] -/
def p23 : List Plan := []
def c23 : CFunc := ⟨11, [CRV.tmp 2],
 .seq (.region [⟨(some 2), (COp.move (CX.c (CVal.int (Go.IntKind.i64) 0))), none⟩])
 (.seq (.region [⟨(some 6), (COp.move (CX.t 0)), none⟩,
    ⟨(some 7), (COp.call (CX.c (CVal.func 32 [] [])) [CX.t 6, CX.c (CVal.int (Go.IntKind.i64) 10), CX.c (CVal.int (Go.IntKind.i64) 64)]), none⟩,
    ⟨(some 5), (COp.move (CX.t 7)), none⟩,
    ⟨(some 8), (COp.extract (CX.t 5) 0), none⟩,
    ⟨(some 9), (COp.extract (CX.t 5) 1), none⟩,
    ⟨(some 3), (COp.move (CX.t 8)), none⟩,
    ⟨(some 4), (COp.move (CX.t 9)), none⟩])
  (.seq (.region [⟨(some 10), (COp.move (CX.t 3)), none⟩,
     ⟨(some 2), (COp.move (CX.t 10)), none⟩])
   (.ret)))⟩
theorem ok23 : compFunc prog glb 23 p23 = some c23 := by kernel_rfl
/-- signalbox/event.kind -/
def p24 : List Plan := []
def c24 : CFunc := ⟨13, [CRV.tmp 2],
 .seq (.region [⟨(some 2), (COp.move (CX.c (CVal.int (Go.IntKind.i64) 0))), none⟩])
 (.seq (.seq (.region [⟨(some 3), (COp.move (CX.c (CVal.int (Go.IntKind.i64) 1))), none⟩])
   (.block 0 (.loop (.seq (.seq (.region [⟨(some 4), (COp.move (CX.t 3)), none⟩,
         ⟨(some 5), (COp.bin (Go.BinOp.leq) (CX.t 4) (CX.c (CVal.int (Go.IntKind.i64) 6))), none⟩])
       (.cond (CX.t 5) (.skip)
        (.exit 0)))
      (.seq (.block 1 (.seq (.region [⟨(some 8), (COp.move (CX.t 3)), none⟩,
           ⟨(some 9), (COp.call (CX.c (CVal.func 8 [] [])) [CX.t 8]), none⟩,
           ⟨(some 10), (COp.move (CX.t 0)), none⟩,
           ⟨(some 11), (COp.bin (Go.BinOp.eql) (CX.t 9) (CX.t 10)), none⟩])
         (.cond (CX.t 11) (.seq (.region [⟨(some 12), (COp.move (CX.t 3)), none⟩,
             ⟨(some 2), (COp.move (CX.t 12)), none⟩])
           (.ret))
          (.skip))))
       (.region [⟨(some 6), (COp.move (CX.t 3)), none⟩,
         ⟨(some 7), (COp.bin (Go.BinOp.add) (CX.t 6) (CX.c (CVal.int (Go.IntKind.i64) 1))), none⟩,
         ⟨(some 3), (COp.move (CX.t 7)), none⟩]))))))
  (.seq (.region [⟨(some 2), (COp.move (CX.c (CVal.int (Go.IntKind.i64) 0))), none⟩])
   (.ret)))⟩
theorem ok24 : compFunc prog glb 24 p24 = some c24 := by kernel_rfl
/-- signalbox/signalboxref1.Words -/
def p25 : List Plan := []
def c25 : CFunc := ⟨33, [CRV.tmp 2],
 .seq (.region [⟨(some 2), (COp.move (CX.c (CVal.nilSlice))), none⟩])
 (.seq (.region [⟨(some 6), (COp.buildSlice [CVal.str []] 0 []), none⟩,
    ⟨(some 3), (COp.move (CX.t 6)), none⟩])
  (.seq (.region [⟨(some 4), (COp.move (CX.c (CVal.int (Go.IntKind.i64) 0))), none⟩])
   (.seq (.seq (.region [⟨(some 5), (COp.move (CX.c (CVal.int (Go.IntKind.i64) 0))), none⟩])
     (.block 0 (.loop (.seq (.seq (.region [⟨(some 7), (COp.move (CX.t 5)), none⟩,
           ⟨(some 8), (COp.move (CX.t 0)), none⟩,
           ⟨(some 9), (COp.len (LK.str) (CX.t 8)), none⟩,
           ⟨(some 10), (COp.bin (Go.BinOp.leq) (CX.t 7) (CX.t 9)), none⟩])
         (.cond (CX.t 10) (.skip)
          (.exit 0)))
        (.seq (.block 1 (.seq (.region [⟨(some 13), (COp.move (CX.t 5)), none⟩,
             ⟨(some 14), (COp.move (CX.t 0)), none⟩,
             ⟨(some 15), (COp.len (LK.str) (CX.t 14)), none⟩,
             ⟨(some 16), (COp.bin (Go.BinOp.eql) (CX.t 13) (CX.t 15)), none⟩,
             ⟨(some 17), (COp.move (CX.t 16)), none⟩,
             ⟨(some 18), (COp.move (CX.t 0)), (some (17, false))⟩,
             ⟨(some 19), (COp.move (CX.t 5)), (some (17, false))⟩,
             ⟨(some 20), (COp.indexStr (CX.t 18) (CX.t 19)), (some (17, false))⟩,
             ⟨(some 21), (COp.bin (Go.BinOp.eql) (CX.t 20) (CX.c (CVal.int (Go.IntKind.u8) 32))), (some (17, false))⟩,
             ⟨(some 22), (COp.pick (CX.t 17) (CX.c (CVal.bool true)) (CX.t 21)), none⟩])
           (.cond (CX.t 22) (.seq (.region [⟨(some 23), (COp.move (CX.t 3)), none⟩,
               ⟨(some 24), (COp.move (CX.t 0)), none⟩,
               ⟨(some 25), (COp.move (CX.t 4)), none⟩,
               ⟨(some 26), (COp.move (CX.t 5)), none⟩,
               ⟨(some 27), (COp.sliceStr (CX.t 24) (some (CX.t 25)) (some (CX.t 26))), none⟩,
               ⟨(some 28), (COp.buildSlice [CVal.str []] 1 [(0, 1, CX.t 27)]), none⟩,
               ⟨(some 29), (COp.append 1 16 (CX.t 23) (CX.t 28)), none⟩,
               ⟨(some 3), (COp.move (CX.t 29)), none⟩])
             (.region [⟨(some 30), (COp.move (CX.t 5)), none⟩,
               ⟨(some 31), (COp.bin (Go.BinOp.add) (CX.t 30) (CX.c (CVal.int (Go.IntKind.i64) 1))), none⟩,
               ⟨(some 4), (COp.move (CX.t 31)), none⟩]))
            (.skip))))
         (.region [⟨(some 11), (COp.move (CX.t 5)), none⟩,
           ⟨(some 12), (COp.bin (Go.BinOp.add) (CX.t 11) (CX.c (CVal.int (Go.IntKind.i64) 1))), none⟩,
           ⟨(some 5), (COp.move (CX.t 12)), none⟩]))))))
    (.seq (.region [⟨(some 32), (COp.move (CX.t 3)), none⟩,
       ⟨(some 2), (COp.move (CX.t 32)), none⟩])
     (.ret)))))⟩
theorem ok25 : compFunc prog glb 25 p25 = some c25 := by kernel_rfl
/-- signalbox/signalboxref1.Num -/
def p26 : List Plan := []
def c26 : CFunc := ⟨74, [CRV.tmp 2, CRV.tmp 3],
 .seq (.region [⟨(some 2), (COp.move (CX.c (CVal.int (Go.IntKind.i64) 0))), none⟩,
   ⟨(some 3), (COp.move (CX.c (CVal.bool false))), none⟩])
 (.seq (.region [⟨(some 8), (COp.move (CX.t 0)), none⟩,
    ⟨(some 4), (COp.move (CX.t 8)), none⟩])
  (.seq (.seq (.region [⟨(some 9), (COp.move (CX.t 0)), none⟩,
      ⟨(some 10), (COp.len (LK.str) (CX.t 9)), none⟩,
      ⟨(some 11), (COp.bin (Go.BinOp.gtr) (CX.t 10) (CX.c (CVal.int (Go.IntKind.i64) 0))), none⟩,
      ⟨(some 12), (COp.move (CX.t 11)), none⟩,
      ⟨(some 13), (COp.move (CX.t 0)), (some (12, true))⟩,
      ⟨(some 14), (COp.indexStr (CX.t 13) (CX.c (CVal.int (Go.IntKind.i64) 0))), (some (12, true))⟩,
      ⟨(some 15), (COp.bin (Go.BinOp.eql) (CX.t 14) (CX.c (CVal.int (Go.IntKind.u8) 45))), (some (12, true))⟩,
      ⟨(some 16), (COp.pick (CX.t 12) (CX.t 15) (CX.c (CVal.bool false))), none⟩])
    (.cond (CX.t 16) (.region [⟨(some 17), (COp.move (CX.t 0)), none⟩,
       ⟨(some 18), (COp.sliceStr (CX.t 17) (some (CX.c (CVal.int (Go.IntKind.i64) 1))) none), none⟩,
       ⟨(some 4), (COp.move (CX.t 18)), none⟩])
     (.skip)))
   (.seq (.seq (.region [⟨(some 19), (COp.move (CX.t 4)), none⟩,
       ⟨(some 20), (COp.len (LK.str) (CX.t 19)), none⟩,
       ⟨(some 21), (COp.bin (Go.BinOp.eql) (CX.t 20) (CX.c (CVal.int (Go.IntKind.i64) 0))), none⟩,
       ⟨(some 22), (COp.move (CX.t 21)), none⟩,
       ⟨(some 23), (COp.move (CX.t 4)), (some (22, false))⟩,
       ⟨(some 24), (COp.len (LK.str) (CX.t 23)), (some (22, false))⟩,
       ⟨(some 25), (COp.bin (Go.BinOp.gtr) (CX.t 24) (CX.c (CVal.int (Go.IntKind.i64) 19))), (some (22, false))⟩,
       ⟨(some 26), (COp.pick (CX.t 22) (CX.c (CVal.bool true)) (CX.t 25)), none⟩,
       ⟨(some 27), (COp.move (CX.t 26)), none⟩,
       ⟨(some 28), (COp.move (CX.t 4)), (some (27, false))⟩,
       ⟨(some 29), (COp.indexStr (CX.t 28) (CX.c (CVal.int (Go.IntKind.i64) 0))), (some (27, false))⟩,
       ⟨(some 30), (COp.bin (Go.BinOp.eql) (CX.t 29) (CX.c (CVal.int (Go.IntKind.u8) 48))), (some (27, false))⟩,
       ⟨(some 31), (COp.move (CX.t 30)), (some (27, false))⟩,
       ⟨(some 32), (COp.move (CX.t 0)), (some (31, true))⟩,
       ⟨(some 33), (COp.bin (Go.BinOp.neq) (CX.t 32) (CX.c (CVal.str [48]))), (some (31, true))⟩,
       ⟨(some 34), (COp.pick (CX.t 31) (CX.t 33) (CX.c (CVal.bool false))), (some (27, false))⟩,
       ⟨(some 35), (COp.pick (CX.t 27) (CX.c (CVal.bool true)) (CX.t 34)), none⟩])
     (.cond (CX.t 35) (.seq (.region [⟨(some 2), (COp.move (CX.c (CVal.int (Go.IntKind.i64) 0))), none⟩,
         ⟨(some 3), (COp.move (CX.c (CVal.bool false))), none⟩])
       (.ret))
      (.skip)))
    (.seq (.region [⟨(some 5), (COp.move (CX.c (CVal.int (Go.IntKind.i64) 0))), none⟩])
     (.seq (.seq (.region [⟨(some 6), (COp.move (CX.c (CVal.int (Go.IntKind.i64) 0))), none⟩])
       (.block 0 (.loop (.seq (.seq (.region [⟨(some 36), (COp.move (CX.t 6)), none⟩,
             ⟨(some 37), (COp.move (CX.t 4)), none⟩,
             ⟨(some 38), (COp.len (LK.str) (CX.t 37)), none⟩,
             ⟨(some 39), (COp.bin (Go.BinOp.lss) (CX.t 36) (CX.t 38)), none⟩])
           (.cond (CX.t 39) (.skip)
            (.exit 0)))
          (.seq (.block 1 (.seq (.region [⟨(some 42), (COp.move (CX.t 4)), none⟩,
               ⟨(some 43), (COp.move (CX.t 6)), none⟩,
               ⟨(some 44), (COp.indexStr (CX.t 42) (CX.t 43)), none⟩,
               ⟨(some 45), (COp.conv (Go.IntKind.i64) (CX.t 44)), none⟩,
               ⟨(some 46), (COp.bin (Go.BinOp.sub) (CX.t 45) (CX.c (CVal.int (Go.IntKind.i64) 48))), none⟩,
               ⟨(some 7), (COp.move (CX.t 46)), none⟩])
             (.seq (.seq (.region [⟨(some 47), (COp.move (CX.t 7)), none⟩,
                 ⟨(some 48), (COp.bin (Go.BinOp.lss) (CX.t 47) (CX.c (CVal.int (Go.IntKind.i64) 0))), none⟩,
                 ⟨(some 49), (COp.move (CX.t 48)), none⟩,
                 ⟨(some 50), (COp.move (CX.t 7)), (some (49, false))⟩,
                 ⟨(some 51), (COp.bin (Go.BinOp.gtr) (CX.t 50) (CX.c (CVal.int (Go.IntKind.i64) 9))), (some (49, false))⟩,
                 ⟨(some 52), (COp.pick (CX.t 49) (CX.c (CVal.bool true)) (CX.t 51)), none⟩,
                 ⟨(some 53), (COp.move (CX.t 52)), none⟩,
                 ⟨(some 54), (COp.move (CX.t 5)), (some (53, false))⟩,
                 ⟨(some 55), (COp.move (CX.t 7)), (some (53, false))⟩,
                 ⟨(some 56), (COp.bin (Go.BinOp.add) (CX.c (CVal.int (Go.IntKind.i64) (-9223372036854775808))) (CX.t 55)), (some (53, false))⟩,
                 ⟨(some 57), (COp.bin (Go.BinOp.quo) (CX.t 56) (CX.c (CVal.int (Go.IntKind.i64) 10))), (some (53, false))⟩,
                 ⟨(some 58), (COp.bin (Go.BinOp.lss) (CX.t 54) (CX.t 57)), (some (53, false))⟩,
                 ⟨(some 59), (COp.pick (CX.t 53) (CX.c (CVal.bool true)) (CX.t 58)), none⟩])
               (.cond (CX.t 59) (.seq (.region [⟨(some 2), (COp.move (CX.c (CVal.int (Go.IntKind.i64) 0))), none⟩,
                   ⟨(some 3), (COp.move (CX.c (CVal.bool false))), none⟩])
                 (.ret))
                (.skip)))
              (.region [⟨(some 60), (COp.move (CX.t 5)), none⟩,
                ⟨(some 61), (COp.bin (Go.BinOp.mul) (CX.c (CVal.int (Go.IntKind.i64) 10)) (CX.t 60)), none⟩,
                ⟨(some 62), (COp.move (CX.t 7)), none⟩,
                ⟨(some 63), (COp.bin (Go.BinOp.sub) (CX.t 61) (CX.t 62)), none⟩,
                ⟨(some 5), (COp.move (CX.t 63)), none⟩]))))
           (.region [⟨(some 40), (COp.move (CX.t 6)), none⟩,
             ⟨(some 41), (COp.bin (Go.BinOp.add) (CX.t 40) (CX.c (CVal.int (Go.IntKind.i64) 1))), none⟩,
             ⟨(some 6), (COp.move (CX.t 41)), none⟩]))))))
      (.seq (.seq (.region [⟨(some 64), (COp.move (CX.t 4)), none⟩,
          ⟨(some 65), (COp.len (LK.str) (CX.t 64)), none⟩,
          ⟨(some 66), (COp.move (CX.t 0)), none⟩,
          ⟨(some 67), (COp.len (LK.str) (CX.t 66)), none⟩,
          ⟨(some 68), (COp.bin (Go.BinOp.lss) (CX.t 65) (CX.t 67)), none⟩])
        (.cond (CX.t 68) (.seq (.region [⟨(some 69), (COp.move (CX.t 5)), none⟩,
            ⟨(some 2), (COp.move (CX.t 69)), none⟩,
            ⟨(some 3), (COp.move (CX.c (CVal.bool true))), none⟩])
          (.ret))
         (.skip)))
       (.seq (.seq (.region [⟨(some 70), (COp.move (CX.t 5)), none⟩,
           ⟨(some 71), (COp.bin (Go.BinOp.eql) (CX.t 70) (CX.c (CVal.int (Go.IntKind.i64) (-9223372036854775808)))), none⟩])
         (.cond (CX.t 71) (.seq (.region [⟨(some 2), (COp.move (CX.c (CVal.int (Go.IntKind.i64) 0))), none⟩,
             ⟨(some 3), (COp.move (CX.c (CVal.bool false))), none⟩])
           (.ret))
          (.skip)))
        (.seq (.region [⟨(some 72), (COp.move (CX.t 5)), none⟩,
           ⟨(some 73), (COp.un (Go.UnOp.neg) (CX.t 72)), none⟩,
           ⟨(some 2), (COp.move (CX.t 73)), none⟩,
           ⟨(some 3), (COp.move (CX.c (CVal.bool true))), none⟩])
         (.ret)))))))))⟩
theorem ok26 : compFunc prog glb 26 p26 = some c26 := by kernel_rfl
/-- slices.Equal[[]signalbox/api.Event,signalbox/api.Event] -/
def p27 : List Plan := [⟨[(5, DK.quiet [0]), (4, DK.quiet [0]), (6, DK.quiet [0]), (7, DK.quiet [0]), (1, DK.quiet [0]), (0, DK.quiet [0]), (2, DK.quiet [0]), (3, DK.quiet [0]), (8, DK.quiet [0])], 0, [0, 0, 3, 7, 0, 0, 48, 112, 255]⟩]
def c27 : CFunc := ⟨26, [CRV.tmp 4],
 .seq (.region [⟨(some 4), (COp.move (CX.c (CVal.bool false))), none⟩])
 (.seq (.seq (.region [⟨(some 6), (COp.move (CX.t 0)), none⟩,
     ⟨(some 7), (COp.len (LK.slice) (CX.t 6)), none⟩,
     ⟨(some 8), (COp.move (CX.t 1)), none⟩,
     ⟨(some 9), (COp.len (LK.slice) (CX.t 8)), none⟩,
     ⟨(some 10), (COp.bin (Go.BinOp.neq) (CX.t 7) (CX.t 9)), none⟩])
   (.cond (CX.t 10) (.seq (.region [⟨(some 4), (COp.move (CX.c (CVal.bool false))), none⟩])
     (.ret))
    (.skip)))
  (.seq (.seq (.region [⟨(some 11), (COp.move (CX.t 0)), none⟩,
      ⟨(some 12), (COp.len (LK.slice) (CX.t 11)), none⟩,
      ⟨(some 13), (COp.move (CX.c (CVal.int (Go.IntKind.i64) 0))), none⟩])
    (.block 0 (.loop (.seq (.region [⟨(some 14), (COp.bin (Go.BinOp.lss) (CX.t 13) (CX.t 12)), none⟩])
       (.seq (.cond (CX.t 14) (.skip)
         (.exit 0))
        (.seq (.block 1 (.seq (.region [⟨(some 15), (COp.move (CX.t 13)), none⟩,
             ⟨(some 5), (COp.move (CX.t 15)), none⟩])
           (.seq (.draw [⟨5, ⟨(some 21), (COp.move (CX.t 5)), none⟩, (DK.quiet [0])⟩,
              ⟨4, ⟨(some 20), (COp.move (CX.t 1)), none⟩, (DK.quiet [0])⟩,
              ⟨6, ⟨(some 22), (COp.indexAddr 5 (CX.t 20) (CX.t 21)), none⟩, (DK.quiet [0])⟩,
              ⟨7, ⟨(some 23), (COp.load true 5 (CX.t 22)), none⟩, (DK.quiet [0])⟩,
              ⟨1, ⟨(some 17), (COp.move (CX.t 5)), none⟩, (DK.quiet [0])⟩,
              ⟨0, ⟨(some 16), (COp.move (CX.t 0)), none⟩, (DK.quiet [0])⟩,
              ⟨2, ⟨(some 18), (COp.indexAddr 5 (CX.t 16) (CX.t 17)), none⟩, (DK.quiet [0])⟩,
              ⟨3, ⟨(some 19), (COp.load true 5 (CX.t 18)), none⟩, (DK.quiet [0])⟩,
              ⟨8, ⟨(some 24), (COp.eqS [PK.int, PK.int, PK.int, PK.int, PK.int] true (CX.t 19) (CX.t 23)), none⟩, (DK.quiet [0])⟩] 0)
            (.cond (CX.t 24) (.seq (.region [⟨(some 4), (COp.move (CX.c (CVal.bool false))), none⟩])
              (.ret))
             (.skip)))))
         (.region [⟨(some 25), (COp.bin (Go.BinOp.add) (CX.t 13) (CX.c (CVal.int (Go.IntKind.i64) 1))), none⟩,
           ⟨(some 13), (COp.move (CX.t 25)), none⟩])))))))
   (.seq (.region [⟨(some 4), (COp.move (CX.c (CVal.bool true))), none⟩])
    (.ret))))⟩
theorem ok27 : compFunc prog glb 27 p27 = some c27 := by kernel_rfl
end Go.Proofs.YtmppoknfekdbbaaDoor.Cm
