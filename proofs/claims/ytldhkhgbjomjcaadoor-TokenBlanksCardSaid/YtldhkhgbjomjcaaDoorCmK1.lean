/-
  The functions that this seat's laws reach, each as a clean function, and that it is the program's.
-/
import Derived.Test.YtldhkhgbjomjcaaDoorCmC
import Derived.Test.YtldhkhgbjomjcaaDoorProg
import Derived.KernelRfl
import Derived.Lib.LaidTab
import Derived.Lib.ItoaNum
import Derived.Lib.Space
import Derived.Test.YtldhkhgbjomjcaaDoorCmZ
namespace Go.Proofs.YtldhkhgbjomjcaaDoor.Cm
noncomputable abbrev prog := Go.Proofs.Tryd.prog
/-- What the row lists of package variables, as far as the library asks it: the blanks below 128, that the two errors are errors, the powers of ten. -/
def facts (w : World) : Prop := Lib.TabIs prog w "strings.asciiSpace" .u8 Lib.asciiSpaceTab ∧ (∃ t p, w.var? prog "strconv.ErrSyntax" = some #[.iface t p]) ∧ (∃ t p, w.var? prog "strconv.ErrRange" = some #[.iface t p]) ∧ Lib.TabIs prog w "internal/strconv.uint64pow10" .u64 Lib.pow10Tab
abbrev glb : Gl := ⟨0, facts⟩
theorem mixed : prog.follows .mixedOrders = true := by kernel_rfl

/-- signalbox/signalboxlaw21.TokenBlanks -/
def p5 : List Plan := [⟨[(1, DK.quiet [0]), (2, DK.eff), (0, DK.quiet [0, 2]), (3, DK.quiet [2]), (4, DK.quiet [2]), (5, DK.eff), (6, DK.quiet [6]), (7, DK.quiet [6])], 0, [0, 0, 2, 7, 15, 31, 63, 127]⟩, ⟨[(0, DK.eff), (3, DK.quiet [0, 1]), (2, DK.quiet [0, 1]), (4, DK.quiet [0, 1]), (5, DK.quiet [0, 1]), (6, DK.quiet [0, 1]), (1, DK.quiet [0, 1]), (7, DK.quiet [0, 1]), (8, DK.eff), (9, DK.quiet [0, 1, 9]), (10, DK.eff), (13, DK.quiet [0, 1, 9, 11]), (12, DK.quiet [0, 1, 9, 11]), (14, DK.quiet [0, 1, 9, 11]), (15, DK.quiet [0, 1, 9, 11]), (16, DK.quiet [0, 1, 9, 11]), (11, DK.quiet [0, 1, 9, 11]), (17, DK.quiet [0, 1, 9, 11]), (18, DK.eff), (19, DK.eff), (23, DK.alloc 0), (20, DK.quiet [20]), (21, DK.quiet [20]), (24, DK.quiet [20]), (22, DK.quiet [20]), (25, DK.eff)], 1, [0, 0, 0, 0, 12, 28, 60, 126, 255, 0, 1023, 0, 0, 0, 12288, 28672, 61440, 129024, 262143, 524287, 1048575, 2097151, 2097151, 0, 12582911, 33554431]⟩, ⟨[(2, DK.quiet [0]), (1, DK.quiet [0]), (3, DK.quiet [0]), (4, DK.quiet [0]), (0, DK.quiet [0]), (5, DK.quiet [0])], 0, [0, 0, 0, 6, 14, 31]⟩]
def c5 : CFunc := ⟨172, [CRV.tmp 6],
 .seq (.region [⟨(some 6), (COp.move (CX.c (CVal.bool false))), none⟩])
 (.seq (.seq (.region [⟨(some 17), (COp.move (CX.t 0)), none⟩,
     ⟨(some 18), (COp.len (LK.slice) (CX.t 17)), none⟩,
     ⟨(some 19), (COp.bin (Go.BinOp.gtr) (CX.t 18) (CX.c (CVal.int (Go.IntKind.i64) 300))), none⟩,
     ⟨(some 20), (COp.move (CX.t 19)), none⟩,
     ⟨(some 21), (COp.move (CX.t 2)), (some (20, false))⟩,
     ⟨(some 22), (COp.len (LK.slice) (CX.t 21)), (some (20, false))⟩,
     ⟨(some 23), (COp.bin (Go.BinOp.gtr) (CX.t 22) (CX.c (CVal.int (Go.IntKind.i64) 100))), (some (20, false))⟩,
     ⟨(some 24), (COp.pick (CX.t 20) (CX.c (CVal.bool true)) (CX.t 23)), none⟩])
   (.cond (CX.t 24) (.seq (.region [⟨(some 25), (COp.call (CX.c (CVal.func 6 [] [])) []), none⟩,
       ⟨(some 6), (COp.move (CX.t 25)), none⟩])
     (.ret))
    (.skip)))
  (.seq (.region [⟨(some 26), (COp.move (CX.t 0)), none⟩,
     ⟨(some 27), (COp.call (CX.c (CVal.func 11 [] [])) [CX.t 26]), none⟩,
     ⟨(some 7), (COp.move (CX.t 27)), none⟩])
   (.seq (.region [⟨(some 29), (COp.move (CX.t 7)), none⟩,
      ⟨(some 30), (COp.call (CX.c (CVal.func 7 [] [])) [CX.t 29]), none⟩,
      ⟨(some 28), (COp.move (CX.t 30)), none⟩,
      ⟨(some 31), (COp.extract (CX.t 28) 0), none⟩,
      ⟨(some 32), (COp.extract (CX.t 28) 1), none⟩,
      ⟨(some 9), (COp.new [CVal.int (Go.IntKind.i64) 0, CVal.int (Go.IntKind.i64) 0]), none⟩,
      ⟨(some 8), (COp.move (CX.t 31)), none⟩,
      ⟨none, (COp.store 2 (CX.t 9) (CX.t 32)), none⟩])
    (.seq (.seq (.region [⟨(some 33), (COp.fieldAddr 0 (CX.t 9)), none⟩,
        ⟨(some 34), (COp.load false 1 (CX.t 33)), none⟩,
        ⟨(some 35), (COp.bin (Go.BinOp.neq) (CX.t 34) (CX.c (CVal.int (Go.IntKind.i64) 0))), none⟩,
        ⟨(some 36), (COp.move (CX.t 35)), none⟩,
        ⟨(some 37), (COp.move (CX.t 8)), (some (36, false))⟩,
        ⟨(some 38), (COp.len (LK.slice) (CX.t 37)), (some (36, false))⟩,
        ⟨(some 39), (COp.bin (Go.BinOp.eql) (CX.t 38) (CX.c (CVal.int (Go.IntKind.i64) 0))), (some (36, false))⟩,
        ⟨(some 40), (COp.pick (CX.t 36) (CX.c (CVal.bool true)) (CX.t 39)), none⟩])
      (.cond (CX.t 40) (.seq (.draw [⟨1, ⟨(some 42), (COp.move (CX.t 7)), none⟩, (DK.quiet [0])⟩,
          ⟨2, ⟨(some 43), (COp.call (CX.c (CVal.func 12 [] [])) [CX.t 42]), none⟩, (DK.eff)⟩,
          ⟨0, ⟨(some 41), (COp.load true 2 (CX.t 9)), none⟩, (DK.quiet [0, 2])⟩,
          ⟨3, ⟨(some 44), (COp.eqS [PK.int, PK.int] false (CX.t 41) (CX.t 43)), none⟩, (DK.quiet [2])⟩,
          ⟨4, ⟨(some 45), (COp.move (CX.t 44)), none⟩, (DK.quiet [2])⟩,
          ⟨5, ⟨(some 46), (COp.call (CX.c (CVal.func 6 [] [])) []), (some (45, true))⟩, (DK.eff)⟩,
          ⟨6, ⟨(some 47), (COp.pick (CX.t 45) (CX.t 46) (CX.c (CVal.bool false))), none⟩, (DK.quiet [6])⟩,
          ⟨7, ⟨(some 6), (COp.move (CX.t 47)), none⟩, (DK.quiet [6])⟩] 0)
        (.ret))
       (.skip)))
     (.seq (.seq (.region [⟨(some 10), (COp.move (CX.c (CVal.int (Go.IntKind.i64) 0))), none⟩])
       (.block 0 (.loop (.seq (.seq (.region [⟨(some 48), (COp.move (CX.t 10)), none⟩,
             ⟨(some 49), (COp.move (CX.t 2)), none⟩,
             ⟨(some 50), (COp.len (LK.slice) (CX.t 49)), none⟩,
             ⟨(some 51), (COp.bin (Go.BinOp.lss) (CX.t 48) (CX.t 50)), none⟩])
           (.cond (CX.t 51) (.skip)
            (.exit 0)))
          (.seq (.block 1 (.seq (.region [⟨(some 54), (COp.move (CX.t 2)), none⟩,
               ⟨(some 55), (COp.move (CX.t 10)), none⟩,
               ⟨(some 56), (COp.indexAddr 1 (CX.t 54) (CX.t 55)), none⟩,
               ⟨(some 57), (COp.load false 1 (CX.t 56)), none⟩,
               ⟨(some 58), (COp.bin (Go.BinOp.eql) (CX.t 57) (CX.c (CVal.int (Go.IntKind.u8) 125))), none⟩])
             (.cond (CX.t 58) (.seq (.region [⟨(some 59), (COp.call (CX.c (CVal.func 6 [] [])) []), none⟩,
                 ⟨(some 6), (COp.move (CX.t 59)), none⟩])
               (.ret))
              (.skip))))
           (.region [⟨(some 52), (COp.move (CX.t 10)), none⟩,
             ⟨(some 53), (COp.bin (Go.BinOp.add) (CX.t 52) (CX.c (CVal.int (Go.IntKind.i64) 1))), none⟩,
             ⟨(some 10), (COp.move (CX.t 53)), none⟩]))))))
      (.seq (.region [⟨(some 60), (COp.move (CX.t 1)), none⟩,
         ⟨(some 61), (COp.move (CX.t 8)), none⟩,
         ⟨(some 62), (COp.len (LK.slice) (CX.t 61)), none⟩,
         ⟨(some 63), (COp.bin (Go.BinOp.sub) (CX.t 62) (CX.c (CVal.int (Go.IntKind.i64) 1))), none⟩,
         ⟨(some 64), (COp.call (CX.c (CVal.func 13 [] [])) [CX.t 60, CX.c (CVal.int (Go.IntKind.i64) 0), CX.t 63]), none⟩,
         ⟨(some 11), (COp.move (CX.t 64)), none⟩])
       (.seq (.region [⟨(some 65), (COp.buildSlice [CVal.int (Go.IntKind.u8) 0] 3 [(0, 1, CX.c (CVal.int (Go.IntKind.u8) 32)), (1, 1, CX.c (CVal.int (Go.IntKind.u8) 9)), (2, 1, CX.c (CVal.int (Go.IntKind.u8) 123))]), none⟩,
          ⟨(some 66), (COp.move (CX.t 2)), none⟩,
          ⟨(some 67), (COp.append 1 1 (CX.t 65) (CX.t 66)), none⟩,
          ⟨(some 68), (COp.buildSlice [CVal.int (Go.IntKind.u8) 0] 3 [(0, 1, CX.c (CVal.int (Go.IntKind.u8) 125)), (1, 1, CX.c (CVal.int (Go.IntKind.u8) 10)), (2, 1, CX.c (CVal.int (Go.IntKind.u8) 13))]), none⟩,
          ⟨(some 69), (COp.append 1 1 (CX.t 67) (CX.t 68)), none⟩,
          ⟨(some 12), (COp.move (CX.t 69)), none⟩])
        (.seq (.seq (.region [⟨(some 70), (COp.move (CX.t 8)), none⟩,
            ⟨(some 71), (COp.move (CX.t 11)), none⟩,
            ⟨(some 72), (COp.indexAddr 4 (CX.t 70) (CX.t 71)), none⟩,
            ⟨(some 73), (COp.fieldAddr 1 (CX.t 72)), none⟩,
            ⟨(some 74), (COp.load false 1 (CX.t 73)), none⟩,
            ⟨(some 75), (COp.bin (Go.BinOp.lss) (CX.t 74) (CX.c (CVal.int (Go.IntKind.i64) 0))), none⟩,
            ⟨(some 76), (COp.move (CX.t 75)), none⟩,
            ⟨(some 77), (COp.move (CX.t 8)), (some (76, false))⟩,
            ⟨(some 78), (COp.move (CX.t 11)), (some (76, false))⟩,
            ⟨(some 79), (COp.indexAddr 4 (CX.t 77) (CX.t 78)), (some (76, false))⟩,
            ⟨(some 80), (COp.fieldAddr 1 (CX.t 79)), (some (76, false))⟩,
            ⟨(some 81), (COp.load false 1 (CX.t 80)), (some (76, false))⟩,
            ⟨(some 82), (COp.move (CX.t 7)), (some (76, false))⟩,
            ⟨(some 83), (COp.len (LK.slice) (CX.t 82)), (some (76, false))⟩,
            ⟨(some 84), (COp.bin (Go.BinOp.gtr) (CX.t 81) (CX.t 83)), (some (76, false))⟩,
            ⟨(some 85), (COp.pick (CX.t 76) (CX.c (CVal.bool true)) (CX.t 84)), none⟩,
            ⟨(some 86), (COp.move (CX.t 85)), none⟩,
            ⟨(some 87), (COp.move (CX.t 7)), (some (86, false))⟩,
            ⟨(some 88), (COp.len (LK.slice) (CX.t 87)), (some (86, false))⟩,
            ⟨(some 89), (COp.move (CX.t 12)), (some (86, false))⟩,
            ⟨(some 90), (COp.len (LK.slice) (CX.t 89)), (some (86, false))⟩,
            ⟨(some 91), (COp.bin (Go.BinOp.add) (CX.t 88) (CX.t 90)), (some (86, false))⟩,
            ⟨(some 92), (COp.bin (Go.BinOp.gtr) (CX.t 91) (CX.c (CVal.int (Go.IntKind.i64) 4096))), (some (86, false))⟩,
            ⟨(some 93), (COp.pick (CX.t 86) (CX.c (CVal.bool true)) (CX.t 92)), none⟩])
          (.cond (CX.t 93) (.seq (.region [⟨(some 94), (COp.move (CX.t 8)), none⟩,
              ⟨(some 95), (COp.move (CX.t 11)), none⟩,
              ⟨(some 96), (COp.indexAddr 4 (CX.t 94) (CX.t 95)), none⟩,
              ⟨(some 97), (COp.fieldAddr 1 (CX.t 96)), none⟩,
              ⟨(some 98), (COp.load false 1 (CX.t 97)), none⟩,
              ⟨(some 99), (COp.bin (Go.BinOp.geq) (CX.t 98) (CX.c (CVal.int (Go.IntKind.i64) 0))), none⟩,
              ⟨(some 100), (COp.move (CX.t 99)), none⟩,
              ⟨(some 101), (COp.move (CX.t 8)), (some (100, true))⟩,
              ⟨(some 102), (COp.move (CX.t 11)), (some (100, true))⟩,
              ⟨(some 103), (COp.indexAddr 4 (CX.t 101) (CX.t 102)), (some (100, true))⟩,
              ⟨(some 104), (COp.fieldAddr 1 (CX.t 103)), (some (100, true))⟩,
              ⟨(some 105), (COp.load false 1 (CX.t 104)), (some (100, true))⟩,
              ⟨(some 106), (COp.move (CX.t 7)), (some (100, true))⟩,
              ⟨(some 107), (COp.len (LK.slice) (CX.t 106)), (some (100, true))⟩,
              ⟨(some 108), (COp.bin (Go.BinOp.leq) (CX.t 105) (CX.t 107)), (some (100, true))⟩,
              ⟨(some 109), (COp.pick (CX.t 100) (CX.t 108) (CX.c (CVal.bool false))), none⟩,
              ⟨(some 110), (COp.move (CX.t 109)), none⟩,
              ⟨(some 111), (COp.call (CX.c (CVal.func 6 [] [])) []), (some (110, true))⟩,
              ⟨(some 112), (COp.pick (CX.t 110) (CX.t 111) (CX.c (CVal.bool false))), none⟩,
              ⟨(some 6), (COp.move (CX.t 112)), none⟩])
            (.ret))
           (.skip)))
         (.seq (.draw [⟨0, ⟨(some 114), (COp.buildSlice [CVal.int (Go.IntKind.u8) 0] 0 []), none⟩, (DK.eff)⟩,
            ⟨3, ⟨(some 117), (COp.move (CX.t 11)), none⟩, (DK.quiet [0, 1])⟩,
            ⟨2, ⟨(some 116), (COp.move (CX.t 8)), none⟩, (DK.quiet [0, 1])⟩,
            ⟨4, ⟨(some 118), (COp.indexAddr 4 (CX.t 116) (CX.t 117)), none⟩, (DK.quiet [0, 1])⟩,
            ⟨5, ⟨(some 119), (COp.fieldAddr 1 (CX.t 118)), none⟩, (DK.quiet [0, 1])⟩,
            ⟨6, ⟨(some 120), (COp.load false 1 (CX.t 119)), none⟩, (DK.quiet [0, 1])⟩,
            ⟨1, ⟨(some 115), (COp.move (CX.t 7)), none⟩, (DK.quiet [0, 1])⟩,
            ⟨7, ⟨(some 121), (COp.slice 1 (CX.t 115) none (some (CX.t 120)) none), none⟩, (DK.quiet [0, 1])⟩,
            ⟨8, ⟨(some 122), (COp.append 1 1 (CX.t 114) (CX.t 121)), none⟩, (DK.eff)⟩,
            ⟨9, ⟨(some 123), (COp.move (CX.t 12)), none⟩, (DK.quiet [0, 1, 9])⟩,
            ⟨10, ⟨(some 124), (COp.append 1 1 (CX.t 122) (CX.t 123)), none⟩, (DK.eff)⟩,
            ⟨13, ⟨(some 127), (COp.move (CX.t 11)), none⟩, (DK.quiet [0, 1, 9, 11])⟩,
            ⟨12, ⟨(some 126), (COp.move (CX.t 8)), none⟩, (DK.quiet [0, 1, 9, 11])⟩,
            ⟨14, ⟨(some 128), (COp.indexAddr 4 (CX.t 126) (CX.t 127)), none⟩, (DK.quiet [0, 1, 9, 11])⟩,
            ⟨15, ⟨(some 129), (COp.fieldAddr 1 (CX.t 128)), none⟩, (DK.quiet [0, 1, 9, 11])⟩,
            ⟨16, ⟨(some 130), (COp.load false 1 (CX.t 129)), none⟩, (DK.quiet [0, 1, 9, 11])⟩,
            ⟨11, ⟨(some 125), (COp.move (CX.t 7)), none⟩, (DK.quiet [0, 1, 9, 11])⟩,
            ⟨17, ⟨(some 131), (COp.slice 1 (CX.t 125) (some (CX.t 130)) none none), none⟩, (DK.quiet [0, 1, 9, 11])⟩,
            ⟨18, ⟨(some 132), (COp.append 1 1 (CX.t 124) (CX.t 131)), none⟩, (DK.eff)⟩,
            ⟨19, ⟨(some 133), (COp.call (CX.c (CVal.func 7 [] [])) [CX.t 132]), none⟩, (DK.eff)⟩,
            ⟨23, ⟨(some 14), (COp.new [CVal.int (Go.IntKind.i64) 0, CVal.int (Go.IntKind.i64) 0]), none⟩, (DK.alloc 0)⟩,
            ⟨20, ⟨(some 113), (COp.move (CX.t 133)), none⟩, (DK.quiet [20])⟩,
            ⟨21, ⟨(some 134), (COp.extract (CX.t 113) 0), none⟩, (DK.quiet [20])⟩,
            ⟨24, ⟨(some 13), (COp.move (CX.t 134)), none⟩, (DK.quiet [20])⟩,
            ⟨22, ⟨(some 135), (COp.extract (CX.t 113) 1), none⟩, (DK.quiet [20])⟩,
            ⟨25, ⟨none, (COp.store 2 (CX.t 14) (CX.t 135)), none⟩, (DK.eff)⟩] 1)
          (.seq (.seq (.region [⟨(some 136), (COp.fieldAddr 0 (CX.t 14)), none⟩,
              ⟨(some 137), (COp.load false 1 (CX.t 136)), none⟩,
              ⟨(some 138), (COp.bin (Go.BinOp.neq) (CX.t 137) (CX.c (CVal.int (Go.IntKind.i64) 0))), none⟩,
              ⟨(some 139), (COp.move (CX.t 138)), none⟩,
              ⟨(some 140), (COp.move (CX.t 13)), (some (139, false))⟩,
              ⟨(some 141), (COp.len (LK.slice) (CX.t 140)), (some (139, false))⟩,
              ⟨(some 142), (COp.move (CX.t 8)), (some (139, false))⟩,
              ⟨(some 143), (COp.len (LK.slice) (CX.t 142)), (some (139, false))⟩,
              ⟨(some 144), (COp.bin (Go.BinOp.neq) (CX.t 141) (CX.t 143)), (some (139, false))⟩,
              ⟨(some 145), (COp.pick (CX.t 139) (CX.c (CVal.bool true)) (CX.t 144)), none⟩])
            (.cond (CX.t 145) (.seq (.region [⟨(some 6), (COp.move (CX.c (CVal.bool false))), none⟩])
              (.ret))
             (.skip)))
           (.seq (.seq (.region [⟨(some 15), (COp.move (CX.c (CVal.int (Go.IntKind.i64) 0))), none⟩])
             (.block 2 (.loop (.seq (.seq (.region [⟨(some 146), (COp.move (CX.t 15)), none⟩,
                   ⟨(some 147), (COp.move (CX.t 8)), none⟩,
                   ⟨(some 148), (COp.len (LK.slice) (CX.t 147)), none⟩,
                   ⟨(some 149), (COp.bin (Go.BinOp.lss) (CX.t 146) (CX.t 148)), none⟩])
                 (.cond (CX.t 149) (.skip)
                  (.exit 2)))
                (.seq (.block 3 (.seq (.region [⟨(some 152), (COp.move (CX.t 13)), none⟩,
                     ⟨(some 153), (COp.move (CX.t 15)), none⟩,
                     ⟨(some 154), (COp.indexAddr 4 (CX.t 152) (CX.t 153)), none⟩,
                     ⟨(some 155), (COp.load true 4 (CX.t 154)), none⟩,
                     ⟨(some 16), (COp.new [CVal.int (Go.IntKind.i64) 0, CVal.int (Go.IntKind.i64) 0, CVal.int (Go.IntKind.i64) 0, CVal.str []]), none⟩,
                     ⟨none, (COp.store 4 (CX.t 16) (CX.t 155)), none⟩])
                   (.seq (.seq (.region [⟨(some 156), (COp.move (CX.t 15)), none⟩,
                       ⟨(some 157), (COp.move (CX.t 11)), none⟩,
                       ⟨(some 158), (COp.bin (Go.BinOp.geq) (CX.t 156) (CX.t 157)), none⟩])
                     (.cond (CX.t 158) (.region [⟨(some 159), (COp.fieldAddr 1 (CX.t 16)), none⟩,
                        ⟨(some 160), (COp.load false 1 (CX.t 159)), none⟩,
                        ⟨(some 161), (COp.move (CX.t 12)), none⟩,
                        ⟨(some 162), (COp.len (LK.slice) (CX.t 161)), none⟩,
                        ⟨(some 163), (COp.bin (Go.BinOp.sub) (CX.t 160) (CX.t 162)), none⟩,
                        ⟨(some 164), (COp.fieldAddr 1 (CX.t 16)), none⟩,
                        ⟨none, (COp.store 1 (CX.t 164) (CX.t 163)), none⟩])
                      (.skip)))
                    (.seq (.draw [⟨2, ⟨(some 167), (COp.move (CX.t 15)), none⟩, (DK.quiet [0])⟩,
                       ⟨1, ⟨(some 166), (COp.move (CX.t 8)), none⟩, (DK.quiet [0])⟩,
                       ⟨3, ⟨(some 168), (COp.indexAddr 4 (CX.t 166) (CX.t 167)), none⟩, (DK.quiet [0])⟩,
                       ⟨4, ⟨(some 169), (COp.load true 4 (CX.t 168)), none⟩, (DK.quiet [0])⟩,
                       ⟨0, ⟨(some 165), (COp.load true 4 (CX.t 16)), none⟩, (DK.quiet [0])⟩,
                       ⟨5, ⟨(some 170), (COp.eqS [PK.int, PK.int, PK.int, PK.str] true (CX.t 165) (CX.t 169)), none⟩, (DK.quiet [0])⟩] 0)
                     (.cond (CX.t 170) (.seq (.region [⟨(some 6), (COp.move (CX.c (CVal.bool false))), none⟩])
                       (.ret))
                      (.skip))))))
                 (.region [⟨(some 150), (COp.move (CX.t 15)), none⟩,
                   ⟨(some 151), (COp.bin (Go.BinOp.add) (CX.t 150) (CX.c (CVal.int (Go.IntKind.i64) 1))), none⟩,
                   ⟨(some 15), (COp.move (CX.t 151)), none⟩]))))))
            (.seq (.region [⟨(some 171), (COp.call (CX.c (CVal.func 6 [] [])) []), none⟩,
               ⟨(some 6), (COp.move (CX.t 171)), none⟩])
             (.ret)))))))))))))⟩
theorem ok5 : compFunc prog glb 5 p5 = some c5 := by kernel_rfl
/-- signalbox/signalboxlaw21.awake -/
def p6 : List Plan := []
def c6 : CFunc := ⟨73, [CRV.tmp 0],
 .seq (.region [⟨(some 0), (COp.move (CX.c (CVal.bool false))), none⟩])
 (.seq (.region [⟨(some 11), (COp.buildSlice [CVal.int (Go.IntKind.u8) 0] 11 [(0, 1, CX.c (CVal.int (Go.IntKind.u8) 97)), (1, 1, CX.c (CVal.int (Go.IntKind.u8) 58)), (2, 1, CX.c (CVal.int (Go.IntKind.u8) 61)), (3, 1, CX.c (CVal.int (Go.IntKind.u8) 49)), (4, 1, CX.c (CVal.int (Go.IntKind.u8) 32)), (5, 1, CX.c (CVal.int (Go.IntKind.u8) 123)), (6, 1, CX.c (CVal.int (Go.IntKind.u8) 120)), (7, 1, CX.c (CVal.int (Go.IntKind.u8) 125)), (8, 1, CX.c (CVal.int (Go.IntKind.u8) 32)), (9, 1, CX.c (CVal.int (Go.IntKind.u8) 60)), (10, 1, CX.c (CVal.int (Go.IntKind.u8) 62))]), none⟩,
    ⟨(some 12), (COp.markB (CX.t 11)), none⟩,
    ⟨(some 13), (COp.call (CX.c (CVal.func 7 [] [])) [CX.t 12]), none⟩,
    ⟨(some 10), (COp.move (CX.t 13)), none⟩,
    ⟨(some 14), (COp.extract (CX.t 10) 0), none⟩,
    ⟨(some 15), (COp.extract (CX.t 10) 1), none⟩,
    ⟨(some 2), (COp.new [CVal.int (Go.IntKind.i64) 0, CVal.int (Go.IntKind.i64) 0]), none⟩,
    ⟨(some 1), (COp.move (CX.t 14)), none⟩,
    ⟨none, (COp.store 2 (CX.t 2) (CX.t 15)), none⟩])
  (.seq (.region [⟨(some 17), (COp.buildSlice [CVal.int (Go.IntKind.u8) 0] 3 [(0, 1, CX.c (CVal.int (Go.IntKind.u8) 97)), (1, 1, CX.c (CVal.int (Go.IntKind.u8) 32)), (2, 1, CX.c (CVal.int (Go.IntKind.u8) 63))]), none⟩,
     ⟨(some 18), (COp.markB (CX.t 17)), none⟩,
     ⟨(some 19), (COp.call (CX.c (CVal.func 7 [] [])) [CX.t 18]), none⟩,
     ⟨(some 16), (COp.move (CX.t 19)), none⟩,
     ⟨(some 20), (COp.extract (CX.t 16) 0), none⟩,
     ⟨(some 21), (COp.extract (CX.t 16) 1), none⟩,
     ⟨(some 4), (COp.new [CVal.int (Go.IntKind.i64) 0, CVal.int (Go.IntKind.i64) 0]), none⟩,
     ⟨(some 3), (COp.move (CX.t 20)), none⟩,
     ⟨none, (COp.store 2 (CX.t 4) (CX.t 21)), none⟩])
   (.seq (.region [⟨(some 23), (COp.buildSlice [CVal.int (Go.IntKind.u8) 0] 13 [(0, 1, CX.c (CVal.int (Go.IntKind.u8) 97)), (1, 1, CX.c (CVal.int (Go.IntKind.u8) 98)), (2, 1, CX.c (CVal.int (Go.IntKind.u8) 99)), (3, 1, CX.c (CVal.int (Go.IntKind.u8) 100)), (4, 1, CX.c (CVal.int (Go.IntKind.u8) 101)), (5, 1, CX.c (CVal.int (Go.IntKind.u8) 102)), (6, 1, CX.c (CVal.int (Go.IntKind.u8) 103)), (7, 1, CX.c (CVal.int (Go.IntKind.u8) 104)), (8, 1, CX.c (CVal.int (Go.IntKind.u8) 105)), (9, 1, CX.c (CVal.int (Go.IntKind.u8) 106)), (10, 1, CX.c (CVal.int (Go.IntKind.u8) 107)), (11, 1, CX.c (CVal.int (Go.IntKind.u8) 108)), (12, 1, CX.c (CVal.int (Go.IntKind.u8) 109))]), none⟩,
      ⟨(some 24), (COp.markB (CX.t 23)), none⟩,
      ⟨(some 25), (COp.call (CX.c (CVal.func 7 [] [])) [CX.t 24]), none⟩,
      ⟨(some 22), (COp.move (CX.t 25)), none⟩,
      ⟨(some 26), (COp.extract (CX.t 22) 0), none⟩,
      ⟨(some 27), (COp.extract (CX.t 22) 1), none⟩,
      ⟨(some 6), (COp.new [CVal.int (Go.IntKind.i64) 0, CVal.int (Go.IntKind.i64) 0]), none⟩,
      ⟨(some 5), (COp.move (CX.t 26)), none⟩,
      ⟨none, (COp.store 2 (CX.t 6) (CX.t 27)), none⟩])
    (.seq (.region [⟨(some 29), (COp.buildSlice [CVal.int (Go.IntKind.u8) 0] 19 [(0, 1, CX.c (CVal.int (Go.IntKind.u8) 57)), (1, 1, CX.c (CVal.int (Go.IntKind.u8) 50)), (2, 1, CX.c (CVal.int (Go.IntKind.u8) 50)), (3, 1, CX.c (CVal.int (Go.IntKind.u8) 51)), (4, 1, CX.c (CVal.int (Go.IntKind.u8) 51)), (5, 1, CX.c (CVal.int (Go.IntKind.u8) 55)), (6, 1, CX.c (CVal.int (Go.IntKind.u8) 50)), (7, 1, CX.c (CVal.int (Go.IntKind.u8) 48)), (8, 1, CX.c (CVal.int (Go.IntKind.u8) 51)), (9, 1, CX.c (CVal.int (Go.IntKind.u8) 54)), (10, 1, CX.c (CVal.int (Go.IntKind.u8) 56)), (11, 1, CX.c (CVal.int (Go.IntKind.u8) 53)), (12, 1, CX.c (CVal.int (Go.IntKind.u8) 52)), (13, 1, CX.c (CVal.int (Go.IntKind.u8) 55)), (14, 1, CX.c (CVal.int (Go.IntKind.u8) 55)), (15, 1, CX.c (CVal.int (Go.IntKind.u8) 53)), (16, 1, CX.c (CVal.int (Go.IntKind.u8) 56)), (17, 1, CX.c (CVal.int (Go.IntKind.u8) 48)), (18, 1, CX.c (CVal.int (Go.IntKind.u8) 56))]), none⟩,
       ⟨(some 30), (COp.markB (CX.t 29)), none⟩,
       ⟨(some 31), (COp.call (CX.c (CVal.func 7 [] [])) [CX.t 30]), none⟩,
       ⟨(some 28), (COp.move (CX.t 31)), none⟩,
       ⟨(some 32), (COp.extract (CX.t 28) 0), none⟩,
       ⟨(some 33), (COp.extract (CX.t 28) 1), none⟩,
       ⟨(some 8), (COp.new [CVal.int (Go.IntKind.i64) 0, CVal.int (Go.IntKind.i64) 0]), none⟩,
       ⟨(some 7), (COp.move (CX.t 32)), none⟩,
       ⟨none, (COp.store 2 (CX.t 8) (CX.t 33)), none⟩])
     (.seq (.region [⟨(some 34), (COp.build [CVal.int (Go.IntKind.i64) 0, CVal.int (Go.IntKind.i64) 0, CVal.int (Go.IntKind.i64) 0, CVal.str []] [(0, 1, CX.c (CVal.int (Go.IntKind.i64) 1)), (3, 1, CX.c (CVal.str [97]))]), none⟩,
        ⟨(some 35), (COp.build [CVal.int (Go.IntKind.i64) 0, CVal.int (Go.IntKind.i64) 0, CVal.int (Go.IntKind.i64) 0, CVal.str []] [(0, 1, CX.c (CVal.int (Go.IntKind.i64) 4)), (1, 1, CX.c (CVal.int (Go.IntKind.i64) 1)), (3, 1, CX.c (CVal.str [58, 61]))]), none⟩,
        ⟨(some 36), (COp.build [CVal.int (Go.IntKind.i64) 0, CVal.int (Go.IntKind.i64) 0, CVal.int (Go.IntKind.i64) 0, CVal.str []] [(0, 1, CX.c (CVal.int (Go.IntKind.i64) 2)), (1, 1, CX.c (CVal.int (Go.IntKind.i64) 3)), (2, 1, CX.c (CVal.int (Go.IntKind.i64) 1))]), none⟩,
        ⟨(some 37), (COp.build [CVal.int (Go.IntKind.i64) 0, CVal.int (Go.IntKind.i64) 0, CVal.int (Go.IntKind.i64) 0, CVal.str []] [(0, 1, CX.c (CVal.int (Go.IntKind.i64) 4)), (1, 1, CX.c (CVal.int (Go.IntKind.i64) 9)), (3, 1, CX.c (CVal.str [60, 62]))]), none⟩,
        ⟨(some 38), (COp.build [CVal.int (Go.IntKind.i64) 0, CVal.int (Go.IntKind.i64) 0, CVal.int (Go.IntKind.i64) 0, CVal.str []] [(0, 1, CX.c (CVal.int (Go.IntKind.i64) 5)), (1, 1, CX.c (CVal.int (Go.IntKind.i64) 11))]), none⟩,
        ⟨(some 39), (COp.buildSlice [CVal.int (Go.IntKind.i64) 0, CVal.int (Go.IntKind.i64) 0, CVal.int (Go.IntKind.i64) 0, CVal.str []] 5 [(0, 4, CX.t 34), (4, 4, CX.t 35), (8, 4, CX.t 36), (12, 4, CX.t 37), (16, 4, CX.t 38)]), none⟩,
        ⟨(some 9), (COp.move (CX.t 39)), none⟩])
      (.seq (.region [⟨(some 40), (COp.fieldAddr 0 (CX.t 2)), none⟩,
         ⟨(some 41), (COp.load false 1 (CX.t 40)), none⟩,
         ⟨(some 42), (COp.bin (Go.BinOp.eql) (CX.t 41) (CX.c (CVal.int (Go.IntKind.i64) 0))), none⟩,
         ⟨(some 43), (COp.move (CX.t 42)), none⟩,
         ⟨(some 44), (COp.move (CX.t 1)), (some (43, true))⟩,
         ⟨(some 45), (COp.move (CX.t 9)), (some (43, true))⟩,
         ⟨(some 46), (COp.call (CX.c (CVal.func 9 [] [])) [CX.t 44, CX.t 45]), (some (43, true))⟩,
         ⟨(some 47), (COp.pick (CX.t 43) (CX.t 46) (CX.c (CVal.bool false))), none⟩,
         ⟨(some 48), (COp.move (CX.t 47)), none⟩,
         ⟨(some 49), (COp.load true 2 (CX.t 4)), (some (48, true))⟩,
         ⟨(some 50), (COp.build [CVal.int (Go.IntKind.i64) 0, CVal.int (Go.IntKind.i64) 0] [(0, 1, CX.c (CVal.int (Go.IntKind.i64) 11)), (1, 1, CX.c (CVal.int (Go.IntKind.i64) 2))]), (some (48, true))⟩,
         ⟨(some 51), (COp.eqS [PK.int, PK.int] false (CX.t 49) (CX.t 50)), (some (48, true))⟩,
         ⟨(some 52), (COp.pick (CX.t 48) (CX.t 51) (CX.c (CVal.bool false))), none⟩,
         ⟨(some 53), (COp.move (CX.t 52)), none⟩,
         ⟨(some 54), (COp.load true 2 (CX.t 6)), (some (53, true))⟩,
         ⟨(some 55), (COp.build [CVal.int (Go.IntKind.i64) 0, CVal.int (Go.IntKind.i64) 0] [(0, 1, CX.c (CVal.int (Go.IntKind.i64) 12))]), (some (53, true))⟩,
         ⟨(some 56), (COp.eqS [PK.int, PK.int] false (CX.t 54) (CX.t 55)), (some (53, true))⟩,
         ⟨(some 57), (COp.pick (CX.t 53) (CX.t 56) (CX.c (CVal.bool false))), none⟩,
         ⟨(some 58), (COp.move (CX.t 57)), none⟩,
         ⟨(some 59), (COp.fieldAddr 0 (CX.t 8)), (some (58, true))⟩,
         ⟨(some 60), (COp.load false 1 (CX.t 59)), (some (58, true))⟩,
         ⟨(some 61), (COp.bin (Go.BinOp.eql) (CX.t 60) (CX.c (CVal.int (Go.IntKind.i64) 13))), (some (58, true))⟩,
         ⟨(some 62), (COp.pick (CX.t 58) (CX.t 61) (CX.c (CVal.bool false))), none⟩,
         ⟨(some 63), (COp.move (CX.t 62)), none⟩,
         ⟨(some 64), (COp.call (CX.c (CVal.func 14 [] [])) [CX.c (CVal.str [111, 100])]), (some (63, true))⟩,
         ⟨(some 65), (COp.pick (CX.t 63) (CX.t 64) (CX.c (CVal.bool false))), none⟩,
         ⟨(some 66), (COp.move (CX.t 65)), none⟩,
         ⟨(some 67), (COp.call (CX.c (CVal.func 14 [] [])) [CX.c (CVal.str [80])]), (some (66, true))⟩,
         ⟨(some 68), (COp.pick (CX.t 66) (CX.t 67) (CX.c (CVal.bool false))), none⟩,
         ⟨(some 69), (COp.move (CX.t 68)), none⟩,
         ⟨(some 70), (COp.call (CX.c (CVal.func 14 [] [])) [CX.c (CVal.str [97])]), (some (69, true))⟩,
         ⟨(some 71), (COp.un (Go.UnOp.not) (CX.t 70)), (some (69, true))⟩,
         ⟨(some 72), (COp.pick (CX.t 69) (CX.t 71) (CX.c (CVal.bool false))), none⟩,
         ⟨(some 0), (COp.move (CX.t 72)), none⟩])
       (.ret)))))))⟩
theorem ok6 : compFunc prog glb 6 p6 = some c6 := by kernel_rfl
/-- signalbox/token.All -/
def p7 : List Plan := [⟨[(2, DK.eff), (0, DK.quiet [0, 1]), (1, DK.quiet [0, 1]), (3, DK.quiet [1]), (4, DK.eff), (5, DK.quiet [5])], 0, [0, 1, 0, 7, 15, 31]⟩, ⟨[(4, DK.quiet [0]), (5, DK.quiet [0]), (6, DK.quiet [0]), (7, DK.quiet [0]), (8, DK.quiet [0]), (0, DK.quiet [0]), (1, DK.quiet [0]), (2, DK.quiet [0]), (3, DK.quiet [0]), (9, DK.quiet [0])], 0, [0, 1, 3, 7, 0, 16, 48, 112, 240, 511]⟩, ⟨[(6, DK.quiet [0]), (1, DK.quiet [0]), (2, DK.quiet [0]), (3, DK.quiet [0]), (4, DK.quiet [0]), (0, DK.quiet [0]), (5, DK.quiet [0]), (7, DK.eff)], 0, [0, 0, 2, 6, 14, 31, 0, 127]⟩]
def c7 : CFunc := ⟨43, [CRV.tmp 2, CRV.cell 3 true 2],
 .seq (.region [⟨(some 2), (COp.move (CX.c (CVal.nilSlice))), none⟩,
   ⟨(some 3), (COp.new [CVal.int (Go.IntKind.i64) 0, CVal.int (Go.IntKind.i64) 0]), none⟩])
 (.seq (.seq (.region [⟨(some 6), (COp.move (CX.t 0)), none⟩,
     ⟨(some 7), (COp.len (LK.slice) (CX.t 6)), none⟩,
     ⟨(some 8), (COp.bin (Go.BinOp.gtr) (CX.t 7) (CX.c (CVal.int (Go.IntKind.i64) 4096))), none⟩])
   (.cond (CX.t 8) (.seq (.region [⟨(some 9), (COp.build [CVal.int (Go.IntKind.i64) 0, CVal.int (Go.IntKind.i64) 0] [(0, 1, CX.c (CVal.int (Go.IntKind.i64) 16)), (1, 1, CX.c (CVal.int (Go.IntKind.i64) 4096))]), none⟩,
       ⟨(some 2), (COp.move (CX.c (CVal.nilSlice))), none⟩,
       ⟨none, (COp.store 2 (CX.t 3) (CX.t 9)), none⟩])
     (.ret))
    (.skip)))
  (.seq (.draw [⟨2, ⟨(some 12), (COp.call (CX.c (CVal.func 15 [] [])) []), none⟩, (DK.eff)⟩,
     ⟨0, ⟨(some 10), (COp.move (CX.t 0)), none⟩, (DK.quiet [0, 1])⟩,
     ⟨1, ⟨(some 11), (COp.strOf (CX.t 10)), none⟩, (DK.quiet [0, 1])⟩,
     ⟨3, ⟨(some 13), (COp.build [CVal.str [], CVal.int (Go.IntKind.i64) 0, CVal.nilMap, CVal.nilSlice] [(0, 1, CX.t 11), (2, 1, CX.t 12)]), none⟩, (DK.quiet [1])⟩,
     ⟨4, ⟨(some 14), (COp.box (CX.t 13)), none⟩, (DK.eff)⟩,
     ⟨5, ⟨(some 4), (COp.move (CX.t 14)), none⟩, (DK.quiet [5])⟩] 0)
   (.seq (.block 0 (.loop (.seq (.seq (.draw [⟨4, ⟨(some 19), (COp.move (CX.t 4)), none⟩, (DK.quiet [0])⟩,
          ⟨5, ⟨(some 20), (COp.nilCheck (CX.t 19)), none⟩, (DK.quiet [0])⟩,
          ⟨6, ⟨(some 21), (COp.fieldAddr 0 (CX.t 20)), none⟩, (DK.quiet [0])⟩,
          ⟨7, ⟨(some 22), (COp.load false 1 (CX.t 21)), none⟩, (DK.quiet [0])⟩,
          ⟨8, ⟨(some 23), (COp.len (LK.str) (CX.t 22)), none⟩, (DK.quiet [0])⟩,
          ⟨0, ⟨(some 15), (COp.move (CX.t 4)), none⟩, (DK.quiet [0])⟩,
          ⟨1, ⟨(some 16), (COp.nilCheck (CX.t 15)), none⟩, (DK.quiet [0])⟩,
          ⟨2, ⟨(some 17), (COp.fieldAddr 1 (CX.t 16)), none⟩, (DK.quiet [0])⟩,
          ⟨3, ⟨(some 18), (COp.load false 1 (CX.t 17)), none⟩, (DK.quiet [0])⟩,
          ⟨9, ⟨(some 24), (COp.bin (Go.BinOp.lss) (CX.t 18) (CX.t 23)), none⟩, (DK.quiet [0])⟩] 0)
        (.cond (CX.t 24) (.skip)
         (.exit 0)))
       (.block 1 (.seq (.region [⟨(some 25), (COp.move (CX.t 4)), none⟩,
           ⟨(some 26), (COp.call (CX.c (CVal.func 16 [] [])) [CX.t 25]), none⟩,
           ⟨(some 5), (COp.move (CX.t 26)), none⟩])
         (.seq (.region [⟨(some 27), (COp.move (CX.t 5)), none⟩,
            ⟨(some 28), (COp.bin (Go.BinOp.neq) (CX.t 27) (CX.c (CVal.int (Go.IntKind.i64) 0))), none⟩])
          (.cond (CX.t 28) (.seq (.draw [⟨6, ⟨(some 2), (COp.move (CX.c (CVal.nilSlice))), none⟩, (DK.quiet [0])⟩,
              ⟨1, ⟨(some 30), (COp.move (CX.t 4)), none⟩, (DK.quiet [0])⟩,
              ⟨2, ⟨(some 31), (COp.nilCheck (CX.t 30)), none⟩, (DK.quiet [0])⟩,
              ⟨3, ⟨(some 32), (COp.fieldAddr 1 (CX.t 31)), none⟩, (DK.quiet [0])⟩,
              ⟨4, ⟨(some 33), (COp.load false 1 (CX.t 32)), none⟩, (DK.quiet [0])⟩,
              ⟨0, ⟨(some 29), (COp.move (CX.t 5)), none⟩, (DK.quiet [0])⟩,
              ⟨5, ⟨(some 34), (COp.build [CVal.int (Go.IntKind.i64) 0, CVal.int (Go.IntKind.i64) 0] [(0, 1, CX.t 29), (1, 1, CX.t 33)]), none⟩, (DK.quiet [0])⟩,
              ⟨7, ⟨none, (COp.store 2 (CX.t 3) (CX.t 34)), none⟩, (DK.eff)⟩] 0)
            (.ret))
           (.skip))))))))
    (.seq (.region [⟨(some 35), (COp.move (CX.t 4)), none⟩,
       ⟨(some 36), (COp.build [CVal.int (Go.IntKind.i64) 0, CVal.int (Go.IntKind.i64) 0, CVal.int (Go.IntKind.i64) 0, CVal.str []] [(0, 1, CX.c (CVal.int (Go.IntKind.i64) 5))]), none⟩,
       ⟨(some 37), (COp.call (CX.c (CVal.func 17 [] [])) [CX.t 35, CX.t 36, CX.c (CVal.int (Go.IntKind.i64) 0)]), none⟩])
     (.seq (.region [⟨(some 38), (COp.move (CX.t 4)), none⟩,
        ⟨(some 39), (COp.nilCheck (CX.t 38)), none⟩,
        ⟨(some 40), (COp.fieldAddr 3 (CX.t 39)), none⟩,
        ⟨(some 41), (COp.load false 1 (CX.t 40)), none⟩,
        ⟨(some 42), (COp.build [CVal.int (Go.IntKind.i64) 0, CVal.int (Go.IntKind.i64) 0] []), none⟩,
        ⟨(some 2), (COp.move (CX.t 41)), none⟩,
        ⟨none, (COp.store 2 (CX.t 3) (CX.t 42)), none⟩])
      (.ret))))))⟩
theorem ok7 : compFunc prog glb 7 p7 = some c7 := by kernel_rfl
/-- signalbox/signalboxref21.All -/
def p8 : List Plan := []
def c8 : CFunc := ⟨193, [CRV.tmp 2, CRV.cell 3 true 2],
 .seq (.region [⟨(some 2), (COp.move (CX.c (CVal.nilSlice))), none⟩,
   ⟨(some 3), (COp.new [CVal.int (Go.IntKind.i64) 0, CVal.int (Go.IntKind.i64) 0]), none⟩])
 (.seq (.seq (.region [⟨(some 12), (COp.move (CX.t 0)), none⟩,
     ⟨(some 13), (COp.len (LK.slice) (CX.t 12)), none⟩,
     ⟨(some 14), (COp.bin (Go.BinOp.gtr) (CX.t 13) (CX.c (CVal.int (Go.IntKind.i64) 4096))), none⟩])
   (.cond (CX.t 14) (.seq (.region [⟨(some 15), (COp.build [CVal.int (Go.IntKind.i64) 0, CVal.int (Go.IntKind.i64) 0] [(0, 1, CX.c (CVal.int (Go.IntKind.i64) 16)), (1, 1, CX.c (CVal.int (Go.IntKind.i64) 4096))]), none⟩,
       ⟨(some 2), (COp.move (CX.c (CVal.nilSlice))), none⟩,
       ⟨none, (COp.store 2 (CX.t 3) (CX.t 15)), none⟩])
     (.ret))
    (.skip)))
  (.seq (.region [⟨(some 16), (COp.buildSlice [CVal.int (Go.IntKind.i64) 0, CVal.int (Go.IntKind.i64) 0, CVal.int (Go.IntKind.i64) 0, CVal.str []] 0 []), none⟩,
     ⟨(some 4), (COp.move (CX.t 16)), none⟩])
   (.seq (.region [⟨(some 5), (COp.move (CX.c (CVal.int (Go.IntKind.i64) 0))), none⟩])
    (.seq (.block 0 (.loop (.seq (.seq (.region [⟨(some 17), (COp.move (CX.t 5)), none⟩,
           ⟨(some 18), (COp.move (CX.t 0)), none⟩,
           ⟨(some 19), (COp.len (LK.slice) (CX.t 18)), none⟩,
           ⟨(some 20), (COp.bin (Go.BinOp.lss) (CX.t 17) (CX.t 19)), none⟩])
         (.cond (CX.t 20) (.skip)
          (.exit 0)))
        (.block 1 (.seq (.region [⟨(some 21), (COp.move (CX.t 0)), none⟩,
            ⟨(some 22), (COp.move (CX.t 5)), none⟩,
            ⟨(some 23), (COp.indexAddr 1 (CX.t 21) (CX.t 22)), none⟩,
            ⟨(some 24), (COp.load false 1 (CX.t 23)), none⟩,
            ⟨(some 6), (COp.move (CX.t 24)), none⟩])
          (.seq (.region [⟨(some 25), (COp.move (CX.t 5)), none⟩,
             ⟨(some 26), (COp.bin (Go.BinOp.add) (CX.t 25) (CX.c (CVal.int (Go.IntKind.i64) 1))), none⟩,
             ⟨(some 7), (COp.move (CX.t 26)), none⟩])
           (.seq (.block 2 (.seq (.region [⟨(some 49), (COp.move (CX.t 6)), none⟩,
                ⟨(some 50), (COp.bin (Go.BinOp.eql) (CX.t 49) (CX.c (CVal.int (Go.IntKind.u8) 32))), none⟩,
                ⟨(some 51), (COp.move (CX.t 50)), none⟩,
                ⟨(some 52), (COp.move (CX.t 6)), (some (51, false))⟩,
                ⟨(some 53), (COp.bin (Go.BinOp.eql) (CX.t 52) (CX.c (CVal.int (Go.IntKind.u8) 9))), (some (51, false))⟩,
                ⟨(some 54), (COp.pick (CX.t 51) (CX.c (CVal.bool true)) (CX.t 53)), none⟩,
                ⟨(some 55), (COp.move (CX.t 54)), none⟩,
                ⟨(some 56), (COp.move (CX.t 6)), (some (55, false))⟩,
                ⟨(some 57), (COp.bin (Go.BinOp.eql) (CX.t 56) (CX.c (CVal.int (Go.IntKind.u8) 10))), (some (55, false))⟩,
                ⟨(some 58), (COp.pick (CX.t 55) (CX.c (CVal.bool true)) (CX.t 57)), none⟩,
                ⟨(some 59), (COp.move (CX.t 58)), none⟩,
                ⟨(some 60), (COp.move (CX.t 6)), (some (59, false))⟩,
                ⟨(some 61), (COp.bin (Go.BinOp.eql) (CX.t 60) (CX.c (CVal.int (Go.IntKind.u8) 13))), (some (59, false))⟩,
                ⟨(some 62), (COp.pick (CX.t 59) (CX.c (CVal.bool true)) (CX.t 61)), none⟩,
                ⟨(some 48), (COp.move (CX.t 62)), none⟩])
              (.cond (CX.t 48) (.skip)
               (.seq (.region [⟨(some 64), (COp.move (CX.t 6)), none⟩,
                  ⟨(some 65), (COp.bin (Go.BinOp.eql) (CX.t 64) (CX.c (CVal.int (Go.IntKind.u8) 123))), none⟩,
                  ⟨(some 63), (COp.move (CX.t 65)), none⟩])
                (.cond (CX.t 63) (.seq (.block 3 (.loop (.seq (.seq (.region [⟨(some 66), (COp.move (CX.t 7)), none⟩,
                        ⟨(some 67), (COp.move (CX.t 0)), none⟩,
                        ⟨(some 68), (COp.len (LK.slice) (CX.t 67)), none⟩,
                        ⟨(some 69), (COp.bin (Go.BinOp.lss) (CX.t 66) (CX.t 68)), none⟩,
                        ⟨(some 70), (COp.move (CX.t 69)), none⟩,
                        ⟨(some 71), (COp.move (CX.t 0)), (some (70, true))⟩,
                        ⟨(some 72), (COp.move (CX.t 7)), (some (70, true))⟩,
                        ⟨(some 73), (COp.indexAddr 1 (CX.t 71) (CX.t 72)), (some (70, true))⟩,
                        ⟨(some 74), (COp.load false 1 (CX.t 73)), (some (70, true))⟩,
                        ⟨(some 75), (COp.bin (Go.BinOp.neq) (CX.t 74) (CX.c (CVal.int (Go.IntKind.u8) 125))), (some (70, true))⟩,
                        ⟨(some 76), (COp.pick (CX.t 70) (CX.t 75) (CX.c (CVal.bool false))), none⟩])
                      (.cond (CX.t 76) (.skip)
                       (.exit 3)))
                     (.block 4 (.region [⟨(some 77), (COp.move (CX.t 7)), none⟩,
                        ⟨(some 78), (COp.bin (Go.BinOp.add) (CX.t 77) (CX.c (CVal.int (Go.IntKind.i64) 1))), none⟩,
                        ⟨(some 7), (COp.move (CX.t 78)), none⟩])))))
                  (.seq (.seq (.region [⟨(some 79), (COp.move (CX.t 7)), none⟩,
                      ⟨(some 80), (COp.move (CX.t 0)), none⟩,
                      ⟨(some 81), (COp.len (LK.slice) (CX.t 80)), none⟩,
                      ⟨(some 82), (COp.bin (Go.BinOp.eql) (CX.t 79) (CX.t 81)), none⟩])
                    (.cond (CX.t 82) (.seq (.region [⟨(some 83), (COp.move (CX.t 5)), none⟩,
                        ⟨(some 84), (COp.build [CVal.int (Go.IntKind.i64) 0, CVal.int (Go.IntKind.i64) 0] [(0, 1, CX.c (CVal.int (Go.IntKind.i64) 11)), (1, 1, CX.t 83)]), none⟩,
                        ⟨(some 2), (COp.move (CX.c (CVal.nilSlice))), none⟩,
                        ⟨none, (COp.store 2 (CX.t 3) (CX.t 84)), none⟩])
                      (.ret))
                     (.skip)))
                   (.region [⟨(some 85), (COp.move (CX.t 7)), none⟩,
                     ⟨(some 86), (COp.bin (Go.BinOp.add) (CX.t 85) (CX.c (CVal.int (Go.IntKind.i64) 1))), none⟩,
                     ⟨(some 7), (COp.move (CX.t 86)), none⟩])))
                 (.seq (.region [⟨(some 88), (COp.move (CX.t 6)), none⟩,
                    ⟨(some 89), (COp.bin (Go.BinOp.eql) (CX.t 88) (CX.c (CVal.int (Go.IntKind.u8) 80))), none⟩,
                    ⟨(some 90), (COp.move (CX.t 89)), none⟩,
                    ⟨(some 91), (COp.move (CX.t 6)), (some (90, false))⟩,
                    ⟨(some 92), (COp.bin (Go.BinOp.eql) (CX.t 91) (CX.c (CVal.int (Go.IntKind.u8) 86))), (some (90, false))⟩,
                    ⟨(some 93), (COp.pick (CX.t 90) (CX.c (CVal.bool true)) (CX.t 92)), none⟩,
                    ⟨(some 87), (COp.move (CX.t 93)), none⟩])
                  (.cond (CX.t 87) (.region [⟨(some 94), (COp.move (CX.t 4)), none⟩,
                     ⟨(some 95), (COp.move (CX.t 5)), none⟩,
                     ⟨(some 96), (COp.move (CX.t 0)), none⟩,
                     ⟨(some 97), (COp.move (CX.t 5)), none⟩,
                     ⟨(some 98), (COp.move (CX.t 7)), none⟩,
                     ⟨(some 99), (COp.slice 1 (CX.t 96) (some (CX.t 97)) (some (CX.t 98)) none), none⟩,
                     ⟨(some 100), (COp.strOf (CX.t 99)), none⟩,
                     ⟨(some 101), (COp.build [CVal.int (Go.IntKind.i64) 0, CVal.int (Go.IntKind.i64) 0, CVal.int (Go.IntKind.i64) 0, CVal.str []] [(0, 1, CX.c (CVal.int (Go.IntKind.i64) 3)), (1, 1, CX.t 95), (3, 1, CX.t 100)]), none⟩,
                     ⟨(some 102), (COp.buildSlice [CVal.int (Go.IntKind.i64) 0, CVal.int (Go.IntKind.i64) 0, CVal.int (Go.IntKind.i64) 0, CVal.str []] 1 [(0, 4, CX.t 101)]), none⟩,
                     ⟨(some 103), (COp.append 4 40 (CX.t 94) (CX.t 102)), none⟩,
                     ⟨(some 4), (COp.move (CX.t 103)), none⟩])
                   (.seq (.region [⟨(some 105), (COp.move (CX.t 6)), none⟩,
                      ⟨(some 106), (COp.call (CX.c (CVal.func 18 [] [])) [CX.t 105]), none⟩,
                      ⟨(some 104), (COp.move (CX.t 106)), none⟩])
                    (.cond (CX.t 104) (.seq (.block 5 (.loop (.seq (.seq (.region [⟨(some 107), (COp.move (CX.t 7)), none⟩,
                            ⟨(some 108), (COp.move (CX.t 0)), none⟩,
                            ⟨(some 109), (COp.len (LK.slice) (CX.t 108)), none⟩,
                            ⟨(some 110), (COp.bin (Go.BinOp.lss) (CX.t 107) (CX.t 109)), none⟩,
                            ⟨(some 111), (COp.move (CX.t 110)), none⟩,
                            ⟨(some 112), (COp.move (CX.t 0)), (some (111, true))⟩,
                            ⟨(some 113), (COp.move (CX.t 7)), (some (111, true))⟩,
                            ⟨(some 114), (COp.indexAddr 1 (CX.t 112) (CX.t 113)), (some (111, true))⟩,
                            ⟨(some 115), (COp.load false 1 (CX.t 114)), (some (111, true))⟩,
                            ⟨(some 116), (COp.call (CX.c (CVal.func 18 [] [])) [CX.t 115]), (some (111, true))⟩,
                            ⟨(some 117), (COp.move (CX.t 116)), (some (111, true))⟩,
                            ⟨(some 118), (COp.move (CX.t 0)), (some (117, false))⟩,
                            ⟨(some 119), (COp.move (CX.t 7)), (some (117, false))⟩,
                            ⟨(some 120), (COp.indexAddr 1 (CX.t 118) (CX.t 119)), (some (117, false))⟩,
                            ⟨(some 121), (COp.load false 1 (CX.t 120)), (some (117, false))⟩,
                            ⟨(some 122), (COp.call (CX.c (CVal.func 19 [] [])) [CX.t 121]), (some (117, false))⟩,
                            ⟨(some 123), (COp.pick (CX.t 117) (CX.c (CVal.bool true)) (CX.t 122)), (some (111, true))⟩,
                            ⟨(some 124), (COp.pick (CX.t 111) (CX.t 123) (CX.c (CVal.bool false))), none⟩])
                          (.cond (CX.t 124) (.skip)
                           (.exit 5)))
                         (.block 6 (.region [⟨(some 125), (COp.move (CX.t 7)), none⟩,
                            ⟨(some 126), (COp.bin (Go.BinOp.add) (CX.t 125) (CX.c (CVal.int (Go.IntKind.i64) 1))), none⟩,
                            ⟨(some 7), (COp.move (CX.t 126)), none⟩])))))
                      (.seq (.region [⟨(some 127), (COp.move (CX.t 0)), none⟩,
                         ⟨(some 128), (COp.move (CX.t 5)), none⟩,
                         ⟨(some 129), (COp.move (CX.t 7)), none⟩,
                         ⟨(some 130), (COp.slice 1 (CX.t 127) (some (CX.t 128)) (some (CX.t 129)) none), none⟩,
                         ⟨(some 131), (COp.strOf (CX.t 130)), none⟩,
                         ⟨(some 8), (COp.move (CX.t 131)), none⟩])
                       (.seq (.region [⟨(some 132), (COp.move (CX.t 8)), none⟩,
                          ⟨(some 133), (COp.call (CX.c (CVal.func 20 [] [])) [CX.t 132]), none⟩])
                        (.cond (CX.t 133) (.region [⟨(some 134), (COp.move (CX.t 4)), none⟩,
                           ⟨(some 135), (COp.move (CX.t 5)), none⟩,
                           ⟨(some 136), (COp.move (CX.t 8)), none⟩,
                           ⟨(some 137), (COp.build [CVal.int (Go.IntKind.i64) 0, CVal.int (Go.IntKind.i64) 0, CVal.int (Go.IntKind.i64) 0, CVal.str []] [(0, 1, CX.c (CVal.int (Go.IntKind.i64) 3)), (1, 1, CX.t 135), (3, 1, CX.t 136)]), none⟩,
                           ⟨(some 138), (COp.buildSlice [CVal.int (Go.IntKind.i64) 0, CVal.int (Go.IntKind.i64) 0, CVal.int (Go.IntKind.i64) 0, CVal.str []] 1 [(0, 4, CX.t 137)]), none⟩,
                           ⟨(some 139), (COp.append 4 40 (CX.t 134) (CX.t 138)), none⟩,
                           ⟨(some 4), (COp.move (CX.t 139)), none⟩])
                         (.seq (.region [⟨(some 140), (COp.move (CX.t 8)), none⟩,
                            ⟨(some 141), (COp.len (LK.str) (CX.t 140)), none⟩,
                            ⟨(some 142), (COp.bin (Go.BinOp.gtr) (CX.t 141) (CX.c (CVal.int (Go.IntKind.i64) 12))), none⟩])
                          (.cond (CX.t 142) (.seq (.region [⟨(some 143), (COp.move (CX.t 5)), none⟩,
                              ⟨(some 144), (COp.build [CVal.int (Go.IntKind.i64) 0, CVal.int (Go.IntKind.i64) 0] [(0, 1, CX.c (CVal.int (Go.IntKind.i64) 12)), (1, 1, CX.t 143)]), none⟩,
                              ⟨(some 2), (COp.move (CX.c (CVal.nilSlice))), none⟩,
                              ⟨none, (COp.store 2 (CX.t 3) (CX.t 144)), none⟩])
                            (.ret))
                           (.region [⟨(some 145), (COp.move (CX.t 4)), none⟩,
                             ⟨(some 146), (COp.move (CX.t 5)), none⟩,
                             ⟨(some 147), (COp.move (CX.t 8)), none⟩,
                             ⟨(some 148), (COp.build [CVal.int (Go.IntKind.i64) 0, CVal.int (Go.IntKind.i64) 0, CVal.int (Go.IntKind.i64) 0, CVal.str []] [(0, 1, CX.c (CVal.int (Go.IntKind.i64) 1)), (1, 1, CX.t 146), (3, 1, CX.t 147)]), none⟩,
                             ⟨(some 149), (COp.buildSlice [CVal.int (Go.IntKind.i64) 0, CVal.int (Go.IntKind.i64) 0, CVal.int (Go.IntKind.i64) 0, CVal.str []] 1 [(0, 4, CX.t 148)]), none⟩,
                             ⟨(some 150), (COp.append 4 40 (CX.t 145) (CX.t 149)), none⟩,
                             ⟨(some 4), (COp.move (CX.t 150)), none⟩])))))))
                     (.seq (.region [⟨(some 152), (COp.move (CX.t 6)), none⟩,
                        ⟨(some 153), (COp.call (CX.c (CVal.func 19 [] [])) [CX.t 152]), none⟩,
                        ⟨(some 151), (COp.move (CX.t 153)), none⟩])
                      (.cond (CX.t 151) (.seq (.block 7 (.loop (.seq (.seq (.region [⟨(some 154), (COp.move (CX.t 7)), none⟩,
                              ⟨(some 155), (COp.move (CX.t 0)), none⟩,
                              ⟨(some 156), (COp.len (LK.slice) (CX.t 155)), none⟩,
                              ⟨(some 157), (COp.bin (Go.BinOp.lss) (CX.t 154) (CX.t 156)), none⟩,
                              ⟨(some 158), (COp.move (CX.t 157)), none⟩,
                              ⟨(some 159), (COp.move (CX.t 0)), (some (158, true))⟩,
                              ⟨(some 160), (COp.move (CX.t 7)), (some (158, true))⟩,
                              ⟨(some 161), (COp.indexAddr 1 (CX.t 159) (CX.t 160)), (some (158, true))⟩,
                              ⟨(some 162), (COp.load false 1 (CX.t 161)), (some (158, true))⟩,
                              ⟨(some 163), (COp.call (CX.c (CVal.func 19 [] [])) [CX.t 162]), (some (158, true))⟩,
                              ⟨(some 164), (COp.pick (CX.t 158) (CX.t 163) (CX.c (CVal.bool false))), none⟩])
                            (.cond (CX.t 164) (.skip)
                             (.exit 7)))
                           (.block 8 (.region [⟨(some 165), (COp.move (CX.t 7)), none⟩,
                              ⟨(some 166), (COp.bin (Go.BinOp.add) (CX.t 165) (CX.c (CVal.int (Go.IntKind.i64) 1))), none⟩,
                              ⟨(some 7), (COp.move (CX.t 166)), none⟩])))))
                        (.seq (.region [⟨(some 168), (COp.move (CX.t 0)), none⟩,
                           ⟨(some 169), (COp.move (CX.t 5)), none⟩,
                           ⟨(some 170), (COp.move (CX.t 7)), none⟩,
                           ⟨(some 171), (COp.slice 1 (CX.t 168) (some (CX.t 169)) (some (CX.t 170)) none), none⟩,
                           ⟨(some 172), (COp.call (CX.c (CVal.func 21 [] [])) [CX.t 171]), none⟩,
                           ⟨(some 167), (COp.move (CX.t 172)), none⟩,
                           ⟨(some 173), (COp.extract (CX.t 167) 0), none⟩,
                           ⟨(some 174), (COp.extract (CX.t 167) 1), none⟩,
                           ⟨(some 9), (COp.move (CX.t 173)), none⟩,
                           ⟨(some 10), (COp.move (CX.t 174)), none⟩])
                         (.seq (.seq (.region [⟨(some 175), (COp.move (CX.t 10)), none⟩,
                             ⟨(some 176), (COp.un (Go.UnOp.not) (CX.t 175)), none⟩])
                           (.cond (CX.t 176) (.seq (.region [⟨(some 177), (COp.move (CX.t 5)), none⟩,
                               ⟨(some 178), (COp.build [CVal.int (Go.IntKind.i64) 0, CVal.int (Go.IntKind.i64) 0] [(0, 1, CX.c (CVal.int (Go.IntKind.i64) 13)), (1, 1, CX.t 177)]), none⟩,
                               ⟨(some 2), (COp.move (CX.c (CVal.nilSlice))), none⟩,
                               ⟨none, (COp.store 2 (CX.t 3) (CX.t 178)), none⟩])
                             (.ret))
                            (.skip)))
                          (.region [⟨(some 179), (COp.move (CX.t 4)), none⟩,
                            ⟨(some 180), (COp.move (CX.t 5)), none⟩,
                            ⟨(some 181), (COp.move (CX.t 9)), none⟩,
                            ⟨(some 182), (COp.build [CVal.int (Go.IntKind.i64) 0, CVal.int (Go.IntKind.i64) 0, CVal.int (Go.IntKind.i64) 0, CVal.str []] [(0, 1, CX.c (CVal.int (Go.IntKind.i64) 2)), (1, 1, CX.t 180), (2, 1, CX.t 181)]), none⟩,
                            ⟨(some 183), (COp.buildSlice [CVal.int (Go.IntKind.i64) 0, CVal.int (Go.IntKind.i64) 0, CVal.int (Go.IntKind.i64) 0, CVal.str []] 1 [(0, 4, CX.t 182)]), none⟩,
                            ⟨(some 184), (COp.append 4 40 (CX.t 179) (CX.t 183)), none⟩,
                            ⟨(some 4), (COp.move (CX.t 184)), none⟩]))))
                       (.seq (.region [⟨(some 27), (COp.move (CX.t 0)), none⟩,
                          ⟨(some 28), (COp.move (CX.t 5)), none⟩,
                          ⟨(some 29), (COp.slice 1 (CX.t 27) (some (CX.t 28)) none none), none⟩,
                          ⟨(some 30), (COp.call (CX.c (CVal.func 22 [] [])) [CX.t 29]), none⟩,
                          ⟨(some 11), (COp.move (CX.t 30)), none⟩])
                        (.seq (.seq (.region [⟨(some 31), (COp.move (CX.t 11)), none⟩,
                            ⟨(some 32), (COp.bin (Go.BinOp.eql) (CX.t 31) (CX.c (CVal.int (Go.IntKind.i64) 0))), none⟩])
                          (.cond (CX.t 32) (.seq (.region [⟨(some 33), (COp.move (CX.t 5)), none⟩,
                              ⟨(some 34), (COp.build [CVal.int (Go.IntKind.i64) 0, CVal.int (Go.IntKind.i64) 0] [(0, 1, CX.c (CVal.int (Go.IntKind.i64) 11)), (1, 1, CX.t 33)]), none⟩,
                              ⟨(some 2), (COp.move (CX.c (CVal.nilSlice))), none⟩,
                              ⟨none, (COp.store 2 (CX.t 3) (CX.t 34)), none⟩])
                            (.ret))
                           (.skip)))
                         (.seq (.region [⟨(some 35), (COp.move (CX.t 5)), none⟩,
                            ⟨(some 36), (COp.move (CX.t 11)), none⟩,
                            ⟨(some 37), (COp.bin (Go.BinOp.add) (CX.t 35) (CX.t 36)), none⟩,
                            ⟨(some 7), (COp.move (CX.t 37)), none⟩])
                          (.region [⟨(some 38), (COp.move (CX.t 4)), none⟩,
                            ⟨(some 39), (COp.move (CX.t 5)), none⟩,
                            ⟨(some 40), (COp.move (CX.t 0)), none⟩,
                            ⟨(some 41), (COp.move (CX.t 5)), none⟩,
                            ⟨(some 42), (COp.move (CX.t 7)), none⟩,
                            ⟨(some 43), (COp.slice 1 (CX.t 40) (some (CX.t 41)) (some (CX.t 42)) none), none⟩,
                            ⟨(some 44), (COp.strOf (CX.t 43)), none⟩,
                            ⟨(some 45), (COp.build [CVal.int (Go.IntKind.i64) 0, CVal.int (Go.IntKind.i64) 0, CVal.int (Go.IntKind.i64) 0, CVal.str []] [(0, 1, CX.c (CVal.int (Go.IntKind.i64) 4)), (1, 1, CX.t 39), (3, 1, CX.t 44)]), none⟩,
                            ⟨(some 46), (COp.buildSlice [CVal.int (Go.IntKind.i64) 0, CVal.int (Go.IntKind.i64) 0, CVal.int (Go.IntKind.i64) 0, CVal.str []] 1 [(0, 4, CX.t 45)]), none⟩,
                            ⟨(some 47), (COp.append 4 40 (CX.t 38) (CX.t 46)), none⟩,
                            ⟨(some 4), (COp.move (CX.t 47)), none⟩])))))))))))))))
            (.region [⟨(some 185), (COp.move (CX.t 7)), none⟩,
              ⟨(some 5), (COp.move (CX.t 185)), none⟩]))))))))
     (.seq (.region [⟨(some 186), (COp.move (CX.t 4)), none⟩,
        ⟨(some 187), (COp.move (CX.t 0)), none⟩,
        ⟨(some 188), (COp.len (LK.slice) (CX.t 187)), none⟩,
        ⟨(some 189), (COp.build [CVal.int (Go.IntKind.i64) 0, CVal.int (Go.IntKind.i64) 0, CVal.int (Go.IntKind.i64) 0, CVal.str []] [(0, 1, CX.c (CVal.int (Go.IntKind.i64) 5)), (1, 1, CX.t 188)]), none⟩,
        ⟨(some 190), (COp.buildSlice [CVal.int (Go.IntKind.i64) 0, CVal.int (Go.IntKind.i64) 0, CVal.int (Go.IntKind.i64) 0, CVal.str []] 1 [(0, 4, CX.t 189)]), none⟩,
        ⟨(some 191), (COp.append 4 40 (CX.t 186) (CX.t 190)), none⟩,
        ⟨(some 192), (COp.build [CVal.int (Go.IntKind.i64) 0, CVal.int (Go.IntKind.i64) 0] []), none⟩,
        ⟨(some 2), (COp.move (CX.t 191)), none⟩,
        ⟨none, (COp.store 2 (CX.t 3) (CX.t 192)), none⟩])
      (.ret))))))⟩
theorem ok8 : compFunc prog glb 8 p8 = some c8 := by kernel_rfl
/-- signalbox/signalboxref21.Tokens -/
def p9 : List Plan := [⟨[(5, DK.quiet [0]), (4, DK.quiet [0]), (6, DK.quiet [0]), (7, DK.quiet [0]), (1, DK.quiet [0]), (0, DK.quiet [0]), (2, DK.quiet [0]), (3, DK.quiet [0]), (8, DK.quiet [0])], 0, [0, 0, 3, 7, 0, 0, 48, 112, 255]⟩]
def c9 : CFunc := ⟨26, [CRV.tmp 4],
 .seq (.region [⟨(some 4), (COp.move (CX.c (CVal.bool false))), none⟩])
 (.seq (.seq (.region [⟨(some 6), (COp.move (CX.t 0)), none⟩,
     ⟨(some 7), (COp.len (LK.slice) (CX.t 6)), none⟩,
     ⟨(some 8), (COp.move (CX.t 1)), none⟩,
     ⟨(some 9), (COp.len (LK.slice) (CX.t 8)), none⟩,
     ⟨(some 10), (COp.bin (Go.BinOp.neq) (CX.t 7) (CX.t 9)), none⟩])
   (.cond (CX.t 10) (.seq (.region [⟨(some 4), (COp.move (CX.c (CVal.bool false))), none⟩])
     (.ret))
    (.skip)))
  (.seq (.seq (.region [⟨(some 5), (COp.move (CX.c (CVal.int (Go.IntKind.i64) 0))), none⟩])
    (.block 0 (.loop (.seq (.seq (.region [⟨(some 11), (COp.move (CX.t 5)), none⟩,
          ⟨(some 12), (COp.move (CX.t 0)), none⟩,
          ⟨(some 13), (COp.len (LK.slice) (CX.t 12)), none⟩,
          ⟨(some 14), (COp.bin (Go.BinOp.lss) (CX.t 11) (CX.t 13)), none⟩])
        (.cond (CX.t 14) (.skip)
         (.exit 0)))
       (.seq (.block 1 (.seq (.draw [⟨5, ⟨(some 22), (COp.move (CX.t 5)), none⟩, (DK.quiet [0])⟩,
            ⟨4, ⟨(some 21), (COp.move (CX.t 1)), none⟩, (DK.quiet [0])⟩,
            ⟨6, ⟨(some 23), (COp.indexAddr 4 (CX.t 21) (CX.t 22)), none⟩, (DK.quiet [0])⟩,
            ⟨7, ⟨(some 24), (COp.load true 4 (CX.t 23)), none⟩, (DK.quiet [0])⟩,
            ⟨1, ⟨(some 18), (COp.move (CX.t 5)), none⟩, (DK.quiet [0])⟩,
            ⟨0, ⟨(some 17), (COp.move (CX.t 0)), none⟩, (DK.quiet [0])⟩,
            ⟨2, ⟨(some 19), (COp.indexAddr 4 (CX.t 17) (CX.t 18)), none⟩, (DK.quiet [0])⟩,
            ⟨3, ⟨(some 20), (COp.load true 4 (CX.t 19)), none⟩, (DK.quiet [0])⟩,
            ⟨8, ⟨(some 25), (COp.eqS [PK.int, PK.int, PK.int, PK.str] true (CX.t 20) (CX.t 24)), none⟩, (DK.quiet [0])⟩] 0)
          (.cond (CX.t 25) (.seq (.region [⟨(some 4), (COp.move (CX.c (CVal.bool false))), none⟩])
            (.ret))
           (.skip))))
        (.region [⟨(some 15), (COp.move (CX.t 5)), none⟩,
          ⟨(some 16), (COp.bin (Go.BinOp.add) (CX.t 15) (CX.c (CVal.int (Go.IntKind.i64) 1))), none⟩,
          ⟨(some 5), (COp.move (CX.t 16)), none⟩]))))))
   (.seq (.region [⟨(some 4), (COp.move (CX.c (CVal.bool true))), none⟩])
    (.ret))))⟩
theorem ok9 : compFunc prog glb 9 p9 = some c9 := by kernel_rfl
/-- signalbox/signalboxmake.Text -/
def p11 : List Plan := []
def c11 : CFunc := ⟨77, [CRV.tmp 2],
 .seq (.region [⟨(some 2), (COp.move (CX.c (CVal.nilSlice))), none⟩])
 (.seq (.region [⟨(some 5), (COp.move (CX.t 0)), none⟩,
    ⟨(some 6), (COp.build [CVal.nilSlice, CVal.int (Go.IntKind.i64) 0, CVal.nilSlice, CVal.int (Go.IntKind.i64) 0, CVal.str [], CVal.int (Go.IntKind.i64) 0] [(0, 1, CX.t 5), (5, 1, CX.c (CVal.int (Go.IntKind.i64) 60))]), none⟩,
    ⟨(some 7), (COp.box (CX.t 6)), none⟩,
    ⟨(some 3), (COp.move (CX.t 7)), none⟩])
  (.seq (.region [⟨(some 8), (COp.move (CX.t 3)), none⟩,
     ⟨(some 9), (COp.call (CX.c (CVal.func 23 [] [])) [CX.t 8, CX.c (CVal.str [112, 114, 111, 103, 114, 97, 109, 32, 109, 97, 100, 101, 59, 10, 114, 101, 115, 111, 117, 114, 99, 101, 32, 97, 32])]), none⟩])
   (.seq (.region [⟨(some 10), (COp.move (CX.t 3)), none⟩,
      ⟨(some 11), (COp.move (CX.t 3)), none⟩,
      ⟨(some 12), (COp.call (CX.c (CVal.func 25 [] [])) [CX.t 11, CX.c (CVal.int (Go.IntKind.i64) 4)]), none⟩,
      ⟨(some 13), (COp.bin (Go.BinOp.add) (CX.c (CVal.int (Go.IntKind.i64) 1)) (CX.t 12)), none⟩,
      ⟨(some 14), (COp.call (CX.c (CVal.func 24 [] [])) [CX.t 13]), none⟩,
      ⟨(some 15), (COp.call (CX.c (CVal.func 23 [] [])) [CX.t 10, CX.t 14]), none⟩])
    (.seq (.region [⟨(some 16), (COp.move (CX.t 3)), none⟩,
       ⟨(some 17), (COp.call (CX.c (CVal.func 23 [] [])) [CX.t 16, CX.c (CVal.str [59, 32, 114, 101, 115, 111, 117, 114, 99, 101, 32, 98, 32])]), none⟩])
     (.seq (.region [⟨(some 18), (COp.move (CX.t 3)), none⟩,
        ⟨(some 19), (COp.move (CX.t 3)), none⟩,
        ⟨(some 20), (COp.call (CX.c (CVal.func 25 [] [])) [CX.t 19, CX.c (CVal.int (Go.IntKind.i64) 2)]), none⟩,
        ⟨(some 21), (COp.bin (Go.BinOp.add) (CX.c (CVal.int (Go.IntKind.i64) 1)) (CX.t 20)), none⟩,
        ⟨(some 22), (COp.call (CX.c (CVal.func 24 [] [])) [CX.t 21]), none⟩,
        ⟨(some 23), (COp.call (CX.c (CVal.func 23 [] [])) [CX.t 18, CX.t 22]), none⟩])
      (.seq (.region [⟨(some 24), (COp.move (CX.t 3)), none⟩,
         ⟨(some 25), (COp.call (CX.c (CVal.func 23 [] [])) [CX.t 24, CX.c (CVal.str [59, 32, 115, 101, 109, 97, 112, 104, 111, 114, 101, 32, 115, 32])]), none⟩])
       (.seq (.region [⟨(some 26), (COp.move (CX.t 3)), none⟩,
          ⟨(some 27), (COp.call (CX.c (CVal.func 26 [] [])) [CX.t 26, CX.c (CVal.int (Go.IntKind.i64) 3)]), none⟩])
        (.seq (.region [⟨(some 28), (COp.move (CX.t 3)), none⟩,
           ⟨(some 29), (COp.call (CX.c (CVal.func 23 [] [])) [CX.t 28, CX.c (CVal.str [59, 32, 115, 104, 97, 114, 101, 100, 32, 118, 59, 32, 115, 104, 97, 114, 101, 100, 32, 119, 91, 50, 93, 59, 32, 118, 97, 114, 32, 103, 59, 32, 118, 97, 114, 32, 104, 91, 52, 93, 59, 10])]), none⟩])
         (.seq (.seq (.region [⟨(some 4), (COp.move (CX.c (CVal.int (Go.IntKind.i64) 1))), none⟩])
           (.block 0 (.loop (.seq (.seq (.region [⟨(some 30), (COp.move (CX.t 4)), none⟩,
                 ⟨(some 31), (COp.bin (Go.BinOp.leq) (CX.t 30) (CX.c (CVal.int (Go.IntKind.i64) 3))), none⟩])
               (.cond (CX.t 31) (.skip)
                (.exit 0)))
              (.seq (.block 1 (.seq (.region [⟨(some 34), (COp.move (CX.t 3)), none⟩,
                   ⟨(some 35), (COp.move (CX.t 4)), none⟩,
                   ⟨(some 36), (COp.nilCheck (CX.t 34)), none⟩,
                   ⟨(some 37), (COp.fieldAddr 3 (CX.t 36)), none⟩,
                   ⟨none, (COp.store 1 (CX.t 37) (CX.t 35)), none⟩])
                 (.seq (.region [⟨(some 38), (COp.move (CX.t 3)), none⟩,
                    ⟨(some 39), (COp.move (CX.t 4)), none⟩,
                    ⟨(some 40), (COp.call (CX.c (CVal.func 24 [] [])) [CX.t 39]), none⟩,
                    ⟨(some 41), (COp.bin (Go.BinOp.add) (CX.c (CVal.str [112, 114, 111, 99, 101, 100, 117, 114, 101, 32, 112])) (CX.t 40)), none⟩,
                    ⟨(some 42), (COp.bin (Go.BinOp.add) (CX.t 41) (CX.c (CVal.str [40, 120, 41, 59, 10, 98, 101, 103, 105, 110, 32]))), none⟩,
                    ⟨(some 43), (COp.call (CX.c (CVal.func 23 [] [])) [CX.t 38, CX.t 42]), none⟩])
                  (.seq (.region [⟨(some 44), (COp.move (CX.t 3)), none⟩,
                     ⟨(some 45), (COp.call (CX.c (CVal.func 27 [] [])) [CX.t 44, CX.c (CVal.int (Go.IntKind.i64) 2)]), none⟩])
                   (.region [⟨(some 46), (COp.move (CX.t 3)), none⟩,
                     ⟨(some 47), (COp.call (CX.c (CVal.func 23 [] [])) [CX.t 46, CX.c (CVal.str [32, 101, 110, 100, 59, 10])]), none⟩])))))
               (.region [⟨(some 32), (COp.move (CX.t 4)), none⟩,
                 ⟨(some 33), (COp.bin (Go.BinOp.add) (CX.t 32) (CX.c (CVal.int (Go.IntKind.i64) 1))), none⟩,
                 ⟨(some 4), (COp.move (CX.t 33)), none⟩]))))))
          (.seq (.region [⟨(some 48), (COp.move (CX.t 3)), none⟩,
             ⟨(some 49), (COp.nilCheck (CX.t 48)), none⟩,
             ⟨(some 50), (COp.fieldAddr 3 (CX.t 49)), none⟩,
             ⟨none, (COp.store 1 (CX.t 50) (CX.c (CVal.int (Go.IntKind.i64) 0))), none⟩])
           (.seq (.region [⟨(some 51), (COp.move (CX.t 3)), none⟩,
              ⟨(some 52), (COp.call (CX.c (CVal.func 23 [] [])) [CX.t 51, CX.c (CVal.str [99, 108, 97, 105, 109, 115, 32, 97, 32])]), none⟩])
            (.seq (.region [⟨(some 53), (COp.move (CX.t 3)), none⟩,
               ⟨(some 54), (COp.move (CX.t 3)), none⟩,
               ⟨(some 55), (COp.call (CX.c (CVal.func 25 [] [])) [CX.t 54, CX.c (CVal.int (Go.IntKind.i64) 2)]), none⟩,
               ⟨(some 56), (COp.bin (Go.BinOp.add) (CX.c (CVal.int (Go.IntKind.i64) 1)) (CX.t 55)), none⟩,
               ⟨(some 57), (COp.call (CX.c (CVal.func 24 [] [])) [CX.t 56]), none⟩,
               ⟨(some 58), (COp.call (CX.c (CVal.func 23 [] [])) [CX.t 53, CX.t 57]), none⟩])
             (.seq (.region [⟨(some 59), (COp.move (CX.t 3)), none⟩,
                ⟨(some 60), (COp.call (CX.c (CVal.func 23 [] [])) [CX.t 59, CX.c (CVal.str [44, 32, 98, 32, 49, 59, 10, 98, 101, 103, 105, 110, 32])]), none⟩])
              (.seq (.region [⟨(some 61), (COp.move (CX.t 3)), none⟩,
                 ⟨(some 62), (COp.call (CX.c (CVal.func 27 [] [])) [CX.t 61, CX.c (CVal.int (Go.IntKind.i64) 2)]), none⟩])
               (.seq (.region [⟨(some 63), (COp.move (CX.t 3)), none⟩,
                  ⟨(some 64), (COp.call (CX.c (CVal.func 23 [] [])) [CX.t 63, CX.c (CVal.str [59, 10])]), none⟩])
                (.seq (.region [⟨(some 65), (COp.move (CX.t 3)), none⟩,
                   ⟨(some 66), (COp.call (CX.c (CVal.func 28 [] [])) [CX.t 65]), none⟩])
                 (.seq (.region [⟨(some 67), (COp.move (CX.t 3)), none⟩,
                    ⟨(some 68), (COp.call (CX.c (CVal.func 23 [] [])) [CX.t 67, CX.c (CVal.str [59, 10])]), none⟩])
                  (.seq (.region [⟨(some 69), (COp.move (CX.t 3)), none⟩,
                     ⟨(some 70), (COp.call (CX.c (CVal.func 27 [] [])) [CX.t 69, CX.c (CVal.int (Go.IntKind.i64) 1)]), none⟩])
                   (.seq (.region [⟨(some 71), (COp.move (CX.t 3)), none⟩,
                      ⟨(some 72), (COp.call (CX.c (CVal.func 23 [] [])) [CX.t 71, CX.c (CVal.str [32, 101, 110, 100, 46])]), none⟩])
                    (.seq (.region [⟨(some 73), (COp.move (CX.t 3)), none⟩,
                       ⟨(some 74), (COp.nilCheck (CX.t 73)), none⟩,
                       ⟨(some 75), (COp.fieldAddr 2 (CX.t 74)), none⟩,
                       ⟨(some 76), (COp.load false 1 (CX.t 75)), none⟩,
                       ⟨(some 2), (COp.move (CX.t 76)), none⟩])
                     (.ret)))))))))))))))))))))⟩
theorem ok11 : compFunc prog glb 11 p11 = some c11 := by kernel_rfl
/-- signalbox/signalboxlaw21.second -/
def p12 : List Plan := []
def c12 : CFunc := ⟨11, [CRV.cell 2 true 2],
 .seq (.region [⟨(some 2), (COp.new [CVal.int (Go.IntKind.i64) 0, CVal.int (Go.IntKind.i64) 0]), none⟩])
 (.seq (.region [⟨(some 6), (COp.move (CX.t 0)), none⟩,
    ⟨(some 7), (COp.call (CX.c (CVal.func 8 [] [])) [CX.t 6]), none⟩,
    ⟨(some 5), (COp.move (CX.t 7)), none⟩,
    ⟨(some 8), (COp.extract (CX.t 5) 0), none⟩,
    ⟨(some 9), (COp.extract (CX.t 5) 1), none⟩,
    ⟨(some 4), (COp.new [CVal.int (Go.IntKind.i64) 0, CVal.int (Go.IntKind.i64) 0]), none⟩,
    ⟨(some 3), (COp.move (CX.t 8)), none⟩,
    ⟨none, (COp.store 2 (CX.t 4) (CX.t 9)), none⟩])
  (.seq (.region [⟨(some 10), (COp.load true 2 (CX.t 4)), none⟩,
     ⟨none, (COp.store 2 (CX.t 2) (CX.t 10)), none⟩])
   (.ret)))⟩
theorem ok12 : compFunc prog glb 12 p12 = some c12 := by kernel_rfl
/-- signalbox/signalboxmake.Within -/
def p13 : List Plan := []
def c13 : CFunc := ⟨25, [CRV.tmp 6],
 .seq (.region [⟨(some 6), (COp.move (CX.c (CVal.int (Go.IntKind.i64) 0))), none⟩])
 (.seq (.region [⟨(some 8), (COp.move (CX.t 0)), none⟩,
    ⟨(some 9), (COp.move (CX.t 2)), none⟩,
    ⟨(some 10), (COp.move (CX.t 1)), none⟩,
    ⟨(some 11), (COp.bin (Go.BinOp.sub) (CX.t 9) (CX.t 10)), none⟩,
    ⟨(some 12), (COp.bin (Go.BinOp.add) (CX.t 11) (CX.c (CVal.int (Go.IntKind.i64) 1))), none⟩,
    ⟨(some 13), (COp.bin (Go.BinOp.rem) (CX.t 8) (CX.t 12)), none⟩,
    ⟨(some 7), (COp.move (CX.t 13)), none⟩])
  (.seq (.seq (.region [⟨(some 14), (COp.move (CX.t 7)), none⟩,
      ⟨(some 15), (COp.bin (Go.BinOp.lss) (CX.t 14) (CX.c (CVal.int (Go.IntKind.i64) 0))), none⟩])
    (.cond (CX.t 15) (.region [⟨(some 16), (COp.move (CX.t 7)), none⟩,
       ⟨(some 17), (COp.move (CX.t 2)), none⟩,
       ⟨(some 18), (COp.bin (Go.BinOp.add) (CX.t 16) (CX.t 17)), none⟩,
       ⟨(some 19), (COp.move (CX.t 1)), none⟩,
       ⟨(some 20), (COp.bin (Go.BinOp.sub) (CX.t 18) (CX.t 19)), none⟩,
       ⟨(some 21), (COp.bin (Go.BinOp.add) (CX.t 20) (CX.c (CVal.int (Go.IntKind.i64) 1))), none⟩,
       ⟨(some 7), (COp.move (CX.t 21)), none⟩])
     (.skip)))
   (.seq (.region [⟨(some 22), (COp.move (CX.t 1)), none⟩,
      ⟨(some 23), (COp.move (CX.t 7)), none⟩,
      ⟨(some 24), (COp.bin (Go.BinOp.add) (CX.t 22) (CX.t 23)), none⟩,
      ⟨(some 6), (COp.move (CX.t 24)), none⟩])
    (.ret))))⟩
theorem ok13 : compFunc prog glb 13 p13 = some c13 := by kernel_rfl
/-- signalbox/token.Word -/
def p14 : List Plan := []
def c14 : CFunc := ⟨6, [CRV.tmp 2],
 .seq (.region [⟨(some 2), (COp.move (CX.c (CVal.bool false))), none⟩])
 (.seq (.region [⟨(some 3), (COp.call (CX.c (CVal.func 15 [] [])) []), none⟩,
    ⟨(some 4), (COp.move (CX.t 0)), none⟩,
    ⟨(some 5), (COp.lookup (KT.one (PK.str)) (CVal.bool false) false (CX.t 3) (CX.t 4)), none⟩,
    ⟨(some 2), (COp.move (CX.t 5)), none⟩])
  (.ret))⟩
theorem ok14 : compFunc prog glb 14 p14 = some c14 := by kernel_rfl
/-- signalbox/token.words -/
def p15 : List Plan := []
def c15 : CFunc := ⟨15, [CRV.tmp 0],
 .seq (.region [⟨(some 0), (COp.move (CX.c (CVal.nilMap))), none⟩])
 (.seq (.region [⟨(some 4), (COp.newMap), none⟩,
    ⟨(some 1), (COp.move (CX.t 4)), none⟩])
  (.seq (.seq (.region [⟨(some 5), (COp.call (CX.c (CVal.func 29 [] [])) [CX.c (CVal.str [112, 114, 111, 103, 114, 97, 109, 32, 114, 101, 115, 111, 117, 114, 99, 101, 32, 115, 101, 109, 97, 112, 104, 111, 114, 101, 32, 115, 104, 97, 114, 101, 100, 32, 118, 97, 114, 32, 112, 114, 111, 99, 101, 100, 117, 114, 101, 32, 99, 108, 97, 105, 109, 115, 32, 98, 101, 103, 105, 110, 32, 101, 110, 100, 32, 105, 102, 32, 116, 104, 101, 110, 32, 101, 108, 115, 101, 32, 102, 105, 32, 119, 104, 105, 108, 101, 32, 100, 111, 32, 111, 100, 32, 99, 111, 98, 101, 103, 105, 110, 32, 99, 111, 101, 110, 100, 32, 114, 101, 103, 105, 111, 110, 32, 119, 104, 101, 110, 32, 114, 101, 113, 117, 101, 115, 116, 32, 114, 101, 108, 101, 97, 115, 101, 32, 119, 114, 105, 116, 101, 32, 114, 101, 97, 100, 32, 115, 107, 105, 112, 32, 116, 114, 117, 101, 32, 102, 97, 108, 115, 101, 32, 97, 110, 100, 32, 111, 114, 32, 110, 111, 116, 32, 80, 32, 86])]), none⟩,
      ⟨(some 6), (COp.len (LK.slice) (CX.t 5)), none⟩,
      ⟨(some 7), (COp.move (CX.c (CVal.int (Go.IntKind.i64) 0))), none⟩])
    (.block 0 (.loop (.seq (.region [⟨(some 8), (COp.bin (Go.BinOp.lss) (CX.t 7) (CX.t 6)), none⟩])
       (.seq (.cond (CX.t 8) (.skip)
         (.exit 0))
        (.seq (.block 1 (.seq (.region [⟨(some 9), (COp.indexAddr 1 (CX.t 5) (CX.t 7)), none⟩,
             ⟨(some 10), (COp.load false 1 (CX.t 9)), none⟩,
             ⟨(some 3), (COp.move (CX.t 10)), none⟩])
           (.region [⟨(some 11), (COp.move (CX.t 1)), none⟩,
             ⟨(some 12), (COp.move (CX.t 3)), none⟩,
             ⟨none, (COp.mapUpdate (KT.one (PK.str)) (CX.t 11) (CX.t 12) (CX.c (CVal.bool true))), none⟩])))
         (.region [⟨(some 13), (COp.bin (Go.BinOp.add) (CX.t 7) (CX.c (CVal.int (Go.IntKind.i64) 1))), none⟩,
           ⟨(some 7), (COp.move (CX.t 13)), none⟩])))))))
   (.seq (.region [⟨(some 14), (COp.move (CX.t 1)), none⟩,
      ⟨(some 0), (COp.move (CX.t 14)), none⟩])
    (.ret))))⟩
theorem ok15 : compFunc prog glb 15 p15 = some c15 := by kernel_rfl
/-- (*signalbox/token.lexer).next -/
def p16 : List Plan := [⟨[(4, DK.quiet [0]), (5, DK.quiet [0]), (6, DK.quiet [0]), (7, DK.quiet [0]), (0, DK.quiet [0]), (1, DK.quiet [0]), (2, DK.quiet [0]), (3, DK.quiet [0]), (8, DK.quiet [0]), (9, DK.quiet [0])], 0, [0, 1, 3, 7, 0, 16, 48, 112, 255, 511]⟩]
def c16 : CFunc := ⟨80, [CRV.tmp 2],
 .seq (.region [⟨(some 2), (COp.move (CX.c (CVal.int (Go.IntKind.i64) 0))), none⟩])
 (.seq (.draw [⟨4, ⟨(some 10), (COp.move (CX.t 0)), none⟩, (DK.quiet [0])⟩,
    ⟨5, ⟨(some 11), (COp.nilCheck (CX.t 10)), none⟩, (DK.quiet [0])⟩,
    ⟨6, ⟨(some 12), (COp.fieldAddr 1 (CX.t 11)), none⟩, (DK.quiet [0])⟩,
    ⟨7, ⟨(some 13), (COp.load false 1 (CX.t 12)), none⟩, (DK.quiet [0])⟩,
    ⟨0, ⟨(some 6), (COp.move (CX.t 0)), none⟩, (DK.quiet [0])⟩,
    ⟨1, ⟨(some 7), (COp.nilCheck (CX.t 6)), none⟩, (DK.quiet [0])⟩,
    ⟨2, ⟨(some 8), (COp.fieldAddr 0 (CX.t 7)), none⟩, (DK.quiet [0])⟩,
    ⟨3, ⟨(some 9), (COp.load false 1 (CX.t 8)), none⟩, (DK.quiet [0])⟩,
    ⟨8, ⟨(some 14), (COp.sliceStr (CX.t 9) (some (CX.t 13)) none), none⟩, (DK.quiet [0])⟩,
    ⟨9, ⟨(some 3), (COp.move (CX.t 14)), none⟩, (DK.quiet [0])⟩] 0)
  (.seq (.region [⟨(some 15), (COp.move (CX.t 3)), none⟩,
     ⟨(some 16), (COp.indexStr (CX.t 15) (CX.c (CVal.int (Go.IntKind.i64) 0))), none⟩,
     ⟨(some 17), (COp.conv (Go.IntKind.i32) (CX.t 16)), none⟩,
     ⟨(some 4), (COp.move (CX.t 17)), none⟩])
   (.seq (.block 0 (.seq (.region [⟨(some 19), (COp.move (CX.t 4)), none⟩,
        ⟨(some 20), (COp.call (CX.c (CVal.func 30 [] [])) [CX.t 19]), none⟩,
        ⟨(some 18), (COp.move (CX.t 20)), none⟩])
      (.cond (CX.t 18) (.region [⟨(some 21), (COp.move (CX.t 0)), none⟩,
         ⟨(some 22), (COp.nilCheck (CX.t 21)), none⟩,
         ⟨(some 23), (COp.fieldAddr 1 (CX.t 22)), none⟩,
         ⟨(some 24), (COp.load false 1 (CX.t 23)), none⟩,
         ⟨(some 25), (COp.bin (Go.BinOp.add) (CX.t 24) (CX.c (CVal.int (Go.IntKind.i64) 1))), none⟩,
         ⟨(some 26), (COp.nilCheck (CX.t 21)), none⟩,
         ⟨(some 27), (COp.fieldAddr 1 (CX.t 26)), none⟩,
         ⟨none, (COp.store 1 (CX.t 27) (CX.t 25)), none⟩])
       (.seq (.region [⟨(some 29), (COp.move (CX.t 4)), none⟩,
          ⟨(some 30), (COp.bin (Go.BinOp.eql) (CX.t 29) (CX.c (CVal.int (Go.IntKind.i32) 123))), none⟩,
          ⟨(some 28), (COp.move (CX.t 30)), none⟩])
        (.cond (CX.t 28) (.seq (.region [⟨(some 31), (COp.move (CX.t 3)), none⟩,
            ⟨(some 32), (COp.call (CX.c (CVal.func 31 [] [])) [CX.t 31, CX.c (CVal.int (Go.IntKind.u8) 125)]), none⟩,
            ⟨(some 5), (COp.move (CX.t 32)), none⟩])
          (.seq (.seq (.region [⟨(some 33), (COp.move (CX.t 5)), none⟩,
              ⟨(some 34), (COp.bin (Go.BinOp.lss) (CX.t 33) (CX.c (CVal.int (Go.IntKind.i64) 0))), none⟩])
            (.cond (CX.t 34) (.seq (.region [⟨(some 2), (COp.move (CX.c (CVal.int (Go.IntKind.i64) 11))), none⟩])
              (.ret))
             (.skip)))
           (.region [⟨(some 35), (COp.move (CX.t 0)), none⟩,
             ⟨(some 36), (COp.nilCheck (CX.t 35)), none⟩,
             ⟨(some 37), (COp.fieldAddr 1 (CX.t 36)), none⟩,
             ⟨(some 38), (COp.load false 1 (CX.t 37)), none⟩,
             ⟨(some 39), (COp.move (CX.t 5)), none⟩,
             ⟨(some 40), (COp.bin (Go.BinOp.add) (CX.t 39) (CX.c (CVal.int (Go.IntKind.i64) 1))), none⟩,
             ⟨(some 41), (COp.bin (Go.BinOp.add) (CX.t 38) (CX.t 40)), none⟩,
             ⟨(some 42), (COp.nilCheck (CX.t 35)), none⟩,
             ⟨(some 43), (COp.fieldAddr 1 (CX.t 42)), none⟩,
             ⟨none, (COp.store 1 (CX.t 43) (CX.t 41)), none⟩])))
         (.seq (.region [⟨(some 45), (COp.move (CX.t 4)), none⟩,
            ⟨(some 46), (COp.bin (Go.BinOp.eql) (CX.t 45) (CX.c (CVal.int (Go.IntKind.i32) 80))), none⟩,
            ⟨(some 47), (COp.move (CX.t 46)), none⟩,
            ⟨(some 48), (COp.move (CX.t 4)), (some (47, false))⟩,
            ⟨(some 49), (COp.bin (Go.BinOp.eql) (CX.t 48) (CX.c (CVal.int (Go.IntKind.i32) 86))), (some (47, false))⟩,
            ⟨(some 50), (COp.pick (CX.t 47) (CX.c (CVal.bool true)) (CX.t 49)), none⟩,
            ⟨(some 44), (COp.move (CX.t 50)), none⟩])
          (.cond (CX.t 44) (.region [⟨(some 51), (COp.move (CX.t 0)), none⟩,
             ⟨(some 52), (COp.move (CX.t 3)), none⟩,
             ⟨(some 53), (COp.sliceStr (CX.t 52) none (some (CX.c (CVal.int (Go.IntKind.i64) 1)))), none⟩,
             ⟨(some 54), (COp.build [CVal.int (Go.IntKind.i64) 0, CVal.int (Go.IntKind.i64) 0, CVal.int (Go.IntKind.i64) 0, CVal.str []] [(0, 1, CX.c (CVal.int (Go.IntKind.i64) 3)), (3, 1, CX.t 53)]), none⟩,
             ⟨(some 55), (COp.call (CX.c (CVal.func 17 [] [])) [CX.t 51, CX.t 54, CX.c (CVal.int (Go.IntKind.i64) 1)]), none⟩])
           (.seq (.region [⟨(some 57), (COp.move (CX.t 4)), none⟩,
              ⟨(some 58), (COp.call (CX.c (CVal.func 32 [] [])) [CX.t 57]), none⟩,
              ⟨(some 56), (COp.move (CX.t 58)), none⟩])
            (.cond (CX.t 56) (.seq (.region [⟨(some 59), (COp.move (CX.t 0)), none⟩,
                ⟨(some 60), (COp.move (CX.t 3)), none⟩,
                ⟨(some 61), (COp.call (CX.c (CVal.func 33 [] [])) [CX.t 59, CX.t 60]), none⟩,
                ⟨(some 2), (COp.move (CX.t 61)), none⟩])
              (.ret))
             (.seq (.region [⟨(some 63), (COp.move (CX.t 4)), none⟩,
                ⟨(some 64), (COp.call (CX.c (CVal.func 34 [] [])) [CX.t 63]), none⟩,
                ⟨(some 62), (COp.move (CX.t 64)), none⟩])
              (.cond (CX.t 62) (.seq (.region [⟨(some 65), (COp.move (CX.t 0)), none⟩,
                  ⟨(some 66), (COp.move (CX.t 3)), none⟩,
                  ⟨(some 67), (COp.call (CX.c (CVal.func 35 [] [])) [CX.t 65, CX.t 66]), none⟩,
                  ⟨(some 2), (COp.move (CX.t 67)), none⟩])
                (.ret))
               (.seq (.region [⟨(some 69), (COp.move (CX.t 3)), none⟩,
                  ⟨(some 70), (COp.call (CX.c (CVal.func 36 [] [])) [CX.t 69]), none⟩,
                  ⟨(some 71), (COp.bin (Go.BinOp.neq) (CX.t 70) (CX.c (CVal.str []))), none⟩,
                  ⟨(some 68), (COp.move (CX.t 71)), none⟩])
                (.cond (CX.t 68) (.region [⟨(some 72), (COp.move (CX.t 0)), none⟩,
                   ⟨(some 73), (COp.move (CX.t 3)), none⟩,
                   ⟨(some 74), (COp.call (CX.c (CVal.func 36 [] [])) [CX.t 73]), none⟩,
                   ⟨(some 75), (COp.build [CVal.int (Go.IntKind.i64) 0, CVal.int (Go.IntKind.i64) 0, CVal.int (Go.IntKind.i64) 0, CVal.str []] [(0, 1, CX.c (CVal.int (Go.IntKind.i64) 4)), (3, 1, CX.t 74)]), none⟩,
                   ⟨(some 76), (COp.move (CX.t 3)), none⟩,
                   ⟨(some 77), (COp.call (CX.c (CVal.func 36 [] [])) [CX.t 76]), none⟩,
                   ⟨(some 78), (COp.len (LK.str) (CX.t 77)), none⟩,
                   ⟨(some 79), (COp.call (CX.c (CVal.func 17 [] [])) [CX.t 72, CX.t 75, CX.t 78]), none⟩])
                 (.seq (.region [⟨(some 2), (COp.move (CX.c (CVal.int (Go.IntKind.i64) 11))), none⟩])
                  (.ret)))))))))))))))
    (.seq (.region [⟨(some 2), (COp.move (CX.c (CVal.int (Go.IntKind.i64) 0))), none⟩])
     (.ret)))))⟩
theorem ok16 : compFunc prog glb 16 p16 = some c16 := by kernel_rfl
/-- (*signalbox/token.lexer).add -/
def p17 : List Plan := [⟨[(5, DK.quiet [0]), (6, DK.eff), (1, DK.quiet [0, 2]), (2, DK.quiet [0, 2]), (3, DK.quiet [0, 2]), (4, DK.quiet [0, 2]), (7, DK.eff), (0, DK.quiet [0, 2, 7]), (8, DK.quiet [7]), (9, DK.quiet [7]), (10, DK.eff)], 0, [0, 0, 2, 6, 14, 0, 32, 126, 255, 511, 1023]⟩]
def c17 : CFunc := ⟨29, [],
 .seq (.region [⟨(some 4), (COp.box (CX.t 1)), none⟩])
 (.seq (.region [⟨(some 6), (COp.move (CX.t 0)), none⟩,
    ⟨(some 7), (COp.nilCheck (CX.t 6)), none⟩,
    ⟨(some 8), (COp.fieldAddr 1 (CX.t 7)), none⟩,
    ⟨(some 9), (COp.load false 1 (CX.t 8)), none⟩,
    ⟨(some 10), (COp.fieldAddr 1 (CX.t 4)), none⟩,
    ⟨none, (COp.store 1 (CX.t 10) (CX.t 9)), none⟩])
  (.seq (.draw [⟨5, ⟨(some 16), (COp.load true 4 (CX.t 4)), none⟩, (DK.quiet [0])⟩,
     ⟨6, ⟨(some 17), (COp.buildSlice [CVal.int (Go.IntKind.i64) 0, CVal.int (Go.IntKind.i64) 0, CVal.int (Go.IntKind.i64) 0, CVal.str []] 1 [(0, 4, CX.t 16)]), none⟩, (DK.eff)⟩,
     ⟨1, ⟨(some 12), (COp.move (CX.t 0)), none⟩, (DK.quiet [0, 2])⟩,
     ⟨2, ⟨(some 13), (COp.nilCheck (CX.t 12)), none⟩, (DK.quiet [0, 2])⟩,
     ⟨3, ⟨(some 14), (COp.fieldAddr 3 (CX.t 13)), none⟩, (DK.quiet [0, 2])⟩,
     ⟨4, ⟨(some 15), (COp.load false 1 (CX.t 14)), none⟩, (DK.quiet [0, 2])⟩,
     ⟨7, ⟨(some 18), (COp.append 4 40 (CX.t 15) (CX.t 17)), none⟩, (DK.eff)⟩,
     ⟨0, ⟨(some 11), (COp.move (CX.t 0)), none⟩, (DK.quiet [0, 2, 7])⟩,
     ⟨8, ⟨(some 19), (COp.nilCheck (CX.t 11)), none⟩, (DK.quiet [7])⟩,
     ⟨9, ⟨(some 20), (COp.fieldAddr 3 (CX.t 19)), none⟩, (DK.quiet [7])⟩,
     ⟨10, ⟨none, (COp.store 1 (CX.t 20) (CX.t 18)), none⟩, (DK.eff)⟩] 0)
   (.region [⟨(some 21), (COp.move (CX.t 0)), none⟩,
     ⟨(some 22), (COp.nilCheck (CX.t 21)), none⟩,
     ⟨(some 23), (COp.fieldAddr 1 (CX.t 22)), none⟩,
     ⟨(some 24), (COp.load false 1 (CX.t 23)), none⟩,
     ⟨(some 25), (COp.move (CX.t 2)), none⟩,
     ⟨(some 26), (COp.bin (Go.BinOp.add) (CX.t 24) (CX.t 25)), none⟩,
     ⟨(some 27), (COp.nilCheck (CX.t 21)), none⟩,
     ⟨(some 28), (COp.fieldAddr 1 (CX.t 27)), none⟩,
     ⟨none, (COp.store 1 (CX.t 28) (CX.t 26)), none⟩])))⟩
theorem ok17 : compFunc prog glb 17 p17 = some c17 := by kernel_rfl
/-- signalbox/signalboxref21.letter -/
def p18 : List Plan := []
def c18 : CFunc := ⟨9, [CRV.tmp 2],
 .seq (.region [⟨(some 2), (COp.move (CX.c (CVal.bool false))), none⟩])
 (.seq (.region [⟨(some 3), (COp.move (CX.t 0)), none⟩,
    ⟨(some 4), (COp.bin (Go.BinOp.geq) (CX.t 3) (CX.c (CVal.int (Go.IntKind.u8) 97))), none⟩,
    ⟨(some 5), (COp.move (CX.t 4)), none⟩,
    ⟨(some 6), (COp.move (CX.t 0)), (some (5, true))⟩,
    ⟨(some 7), (COp.bin (Go.BinOp.leq) (CX.t 6) (CX.c (CVal.int (Go.IntKind.u8) 122))), (some (5, true))⟩,
    ⟨(some 8), (COp.pick (CX.t 5) (CX.t 7) (CX.c (CVal.bool false))), none⟩,
    ⟨(some 2), (COp.move (CX.t 8)), none⟩])
  (.ret))⟩
theorem ok18 : compFunc prog glb 18 p18 = some c18 := by kernel_rfl
/-- signalbox/signalboxref21.digit -/
def p19 : List Plan := []
def c19 : CFunc := ⟨9, [CRV.tmp 2],
 .seq (.region [⟨(some 2), (COp.move (CX.c (CVal.bool false))), none⟩])
 (.seq (.region [⟨(some 3), (COp.move (CX.t 0)), none⟩,
    ⟨(some 4), (COp.bin (Go.BinOp.geq) (CX.t 3) (CX.c (CVal.int (Go.IntKind.u8) 48))), none⟩,
    ⟨(some 5), (COp.move (CX.t 4)), none⟩,
    ⟨(some 6), (COp.move (CX.t 0)), (some (5, true))⟩,
    ⟨(some 7), (COp.bin (Go.BinOp.leq) (CX.t 6) (CX.c (CVal.int (Go.IntKind.u8) 57))), (some (5, true))⟩,
    ⟨(some 8), (COp.pick (CX.t 5) (CX.t 7) (CX.c (CVal.bool false))), none⟩,
    ⟨(some 2), (COp.move (CX.t 8)), none⟩])
  (.ret))⟩
theorem ok19 : compFunc prog glb 19 p19 = some c19 := by kernel_rfl
/-- signalbox/signalboxref21.Word -/
def p20 : List Plan := []
def c20 : CFunc := ⟨15, [CRV.tmp 2],
 .seq (.region [⟨(some 2), (COp.move (CX.c (CVal.bool false))), none⟩])
 (.seq (.region [⟨(some 5), (COp.build [CVal.str [], CVal.str [], CVal.str [], CVal.str [], CVal.str [], CVal.str [], CVal.str [], CVal.str [], CVal.str [], CVal.str [], CVal.str [], CVal.str [], CVal.str [], CVal.str [], CVal.str [], CVal.str [], CVal.str [], CVal.str [], CVal.str [], CVal.str [], CVal.str [], CVal.str [], CVal.str [], CVal.str [], CVal.str [], CVal.str [], CVal.str [], CVal.str [], CVal.str [], CVal.str [], CVal.str [], CVal.str []] [(0, 1, CX.c (CVal.str [112, 114, 111, 103, 114, 97, 109])), (1, 1, CX.c (CVal.str [114, 101, 115, 111, 117, 114, 99, 101])), (2, 1, CX.c (CVal.str [115, 101, 109, 97, 112, 104, 111, 114, 101])), (3, 1, CX.c (CVal.str [115, 104, 97, 114, 101, 100])), (4, 1, CX.c (CVal.str [118, 97, 114])), (5, 1, CX.c (CVal.str [112, 114, 111, 99, 101, 100, 117, 114, 101])), (6, 1, CX.c (CVal.str [99, 108, 97, 105, 109, 115])), (7, 1, CX.c (CVal.str [98, 101, 103, 105, 110])), (8, 1, CX.c (CVal.str [101, 110, 100])), (9, 1, CX.c (CVal.str [105, 102])), (10, 1, CX.c (CVal.str [116, 104, 101, 110])), (11, 1, CX.c (CVal.str [101, 108, 115, 101])), (12, 1, CX.c (CVal.str [102, 105])), (13, 1, CX.c (CVal.str [119, 104, 105, 108, 101])), (14, 1, CX.c (CVal.str [100, 111])), (15, 1, CX.c (CVal.str [111, 100])), (16, 1, CX.c (CVal.str [99, 111, 98, 101, 103, 105, 110])), (17, 1, CX.c (CVal.str [99, 111, 101, 110, 100])), (18, 1, CX.c (CVal.str [114, 101, 103, 105, 111, 110])), (19, 1, CX.c (CVal.str [119, 104, 101, 110])), (20, 1, CX.c (CVal.str [114, 101, 113, 117, 101, 115, 116])), (21, 1, CX.c (CVal.str [114, 101, 108, 101, 97, 115, 101])), (22, 1, CX.c (CVal.str [119, 114, 105, 116, 101])), (23, 1, CX.c (CVal.str [114, 101, 97, 100])), (24, 1, CX.c (CVal.str [115, 107, 105, 112])), (25, 1, CX.c (CVal.str [116, 114, 117, 101])), (26, 1, CX.c (CVal.str [102, 97, 108, 115, 101])), (27, 1, CX.c (CVal.str [97, 110, 100])), (28, 1, CX.c (CVal.str [111, 114])), (29, 1, CX.c (CVal.str [110, 111, 116])), (30, 1, CX.c (CVal.str [80])), (31, 1, CX.c (CVal.str [86]))]), none⟩,
    ⟨(some 3), (COp.new [CVal.str [], CVal.str [], CVal.str [], CVal.str [], CVal.str [], CVal.str [], CVal.str [], CVal.str [], CVal.str [], CVal.str [], CVal.str [], CVal.str [], CVal.str [], CVal.str [], CVal.str [], CVal.str [], CVal.str [], CVal.str [], CVal.str [], CVal.str [], CVal.str [], CVal.str [], CVal.str [], CVal.str [], CVal.str [], CVal.str [], CVal.str [], CVal.str [], CVal.str [], CVal.str [], CVal.str [], CVal.str []]), none⟩,
    ⟨none, (COp.store 32 (CX.t 3) (CX.t 5)), none⟩])
  (.seq (.seq (.region [⟨(some 4), (COp.move (CX.c (CVal.int (Go.IntKind.i64) 0))), none⟩])
    (.block 0 (.loop (.seq (.seq (.region [⟨(some 6), (COp.move (CX.t 4)), none⟩,
          ⟨(some 7), (COp.bin (Go.BinOp.lss) (CX.t 6) (CX.c (CVal.int (Go.IntKind.i64) 32))), none⟩])
        (.cond (CX.t 7) (.skip)
         (.exit 0)))
       (.seq (.block 1 (.seq (.region [⟨(some 10), (COp.move (CX.t 4)), none⟩,
            ⟨(some 11), (COp.indexAddrArr 32 1 (CX.t 3) (CX.t 10)), none⟩,
            ⟨(some 12), (COp.load false 1 (CX.t 11)), none⟩,
            ⟨(some 13), (COp.move (CX.t 0)), none⟩,
            ⟨(some 14), (COp.bin (Go.BinOp.eql) (CX.t 12) (CX.t 13)), none⟩])
          (.cond (CX.t 14) (.seq (.region [⟨(some 2), (COp.move (CX.c (CVal.bool true))), none⟩])
            (.ret))
           (.skip))))
        (.region [⟨(some 8), (COp.move (CX.t 4)), none⟩,
          ⟨(some 9), (COp.bin (Go.BinOp.add) (CX.t 8) (CX.c (CVal.int (Go.IntKind.i64) 1))), none⟩,
          ⟨(some 4), (COp.move (CX.t 9)), none⟩]))))))
   (.seq (.region [⟨(some 2), (COp.move (CX.c (CVal.bool false))), none⟩])
    (.ret))))⟩
theorem ok20 : compFunc prog glb 20 p20 = some c20 := by kernel_rfl
/-- signalbox/signalboxref21.number -/
def p21 : List Plan := []
def c21 : CFunc := ⟨29, [CRV.tmp 2, CRV.tmp 3],
 .seq (.region [⟨(some 2), (COp.move (CX.c (CVal.int (Go.IntKind.i64) 0))), none⟩,
   ⟨(some 3), (COp.move (CX.c (CVal.bool false))), none⟩])
 (.seq (.region [⟨(some 4), (COp.move (CX.c (CVal.int (Go.IntKind.i64) 0))), none⟩])
  (.seq (.seq (.region [⟨(some 5), (COp.move (CX.c (CVal.int (Go.IntKind.i64) 0))), none⟩])
    (.block 0 (.loop (.seq (.seq (.region [⟨(some 7), (COp.move (CX.t 5)), none⟩,
          ⟨(some 8), (COp.move (CX.t 0)), none⟩,
          ⟨(some 9), (COp.len (LK.slice) (CX.t 8)), none⟩,
          ⟨(some 10), (COp.bin (Go.BinOp.lss) (CX.t 7) (CX.t 9)), none⟩])
        (.cond (CX.t 10) (.skip)
         (.exit 0)))
       (.seq (.block 1 (.seq (.region [⟨(some 13), (COp.move (CX.t 0)), none⟩,
            ⟨(some 14), (COp.move (CX.t 5)), none⟩,
            ⟨(some 15), (COp.indexAddr 1 (CX.t 13) (CX.t 14)), none⟩,
            ⟨(some 16), (COp.load false 1 (CX.t 15)), none⟩,
            ⟨(some 17), (COp.bin (Go.BinOp.sub) (CX.t 16) (CX.c (CVal.int (Go.IntKind.u8) 48))), none⟩,
            ⟨(some 18), (COp.conv (Go.IntKind.i64) (CX.t 17)), none⟩,
            ⟨(some 6), (COp.move (CX.t 18)), none⟩])
          (.seq (.seq (.region [⟨(some 19), (COp.move (CX.t 4)), none⟩,
              ⟨(some 20), (COp.move (CX.t 6)), none⟩,
              ⟨(some 21), (COp.bin (Go.BinOp.sub) (CX.c (CVal.int (Go.IntKind.i64) 9223372036854775807)) (CX.t 20)), none⟩,
              ⟨(some 22), (COp.bin (Go.BinOp.quo) (CX.t 21) (CX.c (CVal.int (Go.IntKind.i64) 10))), none⟩,
              ⟨(some 23), (COp.bin (Go.BinOp.gtr) (CX.t 19) (CX.t 22)), none⟩])
            (.cond (CX.t 23) (.seq (.region [⟨(some 2), (COp.move (CX.c (CVal.int (Go.IntKind.i64) 0))), none⟩,
                ⟨(some 3), (COp.move (CX.c (CVal.bool false))), none⟩])
              (.ret))
             (.skip)))
           (.region [⟨(some 24), (COp.move (CX.t 4)), none⟩,
             ⟨(some 25), (COp.bin (Go.BinOp.mul) (CX.c (CVal.int (Go.IntKind.i64) 10)) (CX.t 24)), none⟩,
             ⟨(some 26), (COp.move (CX.t 6)), none⟩,
             ⟨(some 27), (COp.bin (Go.BinOp.add) (CX.t 25) (CX.t 26)), none⟩,
             ⟨(some 4), (COp.move (CX.t 27)), none⟩]))))
        (.region [⟨(some 11), (COp.move (CX.t 5)), none⟩,
          ⟨(some 12), (COp.bin (Go.BinOp.add) (CX.t 11) (CX.c (CVal.int (Go.IntKind.i64) 1))), none⟩,
          ⟨(some 5), (COp.move (CX.t 12)), none⟩]))))))
   (.seq (.region [⟨(some 28), (COp.move (CX.t 4)), none⟩,
      ⟨(some 2), (COp.move (CX.t 28)), none⟩,
      ⟨(some 3), (COp.move (CX.c (CVal.bool true))), none⟩])
    (.ret))))⟩
theorem ok21 : compFunc prog glb 21 p21 = some c21 := by kernel_rfl
/-- signalbox/signalboxref21.sign -/
def p22 : List Plan := [⟨[(3, DK.quiet [0]), (4, DK.quiet [0]), (5, DK.quiet [0]), (1, DK.quiet [0]), (0, DK.quiet [0]), (2, DK.quiet [0]), (6, DK.quiet [0])], 0, [0, 0, 3, 0, 8, 24, 63]⟩]
def c22 : CFunc := ⟨43, [CRV.tmp 2],
 .seq (.region [⟨(some 2), (COp.move (CX.c (CVal.int (Go.IntKind.i64) 0))), none⟩])
 (.seq (.seq (.region [⟨(some 6), (COp.move (CX.t 0)), none⟩,
     ⟨(some 7), (COp.len (LK.slice) (CX.t 6)), none⟩,
     ⟨(some 8), (COp.bin (Go.BinOp.gtr) (CX.t 7) (CX.c (CVal.int (Go.IntKind.i64) 1))), none⟩])
   (.cond (CX.t 8) (.seq (.region [⟨(some 9), (COp.move (CX.t 0)), none⟩,
       ⟨(some 10), (COp.slice 1 (CX.t 9) none (some (CX.c (CVal.int (Go.IntKind.i64) 2))) none), none⟩,
       ⟨(some 11), (COp.strOf (CX.t 10)), none⟩,
       ⟨(some 3), (COp.move (CX.t 11)), none⟩])
     (.seq (.region [⟨(some 12), (COp.move (CX.t 3)), none⟩,
        ⟨(some 13), (COp.bin (Go.BinOp.eql) (CX.t 12) (CX.c (CVal.str [58, 61]))), none⟩,
        ⟨(some 14), (COp.move (CX.t 13)), none⟩,
        ⟨(some 15), (COp.move (CX.t 3)), (some (14, false))⟩,
        ⟨(some 16), (COp.bin (Go.BinOp.eql) (CX.t 15) (CX.c (CVal.str [60, 62]))), (some (14, false))⟩,
        ⟨(some 17), (COp.pick (CX.t 14) (CX.c (CVal.bool true)) (CX.t 16)), none⟩,
        ⟨(some 18), (COp.move (CX.t 17)), none⟩,
        ⟨(some 19), (COp.move (CX.t 3)), (some (18, false))⟩,
        ⟨(some 20), (COp.bin (Go.BinOp.eql) (CX.t 19) (CX.c (CVal.str [60, 61]))), (some (18, false))⟩,
        ⟨(some 21), (COp.pick (CX.t 18) (CX.c (CVal.bool true)) (CX.t 20)), none⟩,
        ⟨(some 22), (COp.move (CX.t 21)), none⟩,
        ⟨(some 23), (COp.move (CX.t 3)), (some (22, false))⟩,
        ⟨(some 24), (COp.bin (Go.BinOp.eql) (CX.t 23) (CX.c (CVal.str [62, 61]))), (some (22, false))⟩,
        ⟨(some 25), (COp.pick (CX.t 22) (CX.c (CVal.bool true)) (CX.t 24)), none⟩,
        ⟨(some 26), (COp.move (CX.t 25)), none⟩,
        ⟨(some 27), (COp.move (CX.t 3)), (some (26, false))⟩,
        ⟨(some 28), (COp.bin (Go.BinOp.eql) (CX.t 27) (CX.c (CVal.str [47, 47]))), (some (26, false))⟩,
        ⟨(some 29), (COp.pick (CX.t 26) (CX.c (CVal.bool true)) (CX.t 28)), none⟩])
      (.cond (CX.t 29) (.seq (.region [⟨(some 2), (COp.move (CX.c (CVal.int (Go.IntKind.i64) 2))), none⟩])
        (.ret))
       (.skip))))
    (.skip)))
  (.seq (.region [⟨(some 4), (COp.move (CX.c (CVal.str [59, 44, 40, 41, 91, 93, 43, 45, 42, 47, 37, 61, 60, 62, 46]))), none⟩])
   (.seq (.seq (.region [⟨(some 5), (COp.move (CX.c (CVal.int (Go.IntKind.i64) 0))), none⟩])
     (.block 0 (.loop (.seq (.seq (.region [⟨(some 30), (COp.move (CX.t 5)), none⟩,
           ⟨(some 31), (COp.move (CX.t 4)), none⟩,
           ⟨(some 32), (COp.len (LK.str) (CX.t 31)), none⟩,
           ⟨(some 33), (COp.bin (Go.BinOp.lss) (CX.t 30) (CX.t 32)), none⟩])
         (.cond (CX.t 33) (.skip)
          (.exit 0)))
        (.seq (.block 1 (.seq (.draw [⟨3, ⟨(some 39), (COp.move (CX.t 0)), none⟩, (DK.quiet [0])⟩,
             ⟨4, ⟨(some 40), (COp.indexAddr 1 (CX.t 39) (CX.c (CVal.int (Go.IntKind.i64) 0))), none⟩, (DK.quiet [0])⟩,
             ⟨5, ⟨(some 41), (COp.load false 1 (CX.t 40)), none⟩, (DK.quiet [0])⟩,
             ⟨1, ⟨(some 37), (COp.move (CX.t 5)), none⟩, (DK.quiet [0])⟩,
             ⟨0, ⟨(some 36), (COp.move (CX.t 4)), none⟩, (DK.quiet [0])⟩,
             ⟨2, ⟨(some 38), (COp.indexStr (CX.t 36) (CX.t 37)), none⟩, (DK.quiet [0])⟩,
             ⟨6, ⟨(some 42), (COp.bin (Go.BinOp.eql) (CX.t 38) (CX.t 41)), none⟩, (DK.quiet [0])⟩] 0)
           (.cond (CX.t 42) (.seq (.region [⟨(some 2), (COp.move (CX.c (CVal.int (Go.IntKind.i64) 1))), none⟩])
             (.ret))
            (.skip))))
         (.region [⟨(some 34), (COp.move (CX.t 5)), none⟩,
           ⟨(some 35), (COp.bin (Go.BinOp.add) (CX.t 34) (CX.c (CVal.int (Go.IntKind.i64) 1))), none⟩,
           ⟨(some 5), (COp.move (CX.t 35)), none⟩]))))))
    (.seq (.region [⟨(some 2), (COp.move (CX.c (CVal.int (Go.IntKind.i64) 0))), none⟩])
     (.ret)))))⟩
theorem ok22 : compFunc prog glb 22 p22 = some c22 := by kernel_rfl
/-- (*signalbox/signalboxmake.Maker).put -/
def p23 : List Plan := []
def c23 : CFunc := ⟨13, [],
 .region [⟨(some 4), (COp.move (CX.t 0)), none⟩,
  ⟨(some 5), (COp.move (CX.t 0)), none⟩,
  ⟨(some 6), (COp.nilCheck (CX.t 5)), none⟩,
  ⟨(some 7), (COp.fieldAddr 2 (CX.t 6)), none⟩,
  ⟨(some 8), (COp.load false 1 (CX.t 7)), none⟩,
  ⟨(some 9), (COp.move (CX.t 1)), none⟩,
  ⟨(some 10), (COp.append 1 1 (CX.t 8) (CX.t 9)), none⟩,
  ⟨(some 11), (COp.nilCheck (CX.t 4)), none⟩,
  ⟨(some 12), (COp.fieldAddr 2 (CX.t 11)), none⟩,
  ⟨none, (COp.store 1 (CX.t 12) (CX.t 10)), none⟩]⟩
theorem ok23 : compFunc prog glb 23 p23 = some c23 := by kernel_rfl
/-- (*signalbox/signalboxmake.Maker).Next -/
def p25 : List Plan := [⟨[(4, DK.quiet [0]), (5, DK.quiet [0]), (6, DK.quiet [0]), (7, DK.quiet [0]), (8, DK.quiet [0]), (0, DK.quiet [0]), (1, DK.quiet [0]), (2, DK.quiet [0]), (3, DK.quiet [0]), (9, DK.quiet [0]), (10, DK.quiet [0]), (11, DK.quiet [0]), (12, DK.quiet [0]), (13, DK.quiet [0])], 0, [0, 1, 3, 7, 0, 16, 48, 112, 240, 511, 1023, 2047, 4095, 8191]⟩, ⟨[(10, DK.quiet [0]), (4, DK.quiet [0]), (5, DK.quiet [0]), (6, DK.quiet [0]), (7, DK.quiet [0]), (0, DK.quiet [0]), (1, DK.quiet [0]), (2, DK.quiet [0]), (3, DK.quiet [0]), (8, DK.quiet [0]), (9, DK.quiet [0]), (11, DK.quiet [0]), (12, DK.quiet [0])], 0, [0, 1, 3, 7, 0, 16, 48, 112, 255, 511, 0, 2047, 4095]⟩]
def c25 : CFunc := ⟨45, [CRV.tmp 4],
 .seq (.region [⟨(some 4), (COp.move (CX.c (CVal.int (Go.IntKind.i64) 0))), none⟩])
 (.seq (.seq (.draw [⟨4, ⟨(some 10), (COp.move (CX.t 0)), none⟩, (DK.quiet [0])⟩,
     ⟨5, ⟨(some 11), (COp.nilCheck (CX.t 10)), none⟩, (DK.quiet [0])⟩,
     ⟨6, ⟨(some 12), (COp.fieldAddr 0 (CX.t 11)), none⟩, (DK.quiet [0])⟩,
     ⟨7, ⟨(some 13), (COp.load false 1 (CX.t 12)), none⟩, (DK.quiet [0])⟩,
     ⟨8, ⟨(some 14), (COp.len (LK.slice) (CX.t 13)), none⟩, (DK.quiet [0])⟩,
     ⟨0, ⟨(some 6), (COp.move (CX.t 0)), none⟩, (DK.quiet [0])⟩,
     ⟨1, ⟨(some 7), (COp.nilCheck (CX.t 6)), none⟩, (DK.quiet [0])⟩,
     ⟨2, ⟨(some 8), (COp.fieldAddr 1 (CX.t 7)), none⟩, (DK.quiet [0])⟩,
     ⟨3, ⟨(some 9), (COp.load false 1 (CX.t 8)), none⟩, (DK.quiet [0])⟩,
     ⟨9, ⟨(some 15), (COp.bin (Go.BinOp.geq) (CX.t 9) (CX.t 14)), none⟩, (DK.quiet [0])⟩,
     ⟨10, ⟨(some 16), (COp.move (CX.t 15)), none⟩, (DK.quiet [0])⟩,
     ⟨11, ⟨(some 17), (COp.move (CX.t 1)), (some (16, false))⟩, (DK.quiet [0])⟩,
     ⟨12, ⟨(some 18), (COp.bin (Go.BinOp.lss) (CX.t 17) (CX.c (CVal.int (Go.IntKind.i64) 1))), (some (16, false))⟩, (DK.quiet [0])⟩,
     ⟨13, ⟨(some 19), (COp.pick (CX.t 16) (CX.c (CVal.bool true)) (CX.t 18)), none⟩, (DK.quiet [0])⟩] 0)
   (.cond (CX.t 19) (.seq (.region [⟨(some 4), (COp.move (CX.c (CVal.int (Go.IntKind.i64) 0))), none⟩])
     (.ret))
    (.skip)))
  (.seq (.draw [⟨10, ⟨(some 30), (COp.move (CX.t 1)), none⟩, (DK.quiet [0])⟩,
     ⟨4, ⟨(some 24), (COp.move (CX.t 0)), none⟩, (DK.quiet [0])⟩,
     ⟨5, ⟨(some 25), (COp.nilCheck (CX.t 24)), none⟩, (DK.quiet [0])⟩,
     ⟨6, ⟨(some 26), (COp.fieldAddr 1 (CX.t 25)), none⟩, (DK.quiet [0])⟩,
     ⟨7, ⟨(some 27), (COp.load false 1 (CX.t 26)), none⟩, (DK.quiet [0])⟩,
     ⟨0, ⟨(some 20), (COp.move (CX.t 0)), none⟩, (DK.quiet [0])⟩,
     ⟨1, ⟨(some 21), (COp.nilCheck (CX.t 20)), none⟩, (DK.quiet [0])⟩,
     ⟨2, ⟨(some 22), (COp.fieldAddr 0 (CX.t 21)), none⟩, (DK.quiet [0])⟩,
     ⟨3, ⟨(some 23), (COp.load false 1 (CX.t 22)), none⟩, (DK.quiet [0])⟩,
     ⟨8, ⟨(some 28), (COp.indexAddr 1 (CX.t 23) (CX.t 27)), none⟩, (DK.quiet [0])⟩,
     ⟨9, ⟨(some 29), (COp.load false 1 (CX.t 28)), none⟩, (DK.quiet [0])⟩,
     ⟨11, ⟨(some 31), (COp.bin (Go.BinOp.rem) (CX.t 29) (CX.t 30)), none⟩, (DK.quiet [0])⟩,
     ⟨12, ⟨(some 5), (COp.move (CX.t 31)), none⟩, (DK.quiet [0])⟩] 0)
   (.seq (.region [⟨(some 32), (COp.move (CX.t 0)), none⟩,
      ⟨(some 33), (COp.nilCheck (CX.t 32)), none⟩,
      ⟨(some 34), (COp.fieldAddr 1 (CX.t 33)), none⟩,
      ⟨(some 35), (COp.load false 1 (CX.t 34)), none⟩,
      ⟨(some 36), (COp.bin (Go.BinOp.add) (CX.t 35) (CX.c (CVal.int (Go.IntKind.i64) 1))), none⟩,
      ⟨(some 37), (COp.nilCheck (CX.t 32)), none⟩,
      ⟨(some 38), (COp.fieldAddr 1 (CX.t 37)), none⟩,
      ⟨none, (COp.store 1 (CX.t 38) (CX.t 36)), none⟩])
    (.seq (.seq (.region [⟨(some 39), (COp.move (CX.t 5)), none⟩,
        ⟨(some 40), (COp.bin (Go.BinOp.lss) (CX.t 39) (CX.c (CVal.int (Go.IntKind.i64) 0))), none⟩])
      (.cond (CX.t 40) (.region [⟨(some 41), (COp.move (CX.t 5)), none⟩,
         ⟨(some 42), (COp.move (CX.t 1)), none⟩,
         ⟨(some 43), (COp.bin (Go.BinOp.add) (CX.t 41) (CX.t 42)), none⟩,
         ⟨(some 5), (COp.move (CX.t 43)), none⟩])
       (.skip)))
     (.seq (.region [⟨(some 44), (COp.move (CX.t 5)), none⟩,
        ⟨(some 4), (COp.move (CX.t 44)), none⟩])
      (.ret))))))⟩
theorem ok25 : compFunc prog glb 25 p25 = some c25 := by kernel_rfl
/-- (*signalbox/signalboxmake.Maker).num -/
def p26 : List Plan := []
def c26 : CFunc := ⟨10, [],
 .region [⟨(some 4), (COp.move (CX.t 0)), none⟩,
  ⟨(some 5), (COp.move (CX.t 0)), none⟩,
  ⟨(some 6), (COp.move (CX.t 1)), none⟩,
  ⟨(some 7), (COp.call (CX.c (CVal.func 25 [] [])) [CX.t 5, CX.t 6]), none⟩,
  ⟨(some 8), (COp.call (CX.c (CVal.func 24 [] [])) [CX.t 7]), none⟩,
  ⟨(some 9), (COp.call (CX.c (CVal.func 23 [] [])) [CX.t 4, CX.t 8]), none⟩]⟩
theorem ok26 : compFunc prog glb 26 p26 = some c26 := by kernel_rfl
/-- (*signalbox/signalboxmake.Maker).stmts -/
def p27 : List Plan := []
def c27 : CFunc := ⟨21, [],
 .seq (.region [⟨(some 6), (COp.move (CX.t 0)), none⟩,
   ⟨(some 7), (COp.call (CX.c (CVal.func 25 [] [])) [CX.t 6, CX.c (CVal.int (Go.IntKind.i64) 3)]), none⟩,
   ⟨(some 8), (COp.bin (Go.BinOp.add) (CX.c (CVal.int (Go.IntKind.i64) 1)) (CX.t 7)), none⟩,
   ⟨(some 4), (COp.move (CX.t 8)), none⟩])
 (.seq (.region [⟨(some 5), (COp.move (CX.c (CVal.int (Go.IntKind.i64) 0))), none⟩])
  (.block 0 (.loop (.seq (.seq (.region [⟨(some 9), (COp.move (CX.t 5)), none⟩,
        ⟨(some 10), (COp.move (CX.t 4)), none⟩,
        ⟨(some 11), (COp.bin (Go.BinOp.lss) (CX.t 9) (CX.t 10)), none⟩])
      (.cond (CX.t 11) (.skip)
       (.exit 0)))
     (.seq (.block 1 (.seq (.seq (.region [⟨(some 14), (COp.move (CX.t 5)), none⟩,
           ⟨(some 15), (COp.bin (Go.BinOp.gtr) (CX.t 14) (CX.c (CVal.int (Go.IntKind.i64) 0))), none⟩])
         (.cond (CX.t 15) (.region [⟨(some 16), (COp.move (CX.t 0)), none⟩,
            ⟨(some 17), (COp.call (CX.c (CVal.func 23 [] [])) [CX.t 16, CX.c (CVal.str [59, 10])]), none⟩])
          (.skip)))
        (.region [⟨(some 18), (COp.move (CX.t 0)), none⟩,
          ⟨(some 19), (COp.move (CX.t 1)), none⟩,
          ⟨(some 20), (COp.call (CX.c (CVal.func 38 [] [])) [CX.t 18, CX.t 19]), none⟩])))
      (.region [⟨(some 12), (COp.move (CX.t 5)), none⟩,
        ⟨(some 13), (COp.bin (Go.BinOp.add) (CX.t 12) (CX.c (CVal.int (Go.IntKind.i64) 1))), none⟩,
        ⟨(some 5), (COp.move (CX.t 13)), none⟩]))))))⟩
theorem ok27 : compFunc prog glb 27 p27 = some c27 := by kernel_rfl
/-- (*signalbox/signalboxmake.Maker).fork -/
def p28 : List Plan := []
def c28 : CFunc := ⟨47, [],
 .seq (.region [⟨(some 4), (COp.move (CX.t 0)), none⟩,
   ⟨(some 5), (COp.call (CX.c (CVal.func 25 [] [])) [CX.t 4, CX.c (CVal.int (Go.IntKind.i64) 3)]), none⟩,
   ⟨(some 6), (COp.bin (Go.BinOp.add) (CX.c (CVal.int (Go.IntKind.i64) 1)) (CX.t 5)), none⟩,
   ⟨(some 2), (COp.move (CX.t 6)), none⟩])
 (.seq (.region [⟨(some 7), (COp.move (CX.t 0)), none⟩,
    ⟨(some 8), (COp.call (CX.c (CVal.func 23 [] [])) [CX.t 7, CX.c (CVal.str [99, 111, 98, 101, 103, 105, 110, 32])]), none⟩])
  (.seq (.seq (.region [⟨(some 3), (COp.move (CX.c (CVal.int (Go.IntKind.i64) 0))), none⟩])
    (.block 0 (.loop (.seq (.seq (.region [⟨(some 9), (COp.move (CX.t 3)), none⟩,
          ⟨(some 10), (COp.move (CX.t 2)), none⟩,
          ⟨(some 11), (COp.bin (Go.BinOp.lss) (CX.t 9) (CX.t 10)), none⟩])
        (.cond (CX.t 11) (.skip)
         (.exit 0)))
       (.seq (.block 1 (.seq (.seq (.region [⟨(some 14), (COp.move (CX.t 3)), none⟩,
             ⟨(some 15), (COp.bin (Go.BinOp.gtr) (CX.t 14) (CX.c (CVal.int (Go.IntKind.i64) 0))), none⟩])
           (.cond (CX.t 15) (.region [⟨(some 16), (COp.move (CX.t 0)), none⟩,
              ⟨(some 17), (COp.call (CX.c (CVal.func 23 [] [])) [CX.t 16, CX.c (CVal.str [32, 47, 47, 32])]), none⟩])
            (.skip)))
          (.seq (.region [⟨(some 18), (COp.move (CX.t 0)), none⟩,
             ⟨(some 19), (COp.move (CX.t 0)), none⟩,
             ⟨(some 20), (COp.call (CX.c (CVal.func 39 [] [])) [CX.t 19]), none⟩,
             ⟨(some 21), (COp.call (CX.c (CVal.func 24 [] [])) [CX.t 20]), none⟩,
             ⟨(some 22), (COp.bin (Go.BinOp.add) (CX.c (CVal.str [112])) (CX.t 21)), none⟩,
             ⟨(some 23), (COp.bin (Go.BinOp.add) (CX.t 22) (CX.c (CVal.str [40]))), none⟩,
             ⟨(some 24), (COp.call (CX.c (CVal.func 23 [] [])) [CX.t 18, CX.t 23]), none⟩])
           (.seq (.region [⟨(some 25), (COp.move (CX.t 0)), none⟩,
              ⟨(some 26), (COp.call (CX.c (CVal.func 40 [] [])) [CX.t 25, CX.c (CVal.int (Go.IntKind.i64) 1)]), none⟩])
            (.seq (.region [⟨(some 27), (COp.move (CX.t 0)), none⟩,
               ⟨(some 28), (COp.call (CX.c (CVal.func 23 [] [])) [CX.t 27, CX.c (CVal.str [41])]), none⟩])
             (.seq (.region [⟨(some 29), (COp.move (CX.t 0)), none⟩,
                ⟨(some 30), (COp.call (CX.c (CVal.func 25 [] [])) [CX.t 29, CX.c (CVal.int (Go.IntKind.i64) 4)]), none⟩,
                ⟨(some 31), (COp.bin (Go.BinOp.gtr) (CX.t 30) (CX.c (CVal.int (Go.IntKind.i64) 0))), none⟩])
              (.cond (CX.t 31) (.seq (.region [⟨(some 32), (COp.move (CX.t 0)), none⟩,
                  ⟨(some 33), (COp.call (CX.c (CVal.func 23 [] [])) [CX.t 32, CX.c (CVal.str [32, 99, 108, 97, 105, 109, 115, 32, 97, 32])]), none⟩])
                (.seq (.region [⟨(some 34), (COp.move (CX.t 0)), none⟩,
                   ⟨(some 35), (COp.move (CX.t 0)), none⟩,
                   ⟨(some 36), (COp.call (CX.c (CVal.func 25 [] [])) [CX.t 35, CX.c (CVal.int (Go.IntKind.i64) 3)]), none⟩,
                   ⟨(some 37), (COp.bin (Go.BinOp.add) (CX.c (CVal.int (Go.IntKind.i64) 1)) (CX.t 36)), none⟩,
                   ⟨(some 38), (COp.call (CX.c (CVal.func 24 [] [])) [CX.t 37]), none⟩,
                   ⟨(some 39), (COp.call (CX.c (CVal.func 23 [] [])) [CX.t 34, CX.t 38]), none⟩])
                 (.seq (.region [⟨(some 40), (COp.move (CX.t 0)), none⟩,
                    ⟨(some 41), (COp.call (CX.c (CVal.func 25 [] [])) [CX.t 40, CX.c (CVal.int (Go.IntKind.i64) 2)]), none⟩,
                    ⟨(some 42), (COp.bin (Go.BinOp.eql) (CX.t 41) (CX.c (CVal.int (Go.IntKind.i64) 1))), none⟩])
                  (.cond (CX.t 42) (.region [⟨(some 43), (COp.move (CX.t 0)), none⟩,
                     ⟨(some 44), (COp.call (CX.c (CVal.func 23 [] [])) [CX.t 43, CX.c (CVal.str [44, 32, 98, 32, 49])]), none⟩])
                   (.skip)))))
               (.skip))))))))
        (.region [⟨(some 12), (COp.move (CX.t 3)), none⟩,
          ⟨(some 13), (COp.bin (Go.BinOp.add) (CX.t 12) (CX.c (CVal.int (Go.IntKind.i64) 1))), none⟩,
          ⟨(some 3), (COp.move (CX.t 13)), none⟩]))))))
   (.region [⟨(some 45), (COp.move (CX.t 0)), none⟩,
     ⟨(some 46), (COp.call (CX.c (CVal.func 23 [] [])) [CX.t 45, CX.c (CVal.str [32, 99, 111, 101, 110, 100])]), none⟩])))⟩
theorem ok28 : compFunc prog glb 28 p28 = some c28 := by kernel_rfl
/-- signalbox/token.blank -/
def p30 : List Plan := []
def c30 : CFunc := ⟨17, [CRV.tmp 2],
 .seq (.region [⟨(some 2), (COp.move (CX.c (CVal.bool false))), none⟩])
 (.seq (.region [⟨(some 3), (COp.move (CX.t 0)), none⟩,
    ⟨(some 4), (COp.bin (Go.BinOp.eql) (CX.t 3) (CX.c (CVal.int (Go.IntKind.i32) 32))), none⟩,
    ⟨(some 5), (COp.move (CX.t 4)), none⟩,
    ⟨(some 6), (COp.move (CX.t 0)), (some (5, false))⟩,
    ⟨(some 7), (COp.bin (Go.BinOp.eql) (CX.t 6) (CX.c (CVal.int (Go.IntKind.i32) 9))), (some (5, false))⟩,
    ⟨(some 8), (COp.pick (CX.t 5) (CX.c (CVal.bool true)) (CX.t 7)), none⟩,
    ⟨(some 9), (COp.move (CX.t 8)), none⟩,
    ⟨(some 10), (COp.move (CX.t 0)), (some (9, false))⟩,
    ⟨(some 11), (COp.bin (Go.BinOp.eql) (CX.t 10) (CX.c (CVal.int (Go.IntKind.i32) 10))), (some (9, false))⟩,
    ⟨(some 12), (COp.pick (CX.t 9) (CX.c (CVal.bool true)) (CX.t 11)), none⟩,
    ⟨(some 13), (COp.move (CX.t 12)), none⟩,
    ⟨(some 14), (COp.move (CX.t 0)), (some (13, false))⟩,
    ⟨(some 15), (COp.bin (Go.BinOp.eql) (CX.t 14) (CX.c (CVal.int (Go.IntKind.i32) 13))), (some (13, false))⟩,
    ⟨(some 16), (COp.pick (CX.t 13) (CX.c (CVal.bool true)) (CX.t 15)), none⟩,
    ⟨(some 2), (COp.move (CX.t 16)), none⟩])
  (.ret))⟩
theorem ok30 : compFunc prog glb 30 p30 = some c30 := by kernel_rfl
/-- signalbox/token.letter -/
def p32 : List Plan := []
def c32 : CFunc := ⟨9, [CRV.tmp 2],
 .seq (.region [⟨(some 2), (COp.move (CX.c (CVal.bool false))), none⟩])
 (.seq (.region [⟨(some 3), (COp.move (CX.t 0)), none⟩,
    ⟨(some 4), (COp.bin (Go.BinOp.geq) (CX.t 3) (CX.c (CVal.int (Go.IntKind.i32) 97))), none⟩,
    ⟨(some 5), (COp.move (CX.t 4)), none⟩,
    ⟨(some 6), (COp.move (CX.t 0)), (some (5, true))⟩,
    ⟨(some 7), (COp.bin (Go.BinOp.leq) (CX.t 6) (CX.c (CVal.int (Go.IntKind.i32) 122))), (some (5, true))⟩,
    ⟨(some 8), (COp.pick (CX.t 5) (CX.t 7) (CX.c (CVal.bool false))), none⟩,
    ⟨(some 2), (COp.move (CX.t 8)), none⟩])
  (.ret))⟩
theorem ok32 : compFunc prog glb 32 p32 = some c32 := by kernel_rfl
/-- (*signalbox/token.lexer).name -/
def p33 : List Plan := []
def c33 : CFunc := ⟨32, [CRV.tmp 4],
 .seq (.region [⟨(some 4), (COp.move (CX.c (CVal.int (Go.IntKind.i64) 0))), none⟩])
 (.seq (.region [⟨(some 7), (COp.move (CX.t 1)), none⟩,
    ⟨(some 8), (COp.call (CX.c (CVal.func 44 [] [])) [CX.t 7, CX.c (CVal.func 45 [] [])]), none⟩,
    ⟨(some 5), (COp.move (CX.t 8)), none⟩])
  (.seq (.region [⟨(some 9), (COp.move (CX.t 1)), none⟩,
     ⟨(some 10), (COp.move (CX.t 5)), none⟩,
     ⟨(some 11), (COp.sliceStr (CX.t 9) none (some (CX.t 10))), none⟩,
     ⟨(some 6), (COp.move (CX.t 11)), none⟩])
   (.seq (.block 0 (.seq (.region [⟨(some 18), (COp.move (CX.t 0)), none⟩,
        ⟨(some 19), (COp.nilCheck (CX.t 18)), none⟩,
        ⟨(some 20), (COp.fieldAddr 2 (CX.t 19)), none⟩,
        ⟨(some 21), (COp.load false 1 (CX.t 20)), none⟩,
        ⟨(some 22), (COp.move (CX.t 6)), none⟩,
        ⟨(some 23), (COp.lookup (KT.one (PK.str)) (CVal.bool false) false (CX.t 21) (CX.t 22)), none⟩,
        ⟨(some 17), (COp.move (CX.t 23)), none⟩])
      (.cond (CX.t 17) (.region [⟨(some 24), (COp.move (CX.t 0)), none⟩,
         ⟨(some 25), (COp.move (CX.t 6)), none⟩,
         ⟨(some 26), (COp.build [CVal.int (Go.IntKind.i64) 0, CVal.int (Go.IntKind.i64) 0, CVal.int (Go.IntKind.i64) 0, CVal.str []] [(0, 1, CX.c (CVal.int (Go.IntKind.i64) 3)), (3, 1, CX.t 25)]), none⟩,
         ⟨(some 27), (COp.move (CX.t 5)), none⟩,
         ⟨(some 28), (COp.call (CX.c (CVal.func 17 [] [])) [CX.t 24, CX.t 26, CX.t 27]), none⟩])
       (.seq (.region [⟨(some 30), (COp.move (CX.t 5)), none⟩,
          ⟨(some 31), (COp.bin (Go.BinOp.gtr) (CX.t 30) (CX.c (CVal.int (Go.IntKind.i64) 12))), none⟩,
          ⟨(some 29), (COp.move (CX.t 31)), none⟩])
        (.cond (CX.t 29) (.seq (.region [⟨(some 4), (COp.move (CX.c (CVal.int (Go.IntKind.i64) 12))), none⟩])
          (.ret))
         (.region [⟨(some 12), (COp.move (CX.t 0)), none⟩,
           ⟨(some 13), (COp.move (CX.t 6)), none⟩,
           ⟨(some 14), (COp.build [CVal.int (Go.IntKind.i64) 0, CVal.int (Go.IntKind.i64) 0, CVal.int (Go.IntKind.i64) 0, CVal.str []] [(0, 1, CX.c (CVal.int (Go.IntKind.i64) 1)), (3, 1, CX.t 13)]), none⟩,
           ⟨(some 15), (COp.move (CX.t 5)), none⟩,
           ⟨(some 16), (COp.call (CX.c (CVal.func 17 [] [])) [CX.t 12, CX.t 14, CX.t 15]), none⟩]))))))
    (.seq (.region [⟨(some 4), (COp.move (CX.c (CVal.int (Go.IntKind.i64) 0))), none⟩])
     (.ret)))))⟩
theorem ok33 : compFunc prog glb 33 p33 = some c33 := by kernel_rfl
/-- signalbox/token.digit -/
def p34 : List Plan := []
def c34 : CFunc := ⟨9, [CRV.tmp 2],
 .seq (.region [⟨(some 2), (COp.move (CX.c (CVal.bool false))), none⟩])
 (.seq (.region [⟨(some 3), (COp.move (CX.t 0)), none⟩,
    ⟨(some 4), (COp.bin (Go.BinOp.geq) (CX.t 3) (CX.c (CVal.int (Go.IntKind.i32) 48))), none⟩,
    ⟨(some 5), (COp.move (CX.t 4)), none⟩,
    ⟨(some 6), (COp.move (CX.t 0)), (some (5, true))⟩,
    ⟨(some 7), (COp.bin (Go.BinOp.leq) (CX.t 6) (CX.c (CVal.int (Go.IntKind.i32) 57))), (some (5, true))⟩,
    ⟨(some 8), (COp.pick (CX.t 5) (CX.t 7) (CX.c (CVal.bool false))), none⟩,
    ⟨(some 2), (COp.move (CX.t 8)), none⟩])
  (.ret))⟩
theorem ok34 : compFunc prog glb 34 p34 = some c34 := by kernel_rfl
/-- (*signalbox/token.lexer).number -/
def p35 : List Plan := []
def c35 : CFunc := ⟨24, [CRV.tmp 4],
 .seq (.region [⟨(some 4), (COp.move (CX.c (CVal.int (Go.IntKind.i64) 0))), none⟩])
 (.seq (.region [⟨(some 8), (COp.move (CX.t 1)), none⟩,
    ⟨(some 9), (COp.call (CX.c (CVal.func 44 [] [])) [CX.t 8, CX.c (CVal.func 34 [] [])]), none⟩,
    ⟨(some 5), (COp.move (CX.t 9)), none⟩])
  (.seq (.region [⟨(some 11), (COp.move (CX.t 1)), none⟩,
     ⟨(some 12), (COp.move (CX.t 5)), none⟩,
     ⟨(some 13), (COp.sliceStr (CX.t 11) none (some (CX.t 12))), none⟩,
     ⟨(some 14), (COp.call (CX.c (CVal.func 46 [] [])) [CX.t 13]), none⟩,
     ⟨(some 10), (COp.move (CX.t 14)), none⟩,
     ⟨(some 15), (COp.extract (CX.t 10) 0), none⟩,
     ⟨(some 16), (COp.extract (CX.t 10) 1), none⟩,
     ⟨(some 6), (COp.move (CX.t 15)), none⟩,
     ⟨(some 7), (COp.move (CX.t 16)), none⟩])
   (.seq (.seq (.region [⟨(some 17), (COp.move (CX.t 7)), none⟩,
       ⟨(some 18), (COp.eq (TK.iface) true (CX.t 17) (CX.c (CVal.nilIface))), none⟩])
     (.cond (CX.t 18) (.seq (.region [⟨(some 4), (COp.move (CX.c (CVal.int (Go.IntKind.i64) 13))), none⟩])
       (.ret))
      (.skip)))
    (.seq (.region [⟨(some 19), (COp.move (CX.t 0)), none⟩,
       ⟨(some 20), (COp.move (CX.t 6)), none⟩,
       ⟨(some 21), (COp.build [CVal.int (Go.IntKind.i64) 0, CVal.int (Go.IntKind.i64) 0, CVal.int (Go.IntKind.i64) 0, CVal.str []] [(0, 1, CX.c (CVal.int (Go.IntKind.i64) 2)), (2, 1, CX.t 20)]), none⟩,
       ⟨(some 22), (COp.move (CX.t 5)), none⟩,
       ⟨(some 23), (COp.call (CX.c (CVal.func 17 [] [])) [CX.t 19, CX.t 21, CX.t 22]), none⟩])
     (.seq (.region [⟨(some 4), (COp.move (CX.c (CVal.int (Go.IntKind.i64) 0))), none⟩])
      (.ret))))))⟩
theorem ok35 : compFunc prog glb 35 p35 = some c35 := by kernel_rfl
/-- signalbox/token.sign -/
def p36 : List Plan := []
def c36 : CFunc := ⟨16, [CRV.tmp 2],
 .seq (.region [⟨(some 2), (COp.move (CX.c (CVal.str []))), none⟩])
 (.seq (.seq (.region [⟨(some 5), (COp.call (CX.c (CVal.func 29 [] [])) [CX.c (CVal.str [58, 61, 32, 60, 62, 32, 60, 61, 32, 62, 61, 32, 47, 47, 32, 59, 32, 44, 32, 40, 32, 41, 32, 91, 32, 93, 32, 43, 32, 45, 32, 42, 32, 47, 32, 37, 32, 61, 32, 60, 32, 62, 32, 46])]), none⟩,
     ⟨(some 6), (COp.len (LK.slice) (CX.t 5)), none⟩,
     ⟨(some 7), (COp.move (CX.c (CVal.int (Go.IntKind.i64) 0))), none⟩])
   (.block 0 (.loop (.seq (.region [⟨(some 8), (COp.bin (Go.BinOp.lss) (CX.t 7) (CX.t 6)), none⟩])
      (.seq (.cond (CX.t 8) (.skip)
        (.exit 0))
       (.seq (.block 1 (.seq (.region [⟨(some 9), (COp.indexAddr 1 (CX.t 5) (CX.t 7)), none⟩,
            ⟨(some 10), (COp.load false 1 (CX.t 9)), none⟩,
            ⟨(some 4), (COp.move (CX.t 10)), none⟩])
          (.seq (.region [⟨(some 11), (COp.move (CX.t 0)), none⟩,
             ⟨(some 12), (COp.move (CX.t 4)), none⟩,
             ⟨(some 13), (COp.call (CX.c (CVal.func 47 [] [])) [CX.t 11, CX.t 12]), none⟩])
           (.cond (CX.t 13) (.seq (.region [⟨(some 14), (COp.move (CX.t 4)), none⟩,
               ⟨(some 2), (COp.move (CX.t 14)), none⟩])
             (.ret))
            (.skip)))))
        (.region [⟨(some 15), (COp.bin (Go.BinOp.add) (CX.t 7) (CX.c (CVal.int (Go.IntKind.i64) 1))), none⟩,
          ⟨(some 7), (COp.move (CX.t 15)), none⟩])))))))
  (.seq (.region [⟨(some 2), (COp.move (CX.c (CVal.str []))), none⟩])
   (.ret)))⟩
theorem ok36 : compFunc prog glb 36 p36 = some c36 := by kernel_rfl
/-- (*signalbox/signalboxmake.Maker).stmt -/
def p38 : List Plan := []
def c38 : CFunc := ⟨198, [],
 .seq (.region [⟨(some 5), (COp.move (CX.t 0)), none⟩,
   ⟨(some 6), (COp.move (CX.t 0)), none⟩,
   ⟨(some 7), (COp.nilCheck (CX.t 6)), none⟩,
   ⟨(some 8), (COp.fieldAddr 5 (CX.t 7)), none⟩,
   ⟨(some 9), (COp.load false 1 (CX.t 8)), none⟩,
   ⟨(some 10), (COp.bin (Go.BinOp.sub) (CX.t 9) (CX.c (CVal.int (Go.IntKind.i64) 1))), none⟩,
   ⟨(some 11), (COp.nilCheck (CX.t 5)), none⟩,
   ⟨(some 12), (COp.fieldAddr 5 (CX.t 11)), none⟩,
   ⟨none, (COp.store 1 (CX.t 12) (CX.t 10)), none⟩])
 (.seq (.region [⟨(some 13), (COp.move (CX.t 0)), none⟩,
    ⟨(some 14), (COp.call (CX.c (CVal.func 25 [] [])) [CX.t 13, CX.c (CVal.int (Go.IntKind.i64) 20)]), none⟩,
    ⟨(some 4), (COp.move (CX.t 14)), none⟩])
  (.seq (.seq (.region [⟨(some 15), (COp.move (CX.t 1)), none⟩,
      ⟨(some 16), (COp.bin (Go.BinOp.eql) (CX.t 15) (CX.c (CVal.int (Go.IntKind.i64) 0))), none⟩,
      ⟨(some 17), (COp.move (CX.t 16)), none⟩,
      ⟨(some 18), (COp.move (CX.t 0)), (some (17, false))⟩,
      ⟨(some 19), (COp.nilCheck (CX.t 18)), (some (17, false))⟩,
      ⟨(some 20), (COp.fieldAddr 5 (CX.t 19)), (some (17, false))⟩,
      ⟨(some 21), (COp.load false 1 (CX.t 20)), (some (17, false))⟩,
      ⟨(some 22), (COp.bin (Go.BinOp.lss) (CX.t 21) (CX.c (CVal.int (Go.IntKind.i64) 0))), (some (17, false))⟩,
      ⟨(some 23), (COp.pick (CX.t 17) (CX.c (CVal.bool true)) (CX.t 22)), none⟩,
      ⟨(some 24), (COp.move (CX.t 23)), none⟩,
      ⟨(some 25), (COp.move (CX.t 4)), (some (24, true))⟩,
      ⟨(some 26), (COp.bin (Go.BinOp.eql) (CX.t 25) (CX.c (CVal.int (Go.IntKind.i64) 2))), (some (24, true))⟩,
      ⟨(some 27), (COp.move (CX.t 26)), (some (24, true))⟩,
      ⟨(some 28), (COp.move (CX.t 4)), (some (27, false))⟩,
      ⟨(some 29), (COp.bin (Go.BinOp.eql) (CX.t 28) (CX.c (CVal.int (Go.IntKind.i64) 3))), (some (27, false))⟩,
      ⟨(some 30), (COp.pick (CX.t 27) (CX.c (CVal.bool true)) (CX.t 29)), (some (24, true))⟩,
      ⟨(some 31), (COp.move (CX.t 30)), (some (24, true))⟩,
      ⟨(some 32), (COp.move (CX.t 4)), (some (31, false))⟩,
      ⟨(some 33), (COp.bin (Go.BinOp.eql) (CX.t 32) (CX.c (CVal.int (Go.IntKind.i64) 5))), (some (31, false))⟩,
      ⟨(some 34), (COp.pick (CX.t 31) (CX.c (CVal.bool true)) (CX.t 33)), (some (24, true))⟩,
      ⟨(some 35), (COp.move (CX.t 34)), (some (24, true))⟩,
      ⟨(some 36), (COp.move (CX.t 4)), (some (35, false))⟩,
      ⟨(some 37), (COp.bin (Go.BinOp.geq) (CX.t 36) (CX.c (CVal.int (Go.IntKind.i64) 14))), (some (35, false))⟩,
      ⟨(some 38), (COp.pick (CX.t 35) (CX.c (CVal.bool true)) (CX.t 37)), (some (24, true))⟩,
      ⟨(some 39), (COp.pick (CX.t 24) (CX.t 38) (CX.c (CVal.bool false))), none⟩])
    (.cond (CX.t 39) (.region [⟨(some 4), (COp.move (CX.c (CVal.int (Go.IntKind.i64) 12))), none⟩])
     (.skip)))
   (.seq (.region [⟨(some 40), (COp.move (CX.t 4)), none⟩])
    (.block 0 (.seq (.region [⟨(some 46), (COp.bin (Go.BinOp.eql) (CX.t 40) (CX.c (CVal.int (Go.IntKind.i64) 0))), none⟩,
        ⟨(some 45), (COp.move (CX.t 46)), none⟩])
      (.cond (CX.t 45) (.region [⟨(some 47), (COp.move (CX.t 0)), none⟩,
         ⟨(some 48), (COp.call (CX.c (CVal.func 23 [] [])) [CX.t 47, CX.c (CVal.str [115, 107, 105, 112])]), none⟩])
       (.seq (.region [⟨(some 50), (COp.bin (Go.BinOp.eql) (CX.t 40) (CX.c (CVal.int (Go.IntKind.i64) 1))), none⟩,
          ⟨(some 49), (COp.move (CX.t 50)), none⟩])
        (.cond (CX.t 49) (.seq (.region [⟨(some 51), (COp.move (CX.t 0)), none⟩,
            ⟨(some 52), (COp.call (CX.c (CVal.func 23 [] [])) [CX.t 51, CX.c (CVal.str [103, 32, 58, 61, 32])]), none⟩])
          (.region [⟨(some 53), (COp.move (CX.t 0)), none⟩,
            ⟨(some 54), (COp.call (CX.c (CVal.func 40 [] [])) [CX.t 53, CX.c (CVal.int (Go.IntKind.i64) 2)]), none⟩]))
         (.seq (.region [⟨(some 56), (COp.bin (Go.BinOp.eql) (CX.t 40) (CX.c (CVal.int (Go.IntKind.i64) 2))), none⟩,
            ⟨(some 55), (COp.move (CX.t 56)), none⟩])
          (.cond (CX.t 55) (.seq (.region [⟨(some 57), (COp.move (CX.t 0)), none⟩,
              ⟨(some 58), (COp.call (CX.c (CVal.func 23 [] [])) [CX.t 57, CX.c (CVal.str [105, 102, 32])]), none⟩])
            (.seq (.region [⟨(some 59), (COp.move (CX.t 0)), none⟩,
               ⟨(some 60), (COp.call (CX.c (CVal.func 49 [] [])) [CX.t 59, CX.c (CVal.int (Go.IntKind.i64) 1)]), none⟩])
             (.seq (.region [⟨(some 61), (COp.move (CX.t 0)), none⟩,
                ⟨(some 62), (COp.call (CX.c (CVal.func 23 [] [])) [CX.t 61, CX.c (CVal.str [32, 116, 104, 101, 110, 32])]), none⟩])
              (.seq (.region [⟨(some 63), (COp.move (CX.t 0)), none⟩,
                 ⟨(some 64), (COp.move (CX.t 1)), none⟩,
                 ⟨(some 65), (COp.bin (Go.BinOp.sub) (CX.t 64) (CX.c (CVal.int (Go.IntKind.i64) 1))), none⟩,
                 ⟨(some 66), (COp.call (CX.c (CVal.func 27 [] [])) [CX.t 63, CX.t 65]), none⟩])
               (.seq (.seq (.region [⟨(some 67), (COp.move (CX.t 0)), none⟩,
                   ⟨(some 68), (COp.call (CX.c (CVal.func 25 [] [])) [CX.t 67, CX.c (CVal.int (Go.IntKind.i64) 2)]), none⟩,
                   ⟨(some 69), (COp.bin (Go.BinOp.eql) (CX.t 68) (CX.c (CVal.int (Go.IntKind.i64) 1))), none⟩])
                 (.cond (CX.t 69) (.seq (.region [⟨(some 70), (COp.move (CX.t 0)), none⟩,
                     ⟨(some 71), (COp.call (CX.c (CVal.func 23 [] [])) [CX.t 70, CX.c (CVal.str [32, 101, 108, 115, 101, 32])]), none⟩])
                   (.region [⟨(some 72), (COp.move (CX.t 0)), none⟩,
                     ⟨(some 73), (COp.move (CX.t 1)), none⟩,
                     ⟨(some 74), (COp.bin (Go.BinOp.sub) (CX.t 73) (CX.c (CVal.int (Go.IntKind.i64) 1))), none⟩,
                     ⟨(some 75), (COp.call (CX.c (CVal.func 27 [] [])) [CX.t 72, CX.t 74]), none⟩]))
                  (.skip)))
                (.region [⟨(some 76), (COp.move (CX.t 0)), none⟩,
                  ⟨(some 77), (COp.call (CX.c (CVal.func 23 [] [])) [CX.t 76, CX.c (CVal.str [32, 102, 105])]), none⟩]))))))
           (.seq (.region [⟨(some 79), (COp.bin (Go.BinOp.eql) (CX.t 40) (CX.c (CVal.int (Go.IntKind.i64) 3))), none⟩,
              ⟨(some 78), (COp.move (CX.t 79)), none⟩])
            (.cond (CX.t 78) (.seq (.region [⟨(some 80), (COp.move (CX.t 0)), none⟩,
                ⟨(some 81), (COp.call (CX.c (CVal.func 23 [] [])) [CX.t 80, CX.c (CVal.str [104, 91, 51, 93, 32, 58, 61, 32])]), none⟩])
              (.seq (.region [⟨(some 82), (COp.move (CX.t 0)), none⟩,
                 ⟨(some 83), (COp.call (CX.c (CVal.func 26 [] [])) [CX.t 82, CX.c (CVal.int (Go.IntKind.i64) 4)]), none⟩])
               (.seq (.region [⟨(some 84), (COp.move (CX.t 0)), none⟩,
                  ⟨(some 85), (COp.call (CX.c (CVal.func 23 [] [])) [CX.t 84, CX.c (CVal.str [59, 10, 119, 104, 105, 108, 101, 32, 104, 91, 51, 93, 32, 62, 32, 48, 32, 100, 111, 32, 104, 91, 51, 93, 32, 58, 61, 32, 104, 91, 51, 93, 32, 45, 32, 49, 59, 32])]), none⟩])
                (.seq (.region [⟨(some 86), (COp.move (CX.t 0)), none⟩,
                   ⟨(some 87), (COp.move (CX.t 1)), none⟩,
                   ⟨(some 88), (COp.bin (Go.BinOp.sub) (CX.t 87) (CX.c (CVal.int (Go.IntKind.i64) 1))), none⟩,
                   ⟨(some 89), (COp.call (CX.c (CVal.func 27 [] [])) [CX.t 86, CX.t 88]), none⟩])
                 (.region [⟨(some 90), (COp.move (CX.t 0)), none⟩,
                   ⟨(some 91), (COp.call (CX.c (CVal.func 23 [] [])) [CX.t 90, CX.c (CVal.str [32, 111, 100])]), none⟩])))))
             (.seq (.region [⟨(some 93), (COp.bin (Go.BinOp.eql) (CX.t 40) (CX.c (CVal.int (Go.IntKind.i64) 4))), none⟩,
                ⟨(some 92), (COp.move (CX.t 93)), none⟩])
              (.cond (CX.t 92) (.seq (.region [⟨(some 94), (COp.move (CX.t 0)), none⟩,
                  ⟨(some 95), (COp.call (CX.c (CVal.func 23 [] [])) [CX.t 94, CX.c (CVal.str [104, 91])]), none⟩])
                (.seq (.region [⟨(some 96), (COp.move (CX.t 0)), none⟩,
                   ⟨(some 97), (COp.call (CX.c (CVal.func 26 [] [])) [CX.t 96, CX.c (CVal.int (Go.IntKind.i64) 5)]), none⟩])
                 (.seq (.region [⟨(some 98), (COp.move (CX.t 0)), none⟩,
                    ⟨(some 99), (COp.call (CX.c (CVal.func 23 [] [])) [CX.t 98, CX.c (CVal.str [93, 32, 58, 61, 32])]), none⟩])
                  (.region [⟨(some 100), (COp.move (CX.t 0)), none⟩,
                    ⟨(some 101), (COp.call (CX.c (CVal.func 40 [] [])) [CX.t 100, CX.c (CVal.int (Go.IntKind.i64) 1)]), none⟩]))))
               (.seq (.seq (.region [⟨(some 103), (COp.bin (Go.BinOp.eql) (CX.t 40) (CX.c (CVal.int (Go.IntKind.i64) 5))), none⟩,
                   ⟨(some 102), (COp.move (CX.t 103)), none⟩])
                 (.cond (CX.t 102) (.skip)
                  (.region [⟨(some 104), (COp.bin (Go.BinOp.eql) (CX.t 40) (CX.c (CVal.int (Go.IntKind.i64) 19))), none⟩,
                    ⟨(some 102), (COp.move (CX.t 104)), none⟩])))
                (.cond (CX.t 102) (.seq (.seq (.region [⟨(some 105), (COp.move (CX.t 0)), none⟩,
                     ⟨(some 106), (COp.nilCheck (CX.t 105)), none⟩,
                     ⟨(some 107), (COp.fieldAddr 3 (CX.t 106)), none⟩,
                     ⟨(some 108), (COp.load false 1 (CX.t 107)), none⟩,
                     ⟨(some 109), (COp.bin (Go.BinOp.eql) (CX.t 108) (CX.c (CVal.int (Go.IntKind.i64) 3))), none⟩,
                     ⟨(some 110), (COp.move (CX.t 109)), none⟩,
                     ⟨(some 111), (COp.move (CX.t 0)), (some (110, true))⟩,
                     ⟨(some 112), (COp.call (CX.c (CVal.func 25 [] [])) [CX.t 111, CX.c (CVal.int (Go.IntKind.i64) 3)]), (some (110, true))⟩,
                     ⟨(some 113), (COp.bin (Go.BinOp.gtr) (CX.t 112) (CX.c (CVal.int (Go.IntKind.i64) 0))), (some (110, true))⟩,
                     ⟨(some 114), (COp.pick (CX.t 110) (CX.t 113) (CX.c (CVal.bool false))), none⟩])
                   (.cond (CX.t 114) (.seq (.region [⟨(some 115), (COp.move (CX.t 0)), none⟩,
                       ⟨(some 116), (COp.call (CX.c (CVal.func 23 [] [])) [CX.t 115, CX.c (CVal.str [115, 107, 105, 112])]), none⟩])
                     (.ret))
                    (.skip)))
                  (.seq (.region [⟨(some 117), (COp.move (CX.t 0)), none⟩,
                     ⟨(some 118), (COp.move (CX.t 0)), none⟩,
                     ⟨(some 119), (COp.call (CX.c (CVal.func 39 [] [])) [CX.t 118]), none⟩,
                     ⟨(some 120), (COp.call (CX.c (CVal.func 24 [] [])) [CX.t 119]), none⟩,
                     ⟨(some 121), (COp.bin (Go.BinOp.add) (CX.c (CVal.str [112])) (CX.t 120)), none⟩,
                     ⟨(some 122), (COp.bin (Go.BinOp.add) (CX.t 121) (CX.c (CVal.str [40]))), none⟩,
                     ⟨(some 123), (COp.call (CX.c (CVal.func 23 [] [])) [CX.t 117, CX.t 122]), none⟩])
                   (.seq (.region [⟨(some 124), (COp.move (CX.t 0)), none⟩,
                      ⟨(some 125), (COp.call (CX.c (CVal.func 40 [] [])) [CX.t 124, CX.c (CVal.int (Go.IntKind.i64) 1)]), none⟩])
                    (.region [⟨(some 126), (COp.move (CX.t 0)), none⟩,
                      ⟨(some 127), (COp.call (CX.c (CVal.func 23 [] [])) [CX.t 126, CX.c (CVal.str [41])]), none⟩]))))
                 (.seq (.region [⟨(some 129), (COp.bin (Go.BinOp.eql) (CX.t 40) (CX.c (CVal.int (Go.IntKind.i64) 6))), none⟩,
                    ⟨(some 128), (COp.move (CX.t 129)), none⟩])
                  (.cond (CX.t 128) (.region [⟨(some 130), (COp.move (CX.t 0)), none⟩,
                     ⟨(some 131), (COp.call (CX.c (CVal.func 23 [] [])) [CX.t 130, CX.c (CVal.str [80, 40, 115, 41])]), none⟩])
                   (.seq (.region [⟨(some 133), (COp.bin (Go.BinOp.eql) (CX.t 40) (CX.c (CVal.int (Go.IntKind.i64) 7))), none⟩,
                      ⟨(some 132), (COp.move (CX.t 133)), none⟩])
                    (.cond (CX.t 132) (.region [⟨(some 134), (COp.move (CX.t 0)), none⟩,
                       ⟨(some 135), (COp.call (CX.c (CVal.func 23 [] [])) [CX.t 134, CX.c (CVal.str [86, 40, 115, 41])]), none⟩])
                     (.seq (.seq (.region [⟨(some 137), (COp.bin (Go.BinOp.eql) (CX.t 40) (CX.c (CVal.int (Go.IntKind.i64) 8))), none⟩,
                         ⟨(some 136), (COp.move (CX.t 137)), none⟩])
                       (.cond (CX.t 136) (.skip)
                        (.region [⟨(some 138), (COp.bin (Go.BinOp.eql) (CX.t 40) (CX.c (CVal.int (Go.IntKind.i64) 9))), none⟩,
                          ⟨(some 136), (COp.move (CX.t 138)), none⟩])))
                      (.cond (CX.t 136) (.seq (.region [⟨(some 139), (COp.move (CX.t 0)), none⟩,
                          ⟨(some 140), (COp.call (CX.c (CVal.func 23 [] [])) [CX.t 139, CX.c (CVal.str [114, 101, 113, 117, 101, 115, 116, 32])]), none⟩])
                        (.region [⟨(some 141), (COp.move (CX.t 0)), none⟩,
                          ⟨(some 142), (COp.call (CX.c (CVal.func 50 [] [])) [CX.t 141]), none⟩]))
                       (.seq (.region [⟨(some 144), (COp.bin (Go.BinOp.eql) (CX.t 40) (CX.c (CVal.int (Go.IntKind.i64) 10))), none⟩,
                          ⟨(some 143), (COp.move (CX.t 144)), none⟩])
                        (.cond (CX.t 143) (.seq (.region [⟨(some 145), (COp.move (CX.t 0)), none⟩,
                            ⟨(some 146), (COp.call (CX.c (CVal.func 23 [] [])) [CX.t 145, CX.c (CVal.str [114, 101, 108, 101, 97, 115, 101, 32])]), none⟩])
                          (.region [⟨(some 147), (COp.move (CX.t 0)), none⟩,
                            ⟨(some 148), (COp.call (CX.c (CVal.func 50 [] [])) [CX.t 147]), none⟩]))
                         (.seq (.region [⟨(some 150), (COp.bin (Go.BinOp.eql) (CX.t 40) (CX.c (CVal.int (Go.IntKind.i64) 11))), none⟩,
                            ⟨(some 149), (COp.move (CX.t 150)), none⟩])
                          (.cond (CX.t 149) (.seq (.region [⟨(some 151), (COp.move (CX.t 0)), none⟩,
                              ⟨(some 152), (COp.call (CX.c (CVal.func 23 [] [])) [CX.t 151, CX.c (CVal.str [114, 101, 97, 100, 32])]), none⟩])
                            (.region [⟨(some 153), (COp.move (CX.t 0)), none⟩,
                              ⟨(some 154), (COp.build [CVal.str [], CVal.str []] [(0, 1, CX.c (CVal.str [103])), (1, 1, CX.c (CVal.str [104, 91, 49, 93]))]), none⟩,
                              ⟨(some 155), (COp.move (CX.t 0)), none⟩,
                              ⟨(some 156), (COp.call (CX.c (CVal.func 25 [] [])) [CX.t 155, CX.c (CVal.int (Go.IntKind.i64) 2)]), none⟩,
                              ⟨(some 157), (COp.indexArr 2 false 1 (CX.t 154) (CX.t 156)), none⟩,
                              ⟨(some 158), (COp.call (CX.c (CVal.func 23 [] [])) [CX.t 153, CX.t 157]), none⟩]))
                           (.seq (.seq (.region [⟨(some 160), (COp.bin (Go.BinOp.eql) (CX.t 40) (CX.c (CVal.int (Go.IntKind.i64) 14))), none⟩,
                               ⟨(some 159), (COp.move (CX.t 160)), none⟩])
                             (.cond (CX.t 159) (.skip)
                              (.region [⟨(some 161), (COp.bin (Go.BinOp.eql) (CX.t 40) (CX.c (CVal.int (Go.IntKind.i64) 15))), none⟩,
                                ⟨(some 159), (COp.move (CX.t 161)), none⟩])))
                            (.cond (CX.t 159) (.region [⟨(some 162), (COp.move (CX.t 0)), none⟩,
                               ⟨(some 163), (COp.move (CX.t 1)), none⟩,
                               ⟨(some 164), (COp.call (CX.c (CVal.func 51 [] [])) [CX.t 162, CX.t 163]), none⟩])
                             (.seq (.seq (.region [⟨(some 166), (COp.bin (Go.BinOp.eql) (CX.t 40) (CX.c (CVal.int (Go.IntKind.i64) 16))), none⟩,
                                 ⟨(some 165), (COp.move (CX.t 166)), none⟩])
                               (.cond (CX.t 165) (.skip)
                                (.region [⟨(some 167), (COp.bin (Go.BinOp.eql) (CX.t 40) (CX.c (CVal.int (Go.IntKind.i64) 17))), none⟩,
                                  ⟨(some 165), (COp.move (CX.t 167)), none⟩])))
                              (.cond (CX.t 165) (.seq (.seq (.region [⟨(some 168), (COp.move (CX.t 0)), none⟩,
                                   ⟨(some 169), (COp.nilCheck (CX.t 168)), none⟩,
                                   ⟨(some 170), (COp.fieldAddr 4 (CX.t 169)), none⟩,
                                   ⟨(some 171), (COp.load false 1 (CX.t 170)), none⟩,
                                   ⟨(some 172), (COp.bin (Go.BinOp.neq) (CX.t 171) (CX.c (CVal.str []))), none⟩,
                                   ⟨(some 173), (COp.move (CX.t 172)), none⟩,
                                   ⟨(some 174), (COp.move (CX.t 0)), (some (173, false))⟩,
                                   ⟨(some 175), (COp.nilCheck (CX.t 174)), (some (173, false))⟩,
                                   ⟨(some 176), (COp.fieldAddr 3 (CX.t 175)), (some (173, false))⟩,
                                   ⟨(some 177), (COp.load false 1 (CX.t 176)), (some (173, false))⟩,
                                   ⟨(some 178), (COp.bin (Go.BinOp.eql) (CX.t 177) (CX.c (CVal.int (Go.IntKind.i64) 3))), (some (173, false))⟩,
                                   ⟨(some 179), (COp.pick (CX.t 173) (CX.c (CVal.bool true)) (CX.t 178)), none⟩])
                                 (.cond (CX.t 179) (.seq (.region [⟨(some 180), (COp.move (CX.t 0)), none⟩,
                                     ⟨(some 181), (COp.call (CX.c (CVal.func 23 [] [])) [CX.t 180, CX.c (CVal.str [115, 107, 105, 112])]), none⟩])
                                   (.ret))
                                  (.skip)))
                                (.region [⟨(some 182), (COp.move (CX.t 0)), none⟩,
                                  ⟨(some 183), (COp.call (CX.c (CVal.func 28 [] [])) [CX.t 182]), none⟩]))
                               (.seq (.region [⟨(some 185), (COp.bin (Go.BinOp.eql) (CX.t 40) (CX.c (CVal.int (Go.IntKind.i64) 18))), none⟩,
                                  ⟨(some 184), (COp.move (CX.t 185)), none⟩])
                                (.cond (CX.t 184) (.seq (.region [⟨(some 186), (COp.move (CX.t 0)), none⟩,
                                    ⟨(some 187), (COp.call (CX.c (CVal.func 23 [] [])) [CX.t 186, CX.c (CVal.str [114, 101, 113, 117, 101, 115, 116, 32])]), none⟩])
                                  (.seq (.region [⟨(some 188), (COp.move (CX.t 0)), none⟩,
                                     ⟨(some 189), (COp.call (CX.c (CVal.func 50 [] [])) [CX.t 188]), none⟩])
                                   (.seq (.region [⟨(some 190), (COp.move (CX.t 0)), none⟩,
                                      ⟨(some 191), (COp.call (CX.c (CVal.func 23 [] [])) [CX.t 190, CX.c (CVal.str [59, 10])]), none⟩])
                                    (.seq (.region [⟨(some 192), (COp.move (CX.t 0)), none⟩,
                                       ⟨(some 193), (COp.move (CX.t 1)), none⟩,
                                       ⟨(some 194), (COp.bin (Go.BinOp.sub) (CX.t 193) (CX.c (CVal.int (Go.IntKind.i64) 1))), none⟩,
                                       ⟨(some 195), (COp.call (CX.c (CVal.func 27 [] [])) [CX.t 192, CX.t 194]), none⟩])
                                     (.region [⟨(some 196), (COp.move (CX.t 0)), none⟩,
                                       ⟨(some 197), (COp.call (CX.c (CVal.func 23 [] [])) [CX.t 196, CX.c (CVal.str [59, 10, 114, 101, 108, 101, 97, 115, 101, 32, 97, 32, 49])]), none⟩])))))
                                 (.seq (.region [⟨(some 41), (COp.move (CX.t 0)), none⟩,
                                    ⟨(some 42), (COp.call (CX.c (CVal.func 23 [] [])) [CX.t 41, CX.c (CVal.str [119, 114, 105, 116, 101, 32])]), none⟩])
                                  (.region [⟨(some 43), (COp.move (CX.t 0)), none⟩,
                                    ⟨(some 44), (COp.call (CX.c (CVal.func 40 [] [])) [CX.t 43, CX.c (CVal.int (Go.IntKind.i64) 2)]), none⟩]))))))))))))))))))))))))))))))))))⟩
theorem ok38 : compFunc prog glb 38 p38 = some c38 := by kernel_rfl
/-- (*signalbox/signalboxmake.Maker).callee -/
def p39 : List Plan := [⟨[(6, DK.quiet [0]), (7, DK.quiet [0]), (8, DK.quiet [0]), (9, DK.quiet [0]), (10, DK.quiet [0]), (5, DK.quiet [0]), (11, DK.eff), (0, DK.quiet [0, 7]), (1, DK.quiet [0, 7]), (2, DK.quiet [0, 7]), (3, DK.quiet [0, 7]), (4, DK.quiet [0, 7]), (12, DK.quiet [7]), (13, DK.quiet [7])], 0, [0, 1, 3, 7, 15, 0, 0, 64, 192, 448, 960, 2016, 4095, 8191]⟩]
def c39 : CFunc := ⟨21, [CRV.tmp 2],
 .seq (.region [⟨(some 2), (COp.move (CX.c (CVal.int (Go.IntKind.i64) 0))), none⟩])
 (.seq (.seq (.region [⟨(some 3), (COp.move (CX.t 0)), none⟩,
     ⟨(some 4), (COp.nilCheck (CX.t 3)), none⟩,
     ⟨(some 5), (COp.fieldAddr 3 (CX.t 4)), none⟩,
     ⟨(some 6), (COp.load false 1 (CX.t 5)), none⟩,
     ⟨(some 7), (COp.bin (Go.BinOp.geq) (CX.t 6) (CX.c (CVal.int (Go.IntKind.i64) 3))), none⟩])
   (.cond (CX.t 7) (.seq (.region [⟨(some 2), (COp.move (CX.c (CVal.int (Go.IntKind.i64) 3))), none⟩])
     (.ret))
    (.skip)))
  (.seq (.draw [⟨6, ⟨(some 14), (COp.move (CX.t 0)), none⟩, (DK.quiet [0])⟩,
     ⟨7, ⟨(some 15), (COp.nilCheck (CX.t 14)), none⟩, (DK.quiet [0])⟩,
     ⟨8, ⟨(some 16), (COp.fieldAddr 3 (CX.t 15)), none⟩, (DK.quiet [0])⟩,
     ⟨9, ⟨(some 17), (COp.load false 1 (CX.t 16)), none⟩, (DK.quiet [0])⟩,
     ⟨10, ⟨(some 18), (COp.bin (Go.BinOp.sub) (CX.c (CVal.int (Go.IntKind.i64) 3)) (CX.t 17)), none⟩, (DK.quiet [0])⟩,
     ⟨5, ⟨(some 13), (COp.move (CX.t 0)), none⟩, (DK.quiet [0])⟩,
     ⟨11, ⟨(some 19), (COp.call (CX.c (CVal.func 25 [] [])) [CX.t 13, CX.t 18]), none⟩, (DK.eff)⟩,
     ⟨0, ⟨(some 8), (COp.move (CX.t 0)), none⟩, (DK.quiet [0, 7])⟩,
     ⟨1, ⟨(some 9), (COp.nilCheck (CX.t 8)), none⟩, (DK.quiet [0, 7])⟩,
     ⟨2, ⟨(some 10), (COp.fieldAddr 3 (CX.t 9)), none⟩, (DK.quiet [0, 7])⟩,
     ⟨3, ⟨(some 11), (COp.load false 1 (CX.t 10)), none⟩, (DK.quiet [0, 7])⟩,
     ⟨4, ⟨(some 12), (COp.bin (Go.BinOp.add) (CX.t 11) (CX.c (CVal.int (Go.IntKind.i64) 1))), none⟩, (DK.quiet [0, 7])⟩,
     ⟨12, ⟨(some 20), (COp.bin (Go.BinOp.add) (CX.t 12) (CX.t 19)), none⟩, (DK.quiet [7])⟩,
     ⟨13, ⟨(some 2), (COp.move (CX.t 20)), none⟩, (DK.quiet [7])⟩] 0)
   (.ret)))⟩
theorem ok39 : compFunc prog glb 39 p39 = some c39 := by kernel_rfl
/-- (*signalbox/signalboxmake.Maker).expr -/
def p40 : List Plan := []
def c40 : CFunc := ⟨80, [],
 .seq (.region [⟨(some 5), (COp.move (CX.t 0)), none⟩,
   ⟨(some 6), (COp.call (CX.c (CVal.func 25 [] [])) [CX.t 5, CX.c (CVal.int (Go.IntKind.i64) 9)]), none⟩,
   ⟨(some 4), (COp.move (CX.t 6)), none⟩])
 (.seq (.seq (.region [⟨(some 7), (COp.move (CX.t 1)), none⟩,
     ⟨(some 8), (COp.bin (Go.BinOp.eql) (CX.t 7) (CX.c (CVal.int (Go.IntKind.i64) 0))), none⟩,
     ⟨(some 9), (COp.move (CX.t 8)), none⟩,
     ⟨(some 10), (COp.move (CX.t 4)), (some (9, true))⟩,
     ⟨(some 11), (COp.bin (Go.BinOp.gtr) (CX.t 10) (CX.c (CVal.int (Go.IntKind.i64) 4))), (some (9, true))⟩,
     ⟨(some 12), (COp.pick (CX.t 9) (CX.t 11) (CX.c (CVal.bool false))), none⟩])
   (.cond (CX.t 12) (.region [⟨(some 13), (COp.move (CX.t 4)), none⟩,
      ⟨(some 14), (COp.bin (Go.BinOp.sub) (CX.t 13) (CX.c (CVal.int (Go.IntKind.i64) 5))), none⟩,
      ⟨(some 4), (COp.move (CX.t 14)), none⟩])
    (.skip)))
  (.seq (.region [⟨(some 15), (COp.move (CX.t 4)), none⟩])
   (.block 0 (.seq (.seq (.region [⟨(some 19), (COp.bin (Go.BinOp.eql) (CX.t 15) (CX.c (CVal.int (Go.IntKind.i64) 1))), none⟩,
        ⟨(some 18), (COp.move (CX.t 19)), none⟩])
      (.cond (CX.t 18) (.skip)
       (.region [⟨(some 20), (COp.bin (Go.BinOp.eql) (CX.t 15) (CX.c (CVal.int (Go.IntKind.i64) 2))), none⟩,
         ⟨(some 18), (COp.move (CX.t 20)), none⟩])))
     (.cond (CX.t 18) (.seq (.region [⟨(some 21), (COp.move (CX.t 0)), none⟩,
         ⟨(some 22), (COp.nilCheck (CX.t 21)), none⟩,
         ⟨(some 23), (COp.fieldAddr 3 (CX.t 22)), none⟩,
         ⟨(some 24), (COp.load false 1 (CX.t 23)), none⟩,
         ⟨(some 25), (COp.bin (Go.BinOp.gtr) (CX.t 24) (CX.c (CVal.int (Go.IntKind.i64) 0))), none⟩])
       (.cond (CX.t 25) (.region [⟨(some 26), (COp.move (CX.t 0)), none⟩,
          ⟨(some 27), (COp.call (CX.c (CVal.func 23 [] [])) [CX.t 26, CX.c (CVal.str [120])]), none⟩])
        (.region [⟨(some 28), (COp.move (CX.t 0)), none⟩,
          ⟨(some 29), (COp.call (CX.c (CVal.func 23 [] [])) [CX.t 28, CX.c (CVal.str [103])]), none⟩])))
      (.seq (.region [⟨(some 31), (COp.bin (Go.BinOp.eql) (CX.t 15) (CX.c (CVal.int (Go.IntKind.i64) 3))), none⟩,
         ⟨(some 30), (COp.move (CX.t 31)), none⟩])
       (.cond (CX.t 30) (.seq (.region [⟨(some 32), (COp.move (CX.t 0)), none⟩,
           ⟨(some 33), (COp.nilCheck (CX.t 32)), none⟩,
           ⟨(some 34), (COp.fieldAddr 4 (CX.t 33)), none⟩,
           ⟨(some 35), (COp.load false 1 (CX.t 34)), none⟩,
           ⟨(some 36), (COp.bin (Go.BinOp.eql) (CX.t 35) (CX.c (CVal.str [118]))), none⟩])
         (.cond (CX.t 36) (.region [⟨(some 37), (COp.move (CX.t 0)), none⟩,
            ⟨(some 38), (COp.call (CX.c (CVal.func 23 [] [])) [CX.t 37, CX.c (CVal.str [118])]), none⟩])
          (.region [⟨(some 39), (COp.move (CX.t 0)), none⟩,
            ⟨(some 40), (COp.call (CX.c (CVal.func 23 [] [])) [CX.t 39, CX.c (CVal.str [103])]), none⟩])))
        (.seq (.region [⟨(some 42), (COp.bin (Go.BinOp.eql) (CX.t 15) (CX.c (CVal.int (Go.IntKind.i64) 4))), none⟩,
           ⟨(some 41), (COp.move (CX.t 42)), none⟩])
         (.cond (CX.t 41) (.seq (.region [⟨(some 43), (COp.move (CX.t 0)), none⟩,
             ⟨(some 44), (COp.nilCheck (CX.t 43)), none⟩,
             ⟨(some 45), (COp.fieldAddr 4 (CX.t 44)), none⟩,
             ⟨(some 46), (COp.load false 1 (CX.t 45)), none⟩,
             ⟨(some 47), (COp.bin (Go.BinOp.eql) (CX.t 46) (CX.c (CVal.str [119]))), none⟩])
           (.cond (CX.t 47) (.region [⟨(some 48), (COp.move (CX.t 0)), none⟩,
              ⟨(some 49), (COp.call (CX.c (CVal.func 23 [] [])) [CX.t 48, CX.c (CVal.str [119, 91, 49, 93])]), none⟩])
            (.region [⟨(some 50), (COp.move (CX.t 0)), none⟩,
              ⟨(some 51), (COp.call (CX.c (CVal.func 23 [] [])) [CX.t 50, CX.c (CVal.str [104, 91, 50, 93])]), none⟩])))
          (.seq (.region [⟨(some 53), (COp.bin (Go.BinOp.eql) (CX.t 15) (CX.c (CVal.int (Go.IntKind.i64) 5))), none⟩,
             ⟨(some 52), (COp.move (CX.t 53)), none⟩])
           (.cond (CX.t 52) (.seq (.region [⟨(some 54), (COp.move (CX.t 0)), none⟩,
               ⟨(some 55), (COp.call (CX.c (CVal.func 23 [] [])) [CX.t 54, CX.c (CVal.str [45])]), none⟩])
             (.region [⟨(some 56), (COp.move (CX.t 0)), none⟩,
               ⟨(some 57), (COp.call (CX.c (CVal.func 40 [] [])) [CX.t 56, CX.c (CVal.int (Go.IntKind.i64) 0)]), none⟩]))
            (.seq (.seq (.region [⟨(some 59), (COp.bin (Go.BinOp.eql) (CX.t 15) (CX.c (CVal.int (Go.IntKind.i64) 6))), none⟩,
                ⟨(some 58), (COp.move (CX.t 59)), none⟩])
              (.cond (CX.t 58) (.skip)
               (.seq (.region [⟨(some 60), (COp.bin (Go.BinOp.eql) (CX.t 15) (CX.c (CVal.int (Go.IntKind.i64) 7))), none⟩,
                  ⟨(some 58), (COp.move (CX.t 60)), none⟩])
                (.cond (CX.t 58) (.skip)
                 (.region [⟨(some 61), (COp.bin (Go.BinOp.eql) (CX.t 15) (CX.c (CVal.int (Go.IntKind.i64) 8))), none⟩,
                   ⟨(some 58), (COp.move (CX.t 61)), none⟩])))))
             (.cond (CX.t 58) (.seq (.region [⟨(some 62), (COp.move (CX.t 0)), none⟩,
                 ⟨(some 63), (COp.call (CX.c (CVal.func 23 [] [])) [CX.t 62, CX.c (CVal.str [40])]), none⟩])
               (.seq (.region [⟨(some 64), (COp.move (CX.t 0)), none⟩,
                  ⟨(some 65), (COp.move (CX.t 1)), none⟩,
                  ⟨(some 66), (COp.bin (Go.BinOp.sub) (CX.t 65) (CX.c (CVal.int (Go.IntKind.i64) 1))), none⟩,
                  ⟨(some 67), (COp.call (CX.c (CVal.func 40 [] [])) [CX.t 64, CX.t 66]), none⟩])
                (.seq (.region [⟨(some 68), (COp.move (CX.t 0)), none⟩,
                   ⟨(some 69), (COp.build [CVal.str [], CVal.str [], CVal.str [], CVal.str [], CVal.str [], CVal.str []] [(0, 1, CX.c (CVal.str [32, 43, 32])), (1, 1, CX.c (CVal.str [32, 45, 32])), (2, 1, CX.c (CVal.str [32, 42, 32])), (3, 1, CX.c (CVal.str [32, 47, 32])), (4, 1, CX.c (CVal.str [32, 37, 32])), (5, 1, CX.c (CVal.str [32, 43, 32]))]), none⟩,
                   ⟨(some 70), (COp.move (CX.t 0)), none⟩,
                   ⟨(some 71), (COp.call (CX.c (CVal.func 25 [] [])) [CX.t 70, CX.c (CVal.int (Go.IntKind.i64) 6)]), none⟩,
                   ⟨(some 72), (COp.indexArr 6 false 1 (CX.t 69) (CX.t 71)), none⟩,
                   ⟨(some 73), (COp.call (CX.c (CVal.func 23 [] [])) [CX.t 68, CX.t 72]), none⟩])
                 (.seq (.region [⟨(some 74), (COp.move (CX.t 0)), none⟩,
                    ⟨(some 75), (COp.move (CX.t 1)), none⟩,
                    ⟨(some 76), (COp.bin (Go.BinOp.sub) (CX.t 75) (CX.c (CVal.int (Go.IntKind.i64) 1))), none⟩,
                    ⟨(some 77), (COp.call (CX.c (CVal.func 40 [] [])) [CX.t 74, CX.t 76]), none⟩])
                  (.region [⟨(some 78), (COp.move (CX.t 0)), none⟩,
                    ⟨(some 79), (COp.call (CX.c (CVal.func 23 [] [])) [CX.t 78, CX.c (CVal.str [41])]), none⟩])))))
              (.region [⟨(some 16), (COp.move (CX.t 0)), none⟩,
                ⟨(some 17), (COp.call (CX.c (CVal.func 26 [] [])) [CX.t 16, CX.c (CVal.int (Go.IntKind.i64) 10)]), none⟩]))))))))))))))⟩
theorem ok40 : compFunc prog glb 40 p40 = some c40 := by kernel_rfl
/-- signalbox/token.run -/
def p44 : List Plan := []
def c44 : CFunc := ⟨20, [CRV.tmp 4],
 .seq (.region [⟨(some 4), (COp.move (CX.c (CVal.int (Go.IntKind.i64) 0))), none⟩])
 (.seq (.seq (.region [⟨(some 7), (COp.move (CX.t 0)), none⟩,
     ⟨(some 8), (COp.rangeStr (CX.t 7)), none⟩])
   (.block 0 (.loop (.seq (.region [⟨(some 9), (COp.nextStr (CX.t 8)), none⟩,
        ⟨(some 10), (COp.extract (CX.t 9) 0), none⟩])
      (.seq (.cond (CX.t 10) (.skip)
        (.exit 0))
       (.block 1 (.seq (.region [⟨(some 11), (COp.extract (CX.t 9) 1), none⟩,
           ⟨(some 12), (COp.extract (CX.t 9) 2), none⟩,
           ⟨(some 5), (COp.move (CX.t 11)), none⟩,
           ⟨(some 6), (COp.move (CX.t 12)), none⟩])
         (.seq (.region [⟨(some 13), (COp.move (CX.t 1)), none⟩,
            ⟨(some 14), (COp.move (CX.t 6)), none⟩,
            ⟨(some 15), (COp.call (CX.t 13) [CX.t 14]), none⟩,
            ⟨(some 16), (COp.un (Go.UnOp.not) (CX.t 15)), none⟩])
          (.cond (CX.t 16) (.seq (.region [⟨(some 17), (COp.move (CX.t 5)), none⟩,
              ⟨(some 4), (COp.move (CX.t 17)), none⟩])
            (.ret))
           (.skip))))))))))
  (.seq (.region [⟨(some 18), (COp.move (CX.t 0)), none⟩,
     ⟨(some 19), (COp.len (LK.str) (CX.t 18)), none⟩,
     ⟨(some 4), (COp.move (CX.t 19)), none⟩])
   (.ret)))⟩
theorem ok44 : compFunc prog glb 44 p44 = some c44 := by kernel_rfl
/-- (*signalbox/token.lexer).name$1 -/
def p45 : List Plan := []
def c45 : CFunc := ⟨9, [CRV.tmp 2],
 .seq (.region [⟨(some 2), (COp.move (CX.c (CVal.bool false))), none⟩])
 (.seq (.region [⟨(some 3), (COp.move (CX.t 0)), none⟩,
    ⟨(some 4), (COp.call (CX.c (CVal.func 32 [] [])) [CX.t 3]), none⟩,
    ⟨(some 5), (COp.move (CX.t 4)), none⟩,
    ⟨(some 6), (COp.move (CX.t 0)), (some (5, false))⟩,
    ⟨(some 7), (COp.call (CX.c (CVal.func 34 [] [])) [CX.t 6]), (some (5, false))⟩,
    ⟨(some 8), (COp.pick (CX.t 5) (CX.c (CVal.bool true)) (CX.t 7)), none⟩,
    ⟨(some 2), (COp.move (CX.t 8)), none⟩])
  (.ret))⟩
theorem ok45 : compFunc prog glb 45 p45 = some c45 := by kernel_rfl
/-- strings.HasPrefix -/
def p47 : List Plan := []
def c47 : CFunc := ⟨8, [CRV.tmp 4],
 .seq (.region [⟨(some 4), (COp.move (CX.c (CVal.bool false))), none⟩])
 (.seq (.region [⟨(some 5), (COp.move (CX.t 0)), none⟩,
    ⟨(some 6), (COp.move (CX.t 1)), none⟩,
    ⟨(some 7), (COp.call (CX.c (CVal.func 56 [] [])) [CX.t 5, CX.t 6]), none⟩,
    ⟨(some 4), (COp.move (CX.t 7)), none⟩])
  (.ret))⟩
theorem ok47 : compFunc prog glb 47 p47 = some c47 := by kernel_rfl
/-- (*signalbox/signalboxmake.Maker).cond -/
def p49 : List Plan := []
def c49 : CFunc := ⟨63, [],
 .seq (.region [⟨(some 5), (COp.move (CX.t 0)), none⟩,
   ⟨(some 6), (COp.call (CX.c (CVal.func 25 [] [])) [CX.t 5, CX.c (CVal.int (Go.IntKind.i64) 8)]), none⟩,
   ⟨(some 4), (COp.move (CX.t 6)), none⟩])
 (.seq (.seq (.region [⟨(some 7), (COp.move (CX.t 1)), none⟩,
     ⟨(some 8), (COp.bin (Go.BinOp.eql) (CX.t 7) (CX.c (CVal.int (Go.IntKind.i64) 0))), none⟩,
     ⟨(some 9), (COp.move (CX.t 8)), none⟩,
     ⟨(some 10), (COp.move (CX.t 4)), (some (9, true))⟩,
     ⟨(some 11), (COp.bin (Go.BinOp.gtr) (CX.t 10) (CX.c (CVal.int (Go.IntKind.i64) 4))), (some (9, true))⟩,
     ⟨(some 12), (COp.pick (CX.t 9) (CX.t 11) (CX.c (CVal.bool false))), none⟩])
   (.cond (CX.t 12) (.region [⟨(some 4), (COp.move (CX.c (CVal.int (Go.IntKind.i64) 0))), none⟩])
    (.skip)))
  (.seq (.region [⟨(some 13), (COp.move (CX.t 4)), none⟩])
   (.block 0 (.seq (.region [⟨(some 25), (COp.bin (Go.BinOp.eql) (CX.t 13) (CX.c (CVal.int (Go.IntKind.i64) 5))), none⟩,
       ⟨(some 24), (COp.move (CX.t 25)), none⟩])
     (.cond (CX.t 24) (.seq (.region [⟨(some 26), (COp.move (CX.t 0)), none⟩,
         ⟨(some 27), (COp.call (CX.c (CVal.func 23 [] [])) [CX.t 26, CX.c (CVal.str [110, 111, 116, 32, 40])]), none⟩])
       (.seq (.region [⟨(some 28), (COp.move (CX.t 0)), none⟩,
          ⟨(some 29), (COp.move (CX.t 1)), none⟩,
          ⟨(some 30), (COp.bin (Go.BinOp.sub) (CX.t 29) (CX.c (CVal.int (Go.IntKind.i64) 1))), none⟩,
          ⟨(some 31), (COp.call (CX.c (CVal.func 49 [] [])) [CX.t 28, CX.t 30]), none⟩])
        (.region [⟨(some 32), (COp.move (CX.t 0)), none⟩,
          ⟨(some 33), (COp.call (CX.c (CVal.func 23 [] [])) [CX.t 32, CX.c (CVal.str [41])]), none⟩])))
      (.seq (.seq (.region [⟨(some 35), (COp.bin (Go.BinOp.eql) (CX.t 13) (CX.c (CVal.int (Go.IntKind.i64) 6))), none⟩,
          ⟨(some 34), (COp.move (CX.t 35)), none⟩])
        (.cond (CX.t 34) (.skip)
         (.region [⟨(some 36), (COp.bin (Go.BinOp.eql) (CX.t 13) (CX.c (CVal.int (Go.IntKind.i64) 7))), none⟩,
           ⟨(some 34), (COp.move (CX.t 36)), none⟩])))
       (.cond (CX.t 34) (.seq (.region [⟨(some 37), (COp.move (CX.t 0)), none⟩,
           ⟨(some 38), (COp.call (CX.c (CVal.func 23 [] [])) [CX.t 37, CX.c (CVal.str [40])]), none⟩])
         (.seq (.region [⟨(some 39), (COp.move (CX.t 0)), none⟩,
            ⟨(some 40), (COp.move (CX.t 1)), none⟩,
            ⟨(some 41), (COp.bin (Go.BinOp.sub) (CX.t 40) (CX.c (CVal.int (Go.IntKind.i64) 1))), none⟩,
            ⟨(some 42), (COp.call (CX.c (CVal.func 49 [] [])) [CX.t 39, CX.t 41]), none⟩])
          (.seq (.region [⟨(some 43), (COp.move (CX.t 0)), none⟩,
             ⟨(some 44), (COp.build [CVal.str [], CVal.str []] [(0, 1, CX.c (CVal.str [32, 97, 110, 100, 32])), (1, 1, CX.c (CVal.str [32, 111, 114, 32]))]), none⟩,
             ⟨(some 45), (COp.move (CX.t 4)), none⟩,
             ⟨(some 46), (COp.bin (Go.BinOp.sub) (CX.t 45) (CX.c (CVal.int (Go.IntKind.i64) 6))), none⟩,
             ⟨(some 47), (COp.indexArr 2 false 1 (CX.t 44) (CX.t 46)), none⟩,
             ⟨(some 48), (COp.call (CX.c (CVal.func 23 [] [])) [CX.t 43, CX.t 47]), none⟩])
           (.seq (.region [⟨(some 49), (COp.move (CX.t 0)), none⟩,
              ⟨(some 50), (COp.move (CX.t 1)), none⟩,
              ⟨(some 51), (COp.bin (Go.BinOp.sub) (CX.t 50) (CX.c (CVal.int (Go.IntKind.i64) 1))), none⟩,
              ⟨(some 52), (COp.call (CX.c (CVal.func 49 [] [])) [CX.t 49, CX.t 51]), none⟩])
            (.region [⟨(some 53), (COp.move (CX.t 0)), none⟩,
              ⟨(some 54), (COp.call (CX.c (CVal.func 23 [] [])) [CX.t 53, CX.c (CVal.str [41])]), none⟩])))))
        (.seq (.region [⟨(some 56), (COp.bin (Go.BinOp.eql) (CX.t 13) (CX.c (CVal.int (Go.IntKind.i64) 4))), none⟩,
           ⟨(some 55), (COp.move (CX.t 56)), none⟩])
         (.cond (CX.t 55) (.region [⟨(some 57), (COp.move (CX.t 0)), none⟩,
            ⟨(some 58), (COp.build [CVal.str [], CVal.str []] [(0, 1, CX.c (CVal.str [116, 114, 117, 101])), (1, 1, CX.c (CVal.str [102, 97, 108, 115, 101]))]), none⟩,
            ⟨(some 59), (COp.move (CX.t 0)), none⟩,
            ⟨(some 60), (COp.call (CX.c (CVal.func 25 [] [])) [CX.t 59, CX.c (CVal.int (Go.IntKind.i64) 2)]), none⟩,
            ⟨(some 61), (COp.indexArr 2 false 1 (CX.t 58) (CX.t 60)), none⟩,
            ⟨(some 62), (COp.call (CX.c (CVal.func 23 [] [])) [CX.t 57, CX.t 61]), none⟩])
          (.seq (.region [⟨(some 14), (COp.move (CX.t 0)), none⟩,
             ⟨(some 15), (COp.call (CX.c (CVal.func 40 [] [])) [CX.t 14, CX.c (CVal.int (Go.IntKind.i64) 1)]), none⟩])
           (.seq (.region [⟨(some 16), (COp.move (CX.t 0)), none⟩,
              ⟨(some 17), (COp.build [CVal.str [], CVal.str [], CVal.str [], CVal.str [], CVal.str [], CVal.str []] [(0, 1, CX.c (CVal.str [32, 61, 32])), (1, 1, CX.c (CVal.str [32, 60, 62, 32])), (2, 1, CX.c (CVal.str [32, 60, 32])), (3, 1, CX.c (CVal.str [32, 60, 61, 32])), (4, 1, CX.c (CVal.str [32, 62, 32])), (5, 1, CX.c (CVal.str [32, 62, 61, 32]))]), none⟩,
              ⟨(some 18), (COp.move (CX.t 0)), none⟩,
              ⟨(some 19), (COp.call (CX.c (CVal.func 25 [] [])) [CX.t 18, CX.c (CVal.int (Go.IntKind.i64) 6)]), none⟩,
              ⟨(some 20), (COp.indexArr 6 false 1 (CX.t 17) (CX.t 19)), none⟩,
              ⟨(some 21), (COp.call (CX.c (CVal.func 23 [] [])) [CX.t 16, CX.t 20]), none⟩])
            (.region [⟨(some 22), (COp.move (CX.t 0)), none⟩,
              ⟨(some 23), (COp.call (CX.c (CVal.func 40 [] [])) [CX.t 22, CX.c (CVal.int (Go.IntKind.i64) 1)]), none⟩]))))))))))))⟩
theorem ok49 : compFunc prog glb 49 p49 = some c49 := by kernel_rfl
/-- (*signalbox/signalboxmake.Maker).items -/
def p50 : List Plan := []
def c50 : CFunc := ⟨15, [],
 .seq (.seq (.region [⟨(some 2), (COp.move (CX.t 0)), none⟩,
    ⟨(some 3), (COp.call (CX.c (CVal.func 25 [] [])) [CX.t 2, CX.c (CVal.int (Go.IntKind.i64) 3)]), none⟩,
    ⟨(some 4), (COp.bin (Go.BinOp.eql) (CX.t 3) (CX.c (CVal.int (Go.IntKind.i64) 0))), none⟩])
  (.cond (CX.t 4) (.region [⟨(some 5), (COp.move (CX.t 0)), none⟩,
     ⟨(some 6), (COp.call (CX.c (CVal.func 23 [] [])) [CX.t 5, CX.c (CVal.str [98, 32, 49, 44, 32])]), none⟩])
   (.skip)))
 (.seq (.region [⟨(some 7), (COp.move (CX.t 0)), none⟩,
    ⟨(some 8), (COp.call (CX.c (CVal.func 23 [] [])) [CX.t 7, CX.c (CVal.str [97, 32])]), none⟩])
  (.region [⟨(some 9), (COp.move (CX.t 0)), none⟩,
    ⟨(some 10), (COp.move (CX.t 0)), none⟩,
    ⟨(some 11), (COp.call (CX.c (CVal.func 25 [] [])) [CX.t 10, CX.c (CVal.int (Go.IntKind.i64) 2)]), none⟩,
    ⟨(some 12), (COp.bin (Go.BinOp.add) (CX.c (CVal.int (Go.IntKind.i64) 1)) (CX.t 11)), none⟩,
    ⟨(some 13), (COp.call (CX.c (CVal.func 24 [] [])) [CX.t 12]), none⟩,
    ⟨(some 14), (COp.call (CX.c (CVal.func 23 [] [])) [CX.t 9, CX.t 13]), none⟩]))⟩
theorem ok50 : compFunc prog glb 50 p50 = some c50 := by kernel_rfl
/-- (*signalbox/signalboxmake.Maker).region -/
def p51 : List Plan := []
def c51 : CFunc := ⟨51, [],
 .seq (.region [⟨(some 6), (COp.move (CX.t 0)), none⟩,
   ⟨(some 7), (COp.nilCheck (CX.t 6)), none⟩,
   ⟨(some 8), (COp.fieldAddr 4 (CX.t 7)), none⟩,
   ⟨(some 9), (COp.load false 1 (CX.t 8)), none⟩,
   ⟨(some 4), (COp.move (CX.t 9)), none⟩])
 (.seq (.region [⟨(some 10), (COp.build [CVal.str [], CVal.str []] [(0, 1, CX.c (CVal.str [118])), (1, 1, CX.c (CVal.str [119]))]), none⟩,
    ⟨(some 11), (COp.move (CX.t 0)), none⟩,
    ⟨(some 12), (COp.call (CX.c (CVal.func 25 [] [])) [CX.t 11, CX.c (CVal.int (Go.IntKind.i64) 2)]), none⟩,
    ⟨(some 13), (COp.indexArr 2 false 1 (CX.t 10) (CX.t 12)), none⟩,
    ⟨(some 5), (COp.move (CX.t 13)), none⟩])
  (.seq (.seq (.region [⟨(some 14), (COp.move (CX.t 4)), none⟩,
      ⟨(some 15), (COp.bin (Go.BinOp.neq) (CX.t 14) (CX.c (CVal.str []))), none⟩])
    (.cond (CX.t 15) (.seq (.region [⟨(some 16), (COp.move (CX.t 0)), none⟩,
        ⟨(some 17), (COp.call (CX.c (CVal.func 23 [] [])) [CX.t 16, CX.c (CVal.str [115, 107, 105, 112])]), none⟩])
      (.ret))
     (.skip)))
   (.seq (.region [⟨(some 18), (COp.move (CX.t 0)), none⟩,
      ⟨(some 19), (COp.move (CX.t 5)), none⟩,
      ⟨(some 20), (COp.nilCheck (CX.t 18)), none⟩,
      ⟨(some 21), (COp.fieldAddr 4 (CX.t 20)), none⟩,
      ⟨none, (COp.store 1 (CX.t 21) (CX.t 19)), none⟩])
    (.seq (.region [⟨(some 22), (COp.move (CX.t 0)), none⟩,
       ⟨(some 23), (COp.move (CX.t 5)), none⟩,
       ⟨(some 24), (COp.bin (Go.BinOp.add) (CX.c (CVal.str [114, 101, 103, 105, 111, 110, 32])) (CX.t 23)), none⟩,
       ⟨(some 25), (COp.call (CX.c (CVal.func 23 [] [])) [CX.t 22, CX.t 24]), none⟩])
     (.seq (.seq (.region [⟨(some 26), (COp.move (CX.t 0)), none⟩,
         ⟨(some 27), (COp.call (CX.c (CVal.func 25 [] [])) [CX.t 26, CX.c (CVal.int (Go.IntKind.i64) 2)]), none⟩,
         ⟨(some 28), (COp.bin (Go.BinOp.eql) (CX.t 27) (CX.c (CVal.int (Go.IntKind.i64) 1))), none⟩])
       (.cond (CX.t 28) (.seq (.region [⟨(some 29), (COp.move (CX.t 0)), none⟩,
           ⟨(some 30), (COp.call (CX.c (CVal.func 23 [] [])) [CX.t 29, CX.c (CVal.str [32, 119, 104, 101, 110, 32])]), none⟩])
         (.region [⟨(some 31), (COp.move (CX.t 0)), none⟩,
           ⟨(some 32), (COp.call (CX.c (CVal.func 61 [] [])) [CX.t 31]), none⟩]))
        (.skip)))
      (.seq (.region [⟨(some 33), (COp.move (CX.t 0)), none⟩,
         ⟨(some 34), (COp.call (CX.c (CVal.func 23 [] [])) [CX.t 33, CX.c (CVal.str [32, 100, 111, 32])]), none⟩])
       (.seq (.seq (.region [⟨(some 35), (COp.move (CX.t 5)), none⟩,
           ⟨(some 36), (COp.bin (Go.BinOp.eql) (CX.t 35) (CX.c (CVal.str [118]))), none⟩])
         (.cond (CX.t 36) (.region [⟨(some 37), (COp.move (CX.t 0)), none⟩,
            ⟨(some 38), (COp.call (CX.c (CVal.func 23 [] [])) [CX.t 37, CX.c (CVal.str [118, 32, 58, 61, 32, 118, 32, 43, 32, 49, 59, 10])]), none⟩])
          (.region [⟨(some 39), (COp.move (CX.t 0)), none⟩,
            ⟨(some 40), (COp.call (CX.c (CVal.func 23 [] [])) [CX.t 39, CX.c (CVal.str [119, 91, 48, 93, 32, 58, 61, 32, 119, 91, 48, 93, 32, 43, 32, 49, 59, 10])]), none⟩])))
        (.seq (.region [⟨(some 41), (COp.move (CX.t 0)), none⟩,
           ⟨(some 42), (COp.move (CX.t 1)), none⟩,
           ⟨(some 43), (COp.bin (Go.BinOp.sub) (CX.t 42) (CX.c (CVal.int (Go.IntKind.i64) 1))), none⟩,
           ⟨(some 44), (COp.call (CX.c (CVal.func 27 [] [])) [CX.t 41, CX.t 43]), none⟩])
         (.seq (.region [⟨(some 45), (COp.move (CX.t 0)), none⟩,
            ⟨(some 46), (COp.call (CX.c (CVal.func 23 [] [])) [CX.t 45, CX.c (CVal.str [32, 111, 100])]), none⟩])
          (.region [⟨(some 47), (COp.move (CX.t 0)), none⟩,
            ⟨(some 48), (COp.move (CX.t 4)), none⟩,
            ⟨(some 49), (COp.nilCheck (CX.t 47)), none⟩,
            ⟨(some 50), (COp.fieldAddr 4 (CX.t 49)), none⟩,
            ⟨none, (COp.store 1 (CX.t 50) (CX.t 48)), none⟩]))))))))))⟩
theorem ok51 : compFunc prog glb 51 p51 = some c51 := by kernel_rfl
/-- internal/stringslite.HasPrefix -/
def p56 : List Plan := []
def c56 : CFunc := ⟨18, [CRV.tmp 4],
 .seq (.region [⟨(some 4), (COp.move (CX.c (CVal.bool false))), none⟩])
 (.seq (.region [⟨(some 5), (COp.move (CX.t 0)), none⟩,
    ⟨(some 6), (COp.len (LK.str) (CX.t 5)), none⟩,
    ⟨(some 7), (COp.move (CX.t 1)), none⟩,
    ⟨(some 8), (COp.len (LK.str) (CX.t 7)), none⟩,
    ⟨(some 9), (COp.bin (Go.BinOp.geq) (CX.t 6) (CX.t 8)), none⟩,
    ⟨(some 10), (COp.move (CX.t 9)), none⟩,
    ⟨(some 11), (COp.move (CX.t 0)), (some (10, true))⟩,
    ⟨(some 12), (COp.move (CX.t 1)), (some (10, true))⟩,
    ⟨(some 13), (COp.len (LK.str) (CX.t 12)), (some (10, true))⟩,
    ⟨(some 14), (COp.sliceStr (CX.t 11) none (some (CX.t 13))), (some (10, true))⟩,
    ⟨(some 15), (COp.move (CX.t 1)), (some (10, true))⟩,
    ⟨(some 16), (COp.bin (Go.BinOp.eql) (CX.t 14) (CX.t 15)), (some (10, true))⟩,
    ⟨(some 17), (COp.pick (CX.t 10) (CX.t 16) (CX.c (CVal.bool false))), none⟩,
    ⟨(some 4), (COp.move (CX.t 17)), none⟩])
  (.ret))⟩
theorem ok56 : compFunc prog glb 56 p56 = some c56 := by kernel_rfl
/-- (*signalbox/signalboxmake.Maker).wait -/
def p61 : List Plan := []
def c61 : CFunc := ⟨19, [],
 .seq (.seq (.region [⟨(some 2), (COp.move (CX.t 0)), none⟩,
    ⟨(some 3), (COp.nilCheck (CX.t 2)), none⟩,
    ⟨(some 4), (COp.fieldAddr 4 (CX.t 3)), none⟩,
    ⟨(some 5), (COp.load false 1 (CX.t 4)), none⟩,
    ⟨(some 6), (COp.bin (Go.BinOp.eql) (CX.t 5) (CX.c (CVal.str [118]))), none⟩])
  (.cond (CX.t 6) (.region [⟨(some 7), (COp.move (CX.t 0)), none⟩,
     ⟨(some 8), (COp.call (CX.c (CVal.func 23 [] [])) [CX.t 7, CX.c (CVal.str [118])]), none⟩])
   (.region [⟨(some 9), (COp.move (CX.t 0)), none⟩,
     ⟨(some 10), (COp.call (CX.c (CVal.func 23 [] [])) [CX.t 9, CX.c (CVal.str [119, 91, 48, 93])]), none⟩])))
 (.seq (.region [⟨(some 11), (COp.move (CX.t 0)), none⟩,
    ⟨(some 12), (COp.build [CVal.str [], CVal.str [], CVal.str []] [(0, 1, CX.c (CVal.str [32, 60, 32])), (1, 1, CX.c (CVal.str [32, 62, 61, 32])), (2, 1, CX.c (CVal.str [32, 60, 62, 32]))]), none⟩,
    ⟨(some 13), (COp.move (CX.t 0)), none⟩,
    ⟨(some 14), (COp.call (CX.c (CVal.func 25 [] [])) [CX.t 13, CX.c (CVal.int (Go.IntKind.i64) 3)]), none⟩,
    ⟨(some 15), (COp.indexArr 3 false 1 (CX.t 12) (CX.t 14)), none⟩,
    ⟨(some 16), (COp.call (CX.c (CVal.func 23 [] [])) [CX.t 11, CX.t 15]), none⟩])
  (.region [⟨(some 17), (COp.move (CX.t 0)), none⟩,
    ⟨(some 18), (COp.call (CX.c (CVal.func 26 [] [])) [CX.t 17, CX.c (CVal.int (Go.IntKind.i64) 3)]), none⟩]))⟩
theorem ok61 : compFunc prog glb 61 p61 = some c61 := by kernel_rfl
end Go.Proofs.YtldhkhgbjomjcaaDoor.Cm
