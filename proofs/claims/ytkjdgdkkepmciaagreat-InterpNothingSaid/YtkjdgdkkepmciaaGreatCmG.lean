/-
  The clean machine, and what the law's functions do in it: part G of this claim's own texts. No conditions.
-/
import Derived.Test.YtkjdgdkkepmciaaGreatCmC
import Derived.Test.YtkjdgdkkepmciaaGreatProg
import Derived.KernelRfl
import Derived.Lib.LaidTab
import Derived.Lib.ItoaNum
namespace Go.Proofs.YtkjdgdkkepmciaaGreat.Cm
noncomputable abbrev prog := Go.Proofs.Tryz.prog
def facts (_ : World) : Prop := True
noncomputable abbrev glb : Gl := ⟨0, facts, modOf prog⟩
theorem mixed : prog.follows .mixedOrders = true := by kernel_rfl
abbrev Mv (d s : Nat) : COper := ⟨some d, .move (.t s), none⟩
abbrev Mt (d s g : Nat) : COper := ⟨some d, .move (.t s), some (g, true)⟩
abbrev Mf (d s g : Nat) : COper := ⟨some d, .move (.t s), some (g, false)⟩
abbrev Op (d : Nat) (o : COp) : COper := ⟨some d, o, none⟩
abbrev Ot (d : Nat) (o : COp) (g : Nat) : COper := ⟨some d, o, some (g, true)⟩
abbrev Of (d : Nat) (o : COp) (g : Nat) : COper := ⟨some d, o, some (g, false)⟩
abbrev On (o : COp) : COper := ⟨none, o, none⟩
abbrev Ca (f : Nat) (l : List CX) : COp := .call (.c (.func f [] [])) l
abbrev Ci (n : Int) : CX := .c (.int .i64 n)
abbrev Rg (l : List COper) (c : CCode) : CCode := .seq (.region l) c
def p3 : List Plan := []
def c3 : CFunc := ⟨71, [.tmp 2],
 Rg [Op 2 (.move (.c (.bool false)))]
 (Rg [Op 3 (.move (.c (.nilPtr)))]
 (Rg [Mv 5 3, Mv 6 0, Op 7 (.buildSlice [.int (.i64) 0] 1 [(0, 1, .t 6)]), Op 8 (Ca 4 [.t 5, .t 7]), Op 4 (.new [.int (.i64) 0, .int (.i64) 0, .int (.i64) 0, .int (.i64) 0, .nilSlice, .nilSlice]), On (.store 6 (.t 4) (.t 8))]
 (Rg [Mv 9 3, Mv 10 0, Op 11 (Ca 5 [.t 9, .t 10]), Op 12 (.un (.not) (.t 11)), Mv 13 12, Ot 14 (.fieldAddr 0 (.t 4)) 13, Ot 15 (.load false 1 (.t 14)) 13, Ot 16 (.bin (.eql) (.t 15) (Ci 0)) 13, Op 17 (.pick (.t 13) (.t 16) (.c (.bool false))), Mv 18 17, Ot 19 (.fieldAddr 3 (.t 4)) 18, Ot 20 (.load false 1 (.t 19)) 18, Ot 21 (.bin (.eql) (.t 20) (Ci 0)) 18, Op 22 (.pick (.t 18) (.t 21) (.c (.bool false))), Mv 23 22, Ot 24 (.fieldAddr 4 (.t 4)) 23, Ot 25 (.load false 1 (.t 24)) 23, Ot 26 (.len (.slice) (.t 25)) 23, Ot 27 (.bin (.eql) (.t 26) (Ci 0)) 23, Op 28 (.pick (.t 23) (.t 27) (.c (.bool false))), Mv 29 28, Mt 30 3 29, Ot 31 (Ca 6 [.t 30]) 29, Ot 32 (.bin (.eql) (.t 31) (Ci 0)) 29, Op 33 (.pick (.t 29) (.t 32) (.c (.bool false))), Mv 34 33, Mt 35 3 34, Ot 36 (Ca 7 [.t 35]) 34, Ot 37 (.bin (.eql) (.t 36) (Ci 0)) 34, Op 38 (.pick (.t 34) (.t 37) (.c (.bool false))), Mv 39 38, Mt 40 3 39, Ot 41 (Ca 8 [.t 40]) 39, Ot 42 (.len (.slice) (.t 41)) 39, Ot 43 (.bin (.eql) (.t 42) (Ci 0)) 39, Op 44 (.pick (.t 39) (.t 43) (.c (.bool false))), Mv 45 44, Mt 46 3 45, Ot 47 (Ca 9 [.t 46]) 45, Ot 48 (.len (.slice) (.t 47)) 45, Ot 49 (.bin (.eql) (.t 48) (Ci 0)) 45, Op 50 (.pick (.t 45) (.t 49) (.c (.bool false))), Mv 51 50, Mt 52 3 51, Ot 53 (Ca 10 [.t 52]) 51, Ot 54 (.len (.slice) (.t 53)) 51, Ot 55 (.bin (.eql) (.t 54) (Ci 0)) 51, Op 56 (.pick (.t 51) (.t 55) (.c (.bool false))), Mv 57 56, Mt 58 3 57, Ot 59 (Ca 11 [.t 58]) 57, Ot 60 (.len (.slice) (.t 59)) 57, Ot 61 (.bin (.eql) (.t 60) (Ci 0)) 57, Op 62 (.pick (.t 57) (.t 61) (.c (.bool false))), Mv 63 62, Mt 64 3 63, Ot 65 (Ca 12 [.t 64]) 63, Ot 66 (.eq (.ptr) false (.t 65) (.c (.nilPtr))) 63, Op 67 (.pick (.t 63) (.t 66) (.c (.bool false))), Mv 68 67, Ot 69 (Ca 13 []) 68, Op 70 (.pick (.t 68) (.t 69) (.c (.bool false))), Mv 2 70]
 (.ret))))⟩
theorem ok3 : compFunc prog glb 3 p3 = some c3 := by kernel_rfl
def p4 : List Plan := [⟨[(8, .quiet [0]), (9, .eff), (10, .quiet [0, 2]), (11, .eff), (13, .alloc 0), (4, .quiet [0, 2, 4]), (5, .quiet [0, 2, 4]), (6, .quiet [0, 2, 4]), (7, .quiet [0, 2, 4]), (0, .quiet [0, 2, 4]), (1, .quiet [0, 2, 4]), (2, .quiet [0, 2, 4]), (3, .quiet [0, 2, 4]), (12, .quiet [4]), (14, .eff)], 1, [0, 1, 3, 7, 0, 16, 48, 112, 0, 256, 0, 1792, 4095, 0, 16383]⟩, ⟨[(2, .quiet [0]), (3, .quiet [0]), (4, .quiet [0]), (5, .quiet [0]), (6, .quiet [0]), (7, .eff), (0, .quiet [0, 6]), (1, .quiet [0, 6]), (8, .eff), (9, .quiet [9]), (10, .eff)], 0, [0, 1, 0, 4, 12, 28, 60, 124, 255, 511, 1023]⟩]
def c4 : CFunc := ⟨50, [.cell 4 true 6],
 Rg [Op 4 (.new [.int (.i64) 0, .int (.i64) 0, .int (.i64) 0, .int (.i64) 0, .nilSlice, .nilSlice])]
 (.seq (Rg [Mv 8 0, Op 9 (.eq (.ptr) false (.t 8) (.c (.nilPtr)))]
 (.cond (.t 9) (Rg [Op 10 (.build [.int (.i64) 0, .int (.i64) 0, .int (.i64) 0, .int (.i64) 0, .nilSlice, .nilSlice] []), On (.store 6 (.t 4) (.t 10))]
 (.ret))
 (.skip)))
 (.seq (Rg [Mv 11 1, Op 12 (.len (.slice) (.t 11)), Op 13 (.move (Ci 0))]
 (.block 0 (.loop (Rg [Op 14 (.bin (.lss) (.t 13) (.t 12))]
 (.seq (.cond (.t 14) (.skip)
 (.exit 0))
 (.seq (.block 1 (Rg [Op 15 (.indexAddr 1 (.t 11) (.t 13)), Op 16 (.load false 1 (.t 15)), Mv 6 16]
 (Rg [Mv 17 0, Mv 18 6, Op 19 (Ca 5 [.t 17, .t 18]), Op 20 (.un (.not) (.t 19))]
 (.cond (.t 20) (.exit 0)
 (.skip)))))
 (.region [Op 21 (.bin (.add) (.t 13) (Ci 1)), Mv 13 21])))))))
 (.seq (.draw [⟨8, Mv 30 0, (.quiet [0])⟩,
 ⟨9, Op 31 (Ca 8 [.t 30]), (.eff)⟩,
 ⟨10, Mv 32 0, (.quiet [0, 2])⟩,
 ⟨11, Op 33 (Ca 10 [.t 32]), (.eff)⟩,
 ⟨13, Op 7 (.new [.int (.i64) 0, .int (.i64) 0, .int (.i64) 0, .int (.i64) 0, .nilSlice, .nilSlice]), (.alloc 0)⟩,
 ⟨4, Mv 26 0, (.quiet [0, 2, 4])⟩,
 ⟨5, Op 27 (.nilCheck (.t 26)), (.quiet [0, 2, 4])⟩,
 ⟨6, Op 28 (.fieldAddr 13 (.t 27)), (.quiet [0, 2, 4])⟩,
 ⟨7, Op 29 (.load false 1 (.t 28)), (.quiet [0, 2, 4])⟩,
 ⟨0, Mv 22 0, (.quiet [0, 2, 4])⟩,
 ⟨1, Op 23 (.nilCheck (.t 22)), (.quiet [0, 2, 4])⟩,
 ⟨2, Op 24 (.fieldAddr 12 (.t 23)), (.quiet [0, 2, 4])⟩,
 ⟨3, Op 25 (.load false 1 (.t 24)), (.quiet [0, 2, 4])⟩,
 ⟨12, Op 34 (.build [.int (.i64) 0, .int (.i64) 0, .int (.i64) 0, .int (.i64) 0, .nilSlice, .nilSlice] [(0, 1, .t 25), (3, 1, .t 29), (4, 1, .t 31), (5, 1, .t 33)]), (.quiet [4])⟩,
 ⟨14, On (.store 6 (.t 7) (.t 34)), (.eff)⟩] 1)
 (.seq (Rg [Mv 35 0, Op 36 (Ca 14 [.t 35]), Op 37 (.un (.not) (.t 36))]
 (.cond (.t 37) (Rg [Op 38 (.fieldAddr 0 (.t 7)), On (.store 1 (.t 38) (Ci 2))]
 (.draw [⟨2, Mv 41 0, (.quiet [0])⟩,
 ⟨3, Op 42 (.nilCheck (.t 41)), (.quiet [0])⟩,
 ⟨4, Op 43 (.fieldAddr 13 (.t 42)), (.quiet [0])⟩,
 ⟨5, Op 44 (.load false 1 (.t 43)), (.quiet [0])⟩,
 ⟨6, Op 45 (.build [.int (.i64) 0, .int (.i64) 0, .int (.i64) 0, .int (.i64) 0, .int (.i64) 0] [(0, 1, .t 44), (1, 1, Ci 6), (3, 1, Ci 2)]), (.quiet [0])⟩,
 ⟨7, Op 46 (.buildSlice [.int (.i64) 0, .int (.i64) 0, .int (.i64) 0, .int (.i64) 0, .int (.i64) 0] 1 [(0, 5, .t 45)]), (.eff)⟩,
 ⟨0, Op 39 (.fieldAddr 4 (.t 7)), (.quiet [0, 6])⟩,
 ⟨1, Op 40 (.load false 1 (.t 39)), (.quiet [0, 6])⟩,
 ⟨8, Op 47 (.append 5 40 (.t 40) (.t 46)), (.eff)⟩,
 ⟨9, Op 48 (.fieldAddr 4 (.t 7)), (.quiet [9])⟩,
 ⟨10, On (.store 1 (.t 48) (.t 47)), (.eff)⟩] 0))
 (.skip)))
 (Rg [Op 49 (.load true 6 (.t 7)), On (.store 6 (.t 4) (.t 49))]
 (.ret))))))⟩
theorem ok4 : compFunc prog glb 4 p4 = some c4 := by kernel_rfl
def p5 : List Plan := []
def c5 : CFunc := ⟨73, [.tmp 4],
 Rg [Op 4 (.move (.c (.bool false)))]
 (.seq (Rg [Mv 11 0, Op 12 (.eq (.ptr) false (.t 11) (.c (.nilPtr))), Mv 13 12, Mf 14 0 13, Of 15 (Ca 14 [.t 14]) 13, Op 16 (.pick (.t 13) (.c (.bool true)) (.t 15))]
 (.cond (.t 16) (Rg [Op 4 (.move (.c (.bool false)))]
 (.ret))
 (.skip)))
 (Rg [Mv 18 0, Op 19 (Ca 9 [.t 18]), Mv 20 1, Op 21 (Ca 15 [.t 19, .t 20]), Mv 17 21, Op 22 (.extract (.t 17) 0), Op 23 (.extract (.t 17) 1), Mv 5 22, Mv 6 23]
 (Rg [Mv 24 0, Op 25 (.nilCheck (.t 24)), Op 26 (.fieldAddr 13 (.t 25)), Op 27 (.load false 1 (.t 26)), Op 28 (.bin (.add) (.t 27) (Ci 1)), Op 29 (.nilCheck (.t 24)), Op 30 (.fieldAddr 13 (.t 29)), On (.store 1 (.t 30) (.t 28))]
 (Rg [Mv 32 0, Op 33 (.nilCheck (.t 32)), Op 34 (.fieldAddr 10 (.t 33)), Op 35 (.load false 1 (.t 34)), Mv 36 5, Op 37 (.lookup (.one (.int)) (.nilPtr) false (.t 35) (.t 36)), Op 38 (Ca 16 [.t 37]), Mv 31 38, Op 39 (.extract (.t 31) 0), Op 40 (.extract (.t 31) 1), Mv 7 39, Mv 8 40]
 (.seq (.block 0 (Rg [Mv 55 8, Op 56 (.bin (.eql) (.t 55) (Ci 0)), Mv 54 56]
 (.cond (.t 54) (.region [Mv 57 0, Mv 58 7, Op 59 (Ca 17 [.t 57, .t 58])])
 (Rg [Mv 61 8, Op 62 (.bin (.geq) (.t 61) (Ci 41)), Mv 60 62]
 (.cond (.t 60) (Rg [Mv 63 0, Mv 64 5, Mv 65 8, Op 66 (.build [.int (.i64) 0, .int (.i64) 0, .int (.i64) 0, .int (.i64) 0, .int (.i64) 0] [(1, 1, Ci 4), (2, 1, .t 64), (3, 1, .t 65)]), Op 67 (.buildSlice [.int (.i64) 0, .int (.i64) 0, .int (.i64) 0, .int (.i64) 0, .int (.i64) 0] 1 [(0, 5, .t 66)]), Op 68 (Ca 17 [.t 63, .t 67])]
 (.region [Mv 69 0, Op 70 (Ca 18 [.t 69, Ci 4])]))
 (Rg [Mv 42 0, Op 43 (.nilCheck (.t 42)), Op 44 (.fieldAddr 9 (.t 43)), Op 45 (.load false 1 (.t 44)), Mv 46 5, Mv 47 8, Op 48 (Ca 19 [.t 45, .t 46, .t 47]), Mv 41 48, Op 49 (.extract (.t 41) 0), Op 50 (.extract (.t 41) 1), Mv 9 49, Mv 10 50]
 (.region [Mv 51 0, Mv 52 9, Op 53 (Ca 17 [.t 51, .t 52])])))))))
 (Rg [Mv 71 0, Op 72 (Ca 20 [.t 71])]
 (Rg [Op 4 (.move (.c (.bool true)))]
 (.ret))))))))⟩
theorem ok5 : compFunc prog glb 5 p5 = some c5 := by kernel_rfl
def p6 : List Plan := []
def c6 : CFunc := ⟨9, [.tmp 2],
 Rg [Op 2 (.move (Ci 0))]
 (.seq (Rg [Mv 3 0, Op 4 (.eq (.ptr) false (.t 3) (.c (.nilPtr)))]
 (.cond (.t 4) (Rg [Op 2 (.move (Ci 0))]
 (.ret))
 (.skip)))
 (Rg [Mv 5 0, Op 6 (.nilCheck (.t 5)), Op 7 (.fieldAddr 12 (.t 6)), Op 8 (.load false 1 (.t 7)), Mv 2 8]
 (.ret)))⟩
theorem ok6 : compFunc prog glb 6 p6 = some c6 := by kernel_rfl
def p7 : List Plan := []
def c7 : CFunc := ⟨9, [.tmp 2],
 Rg [Op 2 (.move (Ci 0))]
 (.seq (Rg [Mv 3 0, Op 4 (.eq (.ptr) false (.t 3) (.c (.nilPtr)))]
 (.cond (.t 4) (Rg [Op 2 (.move (Ci 0))]
 (.ret))
 (.skip)))
 (Rg [Mv 5 0, Op 6 (.nilCheck (.t 5)), Op 7 (.fieldAddr 13 (.t 6)), Op 8 (.load false 1 (.t 7)), Mv 2 8]
 (.ret)))⟩
theorem ok7 : compFunc prog glb 7 p7 = some c7 := by kernel_rfl
def p8 : List Plan := []
def c8 : CFunc := ⟨10, [.tmp 2],
 Rg [Op 2 (.move (.c (.nilSlice)))]
 (.seq (Rg [Mv 3 0, Op 4 (.eq (.ptr) false (.t 3) (.c (.nilPtr)))]
 (.cond (.t 4) (Rg [Op 2 (.move (.c (.nilSlice)))]
 (.ret))
 (.skip)))
 (Rg [Mv 5 0, Op 6 (.nilCheck (.t 5)), Op 7 (.fieldAddr 11 (.t 6)), Op 8 (.load false 1 (.t 7)), Op 9 (Ca 21 [.t 8]), Mv 2 9]
 (.ret)))⟩
theorem ok8 : compFunc prog glb 8 p8 = some c8 := by kernel_rfl
def p9 : List Plan := []
def c9 : CFunc := ⟨15, [.tmp 2],
 Rg [Op 2 (.move (.c (.nilSlice)))]
 (.seq (Rg [Mv 3 0, Op 4 (.eq (.ptr) false (.t 3) (.c (.nilPtr))), Mv 5 4, Mf 6 0 5, Of 7 (Ca 14 [.t 6]) 5, Op 8 (.pick (.t 5) (.c (.bool true)) (.t 7))]
 (.cond (.t 8) (Rg [Op 2 (.move (.c (.nilSlice)))]
 (.ret))
 (.skip)))
 (Rg [Mv 9 0, Op 10 (.nilCheck (.t 9)), Op 11 (.fieldAddr 9 (.t 10)), Op 12 (.load false 1 (.t 11)), Op 13 (Ca 22 [.t 12]), Op 14 (Ca 23 [.t 13]), Mv 2 14]
 (.ret)))⟩
theorem ok9 : compFunc prog glb 9 p9 = some c9 := by kernel_rfl
def p10 : List Plan := []
def c10 : CFunc := ⟨7, [.tmp 2],
 Rg [Op 2 (.move (.c (.nilSlice)))]
 (Rg [Mv 3 0, Op 4 (Ca 12 [.t 3]), Op 5 (Ca 22 [.t 4]), Op 6 (Ca 24 [.t 5]), Mv 2 6]
 (.ret))⟩
theorem ok10 : compFunc prog glb 10 p10 = some c10 := by kernel_rfl
def p11 : List Plan := []
def c11 : CFunc := ⟨10, [.tmp 2],
 Rg [Op 2 (.move (.c (.nilSlice)))]
 (.seq (Rg [Mv 3 0, Op 4 (.eq (.ptr) false (.t 3) (.c (.nilPtr)))]
 (.cond (.t 4) (Rg [Op 2 (.move (.c (.nilSlice)))]
 (.ret))
 (.skip)))
 (Rg [Mv 5 0, Op 6 (.nilCheck (.t 5)), Op 7 (.fieldAddr 7 (.t 6)), Op 8 (.load false 1 (.t 7)), Op 9 (Ca 25 [.t 8]), Mv 2 9]
 (.ret)))⟩
theorem ok11 : compFunc prog glb 11 p11 = some c11 := by kernel_rfl
def p12 : List Plan := []
def c12 : CFunc := ⟨9, [.tmp 2],
 Rg [Op 2 (.move (.c (.nilPtr)))]
 (.seq (Rg [Mv 3 0, Op 4 (.eq (.ptr) false (.t 3) (.c (.nilPtr)))]
 (.cond (.t 4) (Rg [Op 2 (.move (.c (.nilPtr)))]
 (.ret))
 (.skip)))
 (Rg [Mv 5 0, Op 6 (.nilCheck (.t 5)), Op 7 (.fieldAddr 9 (.t 6)), Op 8 (.load false 1 (.t 7)), Mv 2 8]
 (.ret)))⟩
theorem ok12 : compFunc prog glb 12 p12 = some c12 := by kernel_rfl
def p13 : List Plan := []
def c13 : CFunc := ⟨59, [.tmp 0],
 Rg [Op 0 (.move (.c (.bool false)))]
 (Rg [Op 7 (.buildSlice [.int (.u8) 0] 48 [(0, 1, .c (.int (.u8) 112)), (1, 1, .c (.int (.u8) 114)), (2, 1, .c (.int (.u8) 111)), (3, 1, .c (.int (.u8) 103)), (4, 1, .c (.int (.u8) 114)), (5, 1, .c (.int (.u8) 97)), (6, 1, .c (.int (.u8) 109)), (7, 1, .c (.int (.u8) 32)), (8, 1, .c (.int (.u8) 112)), (9, 1, .c (.int (.u8) 59)), (10, 1, .c (.int (.u8) 32)), (11, 1, .c (.int (.u8) 118)), (12, 1, .c (.int (.u8) 97)), (13, 1, .c (.int (.u8) 114)), (14, 1, .c (.int (.u8) 32)), (15, 1, .c (.int (.u8) 103)), (16, 1, .c (.int (.u8) 59)), (17, 1, .c (.int (.u8) 32)), (18, 1, .c (.int (.u8) 98)), (19, 1, .c (.int (.u8) 101)), (20, 1, .c (.int (.u8) 103)), (21, 1, .c (.int (.u8) 105)), (22, 1, .c (.int (.u8) 110)), (23, 1, .c (.int (.u8) 32)), (24, 1, .c (.int (.u8) 114)), (25, 1, .c (.int (.u8) 101)), (26, 1, .c (.int (.u8) 97)), (27, 1, .c (.int (.u8) 100)), (28, 1, .c (.int (.u8) 32)), (29, 1, .c (.int (.u8) 103)), (30, 1, .c (.int (.u8) 59)), (31, 1, .c (.int (.u8) 32)), (32, 1, .c (.int (.u8) 119)), (33, 1, .c (.int (.u8) 114)), (34, 1, .c (.int (.u8) 105)), (35, 1, .c (.int (.u8) 116)), (36, 1, .c (.int (.u8) 101)), (37, 1, .c (.int (.u8) 32)), (38, 1, .c (.int (.u8) 103)), (39, 1, .c (.int (.u8) 32)), (40, 1, .c (.int (.u8) 43)), (41, 1, .c (.int (.u8) 32)), (42, 1, .c (.int (.u8) 49)), (43, 1, .c (.int (.u8) 32)), (44, 1, .c (.int (.u8) 101)), (45, 1, .c (.int (.u8) 110)), (46, 1, .c (.int (.u8) 100)), (47, 1, .c (.int (.u8) 46))]), Op 8 (.markB (.t 7)), Op 9 (.buildSlice [.int (.i64) 0] 1 [(0, 1, Ci 4)]), Op 10 (Ca 26 [.t 8, .c (.bool true), .t 9]), Mv 6 10, Op 11 (.extract (.t 6) 0), Op 12 (.extract (.t 6) 1), Op 13 (.extract (.t 6) 2), Mv 1 11, Mv 2 12, Mv 3 13]
 (.seq (Rg [Mv 14 3, Op 15 (.un (.not) (.t 14)), Mv 16 15, Mf 17 1 16, Of 18 (.eq (.ptr) false (.t 17) (.c (.nilPtr))) 16, Op 19 (.pick (.t 16) (.c (.bool true)) (.t 18)), Mv 20 19, Mf 21 1 20, Of 22 (Ca 9 [.t 21]) 20, Of 23 (.buildSlice [.int (.i64) 0] 1 [(0, 1, Ci 1)]) 20, Of 24 (Ca 27 [.t 22, .t 23]) 20, Of 25 (.un (.not) (.t 24)) 20, Op 26 (.pick (.t 20) (.c (.bool true)) (.t 25))]
 (.cond (.t 26) (Rg [Op 0 (.move (.c (.bool false)))]
 (.ret))
 (.skip)))
 (Rg [Mv 27 1, Op 28 (Ca 28 [Ci 9]), Op 29 (Ca 4 [.t 27, .t 28]), Op 4 (.new [.int (.i64) 0, .int (.i64) 0, .int (.i64) 0, .int (.i64) 0, .nilSlice, .nilSlice]), On (.store 6 (.t 4) (.t 29))]
 (Rg [Op 30 (.build [.int (.i64) 0, .int (.i64) 0, .int (.i64) 0, .int (.i64) 0, .int (.i64) 0] [(0, 1, Ci 6), (1, 1, Ci 1), (2, 1, Ci 1), (3, 1, Ci 5)]), Op 31 (.build [.int (.i64) 0, .int (.i64) 0, .int (.i64) 0, .int (.i64) 0, .int (.i64) 0] [(0, 1, Ci 7), (1, 1, Ci 5), (2, 1, Ci 1)]), Op 32 (.build [.int (.i64) 0, .int (.i64) 0, .int (.i64) 0, .int (.i64) 0, .int (.i64) 0] [(0, 1, Ci 7), (1, 1, Ci 6), (3, 1, Ci 1)]), Op 33 (.buildSlice [.int (.i64) 0, .int (.i64) 0, .int (.i64) 0, .int (.i64) 0, .int (.i64) 0] 3 [(0, 5, .t 30), (5, 5, .t 31), (10, 5, .t 32)]), Mv 5 33]
 (Rg [Op 34 (.fieldAddr 0 (.t 4)), Op 35 (.load false 1 (.t 34)), Op 36 (.bin (.eql) (.t 35) (Ci 1)), Mv 37 36, Ot 38 (.fieldAddr 3 (.t 4)) 37, Ot 39 (.load false 1 (.t 38)) 37, Ot 40 (.bin (.eql) (.t 39) (Ci 7)) 37, Op 41 (.pick (.t 37) (.t 40) (.c (.bool false))), Mv 42 41, Ot 43 (.fieldAddr 4 (.t 4)) 42, Ot 44 (.load false 1 (.t 43)) 42, Mt 45 5 42, Ot 46 (Ca 29 [.t 44, .t 45]) 42, Op 47 (.pick (.t 42) (.t 46) (.c (.bool false))), Mv 48 47, Mt 49 1 48, Ot 50 (Ca 11 [.t 49]) 48, Ot 51 (.buildSlice [.int (.i64) 0] 1 [(0, 1, Ci 4)]) 48, Ot 52 (Ca 27 [.t 50, .t 51]) 48, Op 53 (.pick (.t 48) (.t 52) (.c (.bool false))), Mv 54 53, Mt 55 1 54, Ot 56 (Ca 5 [.t 55, Ci 0]) 54, Ot 57 (.un (.not) (.t 56)) 54, Op 58 (.pick (.t 54) (.t 57) (.c (.bool false))), Mv 0 58]
 (.ret))))))⟩
theorem ok13 : compFunc prog glb 13 p13 = some c13 := by kernel_rfl
def p14 : List Plan := []
def c14 : CFunc := ⟨6, [.tmp 2],
 Rg [Op 2 (.move (.c (.bool false)))]
 (Rg [Mv 3 0, Op 4 (Ca 6 [.t 3]), Op 5 (.bin (.neq) (.t 4) (Ci 6)), Mv 2 5]
 (.ret))⟩
theorem ok14 : compFunc prog glb 14 p14 = some c14 := by kernel_rfl
def p15 : List Plan := []
def c15 : CFunc := ⟨21, [.tmp 4, .tmp 5],
 Rg [Op 4 (.move (Ci 0)), Op 5 (.move (.c (.bool false)))]
 (Rg [Mv 7 0, Op 8 (.len (.slice) (.t 7)), Mv 6 8]
 (.seq (Rg [Mv 9 6, Op 10 (.bin (.eql) (.t 9) (Ci 0))]
 (.cond (.t 10) (Rg [Op 4 (.move (Ci 0)), Op 5 (.move (.c (.bool false)))]
 (.ret))
 (.skip)))
 (Rg [Mv 11 0, Mv 12 1, Mv 13 6, Op 14 (.bin (.rem) (.t 12) (.t 13)), Mv 15 6, Op 16 (.bin (.add) (.t 14) (.t 15)), Mv 17 6, Op 18 (.bin (.rem) (.t 16) (.t 17)), Op 19 (.indexAddr 1 (.t 11) (.t 18)), Op 20 (.load false 1 (.t 19)), Mv 4 20, Op 5 (.move (.c (.bool true)))]
 (.ret))))⟩
theorem ok15 : compFunc prog glb 15 p15 = some c15 := by kernel_rfl
def p16 : List Plan := [⟨[(2, .quiet [0]), (3, .quiet [0]), (4, .quiet [0]), (1, .quiet [0]), (5, .eff), (6, .quiet [0, 5]), (7, .quiet [0, 5]), (8, .quiet [0, 5]), (9, .alloc 0), (10, .eff), (0, .quiet [0, 5, 10]), (11, .eff)], 1, [0, 0, 0, 4, 12, 30, 0, 64, 192, 448, 1022, 2047]⟩, ⟨[(7, .quiet [0]), (8, .quiet [0]), (9, .quiet [0]), (10, .quiet [0]), (0, .quiet [0]), (1, .quiet [0]), (2, .quiet [0]), (3, .quiet [0]), (4, .quiet [0]), (5, .quiet [0]), (6, .quiet [0]), (11, .eff), (12, .quiet [12]), (13, .quiet [12]), (15, .quiet [12]), (14, .quiet [12]), (16, .quiet [12])], 0, [0, 1, 3, 7, 15, 31, 63, 0, 128, 384, 896, 2047, 4095, 8191, 8191, 16383, 65535]⟩]
def c16 : CFunc := ⟨94, [.tmp 2, .tmp 3],
 Rg [Op 2 (.move (.c (.nilSlice))), Op 3 (.move (Ci 0))]
 (.seq (.block 0 (.loop (.seq (Rg [Mv 11 0, Op 12 (.nilCheck (.t 11)), Op 13 (.fieldAddr 4 (.t 12)), Op 14 (.load false 1 (.t 13)), Op 15 (.len (.slice) (.t 14)), Op 16 (.bin (.gtr) (.t 15) (Ci 0))]
 (.cond (.t 16) (.skip)
 (.exit 0)))
 (.block 1 (Rg [Mv 17 0, Op 18 (.nilCheck (.t 17)), Op 19 (.fieldAddr 4 (.t 18)), Op 20 (.load false 1 (.t 19)), Op 21 (.len (.slice) (.t 20)), Op 22 (.bin (.sub) (.t 21) (Ci 1)), Mv 4 22]
 (Rg [Mv 23 0, Op 24 (.nilCheck (.t 23)), Op 25 (.fieldAddr 4 (.t 24)), Op 26 (.load false 1 (.t 25)), Mv 27 4, Op 28 (.indexAddr 1 (.t 26) (.t 27)), Op 29 (.load false 1 (.t 28)), Mv 5 29]
 (Rg [Mv 30 0, Mv 31 0, Op 32 (.nilCheck (.t 31)), Op 33 (.fieldAddr 4 (.t 32)), Op 34 (.load false 1 (.t 33)), Mv 35 4, Op 36 (.slice 1 (.t 34) none (some (.t 35)) none), Op 37 (.nilCheck (.t 30)), Op 38 (.fieldAddr 4 (.t 37)), On (.store 1 (.t 38) (.t 36))]
 (Rg [Mv 39 5]
 (.block 2 (Rg [Op 40 (.assert 78 (.nilFunc) true (.t 39)), Op 41 (.extract (.t 40) 1), Op 42 (.extract (.t 40) 0)]
 (.cond (.t 41) (Rg [Mv 6 42]
 (Rg [Mv 43 6, Mv 44 0, Op 45 (.call (.t 43) [.t 44]), Op 46 (.extract (.t 45) 0), Op 47 (.extract (.t 45) 1), Mv 2 46, Mv 3 47]
 (.ret)))
 (Rg [Op 48 (.assert 81 (.agg [.int (.i64) 0, .int (.i64) 0, .int (.i64) 0, .int (.i64) 0, .str [], .nilSlice]) true (.t 39)), Op 49 (.extract (.t 48) 1), Op 50 (.extract (.t 48) 0)]
 (.cond (.t 49) (Rg [Op 7 (.new [.int (.i64) 0, .int (.i64) 0, .int (.i64) 0, .int (.i64) 0, .str [], .nilSlice]), On (.store 6 (.t 7) (.t 50))]
 (.region [Mv 51 0, Op 52 (.fieldAddr 5 (.t 7)), Op 53 (.load false 1 (.t 52)), Op 54 (Ca 31 [.t 53]), Op 55 (.func 32 [] [.t 7]), Op 56 (.iface 78 (.t 55)), Op 57 (.buildSlice [.nilIface] 1 [(0, 1, .t 56)]), Op 58 (.append 1 16 (.t 54) (.t 57)), Op 59 (Ca 30 [.t 51, .t 58])]))
 (Rg [Op 60 (.assert 86 (.nilSlice) true (.t 39)), Op 61 (.extract (.t 60) 1), Op 62 (.extract (.t 60) 0)]
 (.cond (.t 61) (Rg [Mv 8 62]
 (Rg [Mv 63 8, Op 64 (.len (.slice) (.t 63)), Op 65 (.bin (.gtr) (.t 64) (Ci 0))]
 (.cond (.t 65) (.draw [⟨2, Mv 68 8, (.quiet [0])⟩,
 ⟨3, Op 69 (.indexAddr 8 (.t 68) (Ci 0)), (.quiet [0])⟩,
 ⟨4, Op 70 (.load true 8 (.t 69)), (.quiet [0])⟩,
 ⟨1, Mv 67 0, (.quiet [0])⟩,
 ⟨5, Op 71 (Ca 34 [.t 67, .t 70]), (.eff)⟩,
 ⟨6, Mv 72 8, (.quiet [0, 5])⟩,
 ⟨7, Op 73 (.slice 8 (.t 72) (some (Ci 1)) none none), (.quiet [0, 5])⟩,
 ⟨8, Op 74 (.iface 86 (.t 73)), (.quiet [0, 5])⟩,
 ⟨9, Op 75 (.buildSlice [.nilIface] 1 [(0, 1, .t 74)]), (.alloc 0)⟩,
 ⟨10, Op 76 (.append 1 16 (.t 71) (.t 75)), (.eff)⟩,
 ⟨0, Mv 66 0, (.quiet [0, 5, 10])⟩,
 ⟨11, Op 77 (Ca 30 [.t 66, .t 76]), (.eff)⟩] 1)
 (.skip))))
 (.skip))))))))))))))))
 (.seq (.draw [⟨7, Mv 86 0, (.quiet [0])⟩,
 ⟨8, Op 87 (.nilCheck (.t 86)), (.quiet [0])⟩,
 ⟨9, Op 88 (.fieldAddr 1 (.t 87)), (.quiet [0])⟩,
 ⟨10, Op 89 (.load false 1 (.t 88)), (.quiet [0])⟩,
 ⟨0, Mv 79 0, (.quiet [0])⟩,
 ⟨1, Op 80 (.nilCheck (.t 79)), (.quiet [0])⟩,
 ⟨2, Op 81 (.fieldAddr 0 (.t 80)), (.quiet [0])⟩,
 ⟨3, Op 82 (.load false 1 (.t 81)), (.quiet [0])⟩,
 ⟨4, Op 83 (.nilCheck (.t 82)), (.quiet [0])⟩,
 ⟨5, Op 84 (.fieldAddr 9 (.t 83)), (.quiet [0])⟩,
 ⟨6, Op 85 (.load false 1 (.t 84)), (.quiet [0])⟩,
 ⟨11, Op 90 (Ca 19 [.t 85, .t 89, Ci 0]), (.eff)⟩,
 ⟨12, Mv 78 90, (.quiet [12])⟩,
 ⟨13, Op 91 (.extract (.t 78) 0), (.quiet [12])⟩,
 ⟨15, Mv 9 91, (.quiet [12])⟩,
 ⟨14, Op 92 (.extract (.t 78) 1), (.quiet [12])⟩,
 ⟨16, Mv 10 92, (.quiet [12])⟩] 0)
 (Rg [Mv 93 9, Mv 2 93, Op 3 (.move (Ci 0))]
 (.ret))))⟩
theorem ok16 : compFunc prog glb 16 p16 = some c16 := by kernel_rfl
def p17 : List Plan := [⟨[(5, .quiet [0]), (6, .eff), (1, .quiet [0, 2]), (2, .quiet [0, 2]), (3, .quiet [0, 2]), (4, .quiet [0, 2]), (7, .eff), (0, .quiet [0, 2, 7]), (8, .quiet [7]), (9, .quiet [7]), (10, .eff)], 0, [0, 0, 2, 6, 14, 0, 32, 126, 255, 511, 1023]⟩]
def c17 : CFunc := ⟨28, [],
 Rg [Mv 6 1, Op 7 (.len (.slice) (.t 6)), Op 8 (.move (Ci 0))]
 (.block 0 (.loop (Rg [Op 9 (.bin (.lss) (.t 8) (.t 7))]
 (.seq (.cond (.t 9) (.skip)
 (.exit 0))
 (.seq (.block 1 (Rg [Op 10 (.indexAddr 5 (.t 6) (.t 8)), Op 11 (.load true 5 (.t 10)), Op 5 (.new [.int (.i64) 0, .int (.i64) 0, .int (.i64) 0, .int (.i64) 0, .int (.i64) 0]), On (.store 5 (.t 5) (.t 11))]
 (Rg [Mv 12 0, Op 13 (.nilCheck (.t 12)), Op 14 (.fieldAddr 13 (.t 13)), Op 15 (.load false 1 (.t 14)), Op 16 (.fieldAddr 0 (.t 5)), On (.store 1 (.t 16) (.t 15))]
 (.draw [⟨5, Op 22 (.load true 5 (.t 5)), (.quiet [0])⟩,
 ⟨6, Op 23 (.buildSlice [.int (.i64) 0, .int (.i64) 0, .int (.i64) 0, .int (.i64) 0, .int (.i64) 0] 1 [(0, 5, .t 22)]), (.eff)⟩,
 ⟨1, Mv 18 0, (.quiet [0, 2])⟩,
 ⟨2, Op 19 (.nilCheck (.t 18)), (.quiet [0, 2])⟩,
 ⟨3, Op 20 (.fieldAddr 11 (.t 19)), (.quiet [0, 2])⟩,
 ⟨4, Op 21 (.load false 1 (.t 20)), (.quiet [0, 2])⟩,
 ⟨7, Op 24 (.append 5 40 (.t 21) (.t 23)), (.eff)⟩,
 ⟨0, Mv 17 0, (.quiet [0, 2, 7])⟩,
 ⟨8, Op 25 (.nilCheck (.t 17)), (.quiet [7])⟩,
 ⟨9, Op 26 (.fieldAddr 11 (.t 25)), (.quiet [7])⟩,
 ⟨10, On (.store 1 (.t 26) (.t 24)), (.eff)⟩] 0))))
 (.region [Op 27 (.bin (.add) (.t 8) (Ci 1)), Mv 8 27]))))))⟩
theorem ok17 : compFunc prog glb 17 p17 = some c17 := by kernel_rfl
def p18 : List Plan := []
def c18 : CFunc := ⟨13, [],
 Rg [Mv 4 0, Mv 5 1, Op 6 (.nilCheck (.t 4)), Op 7 (.fieldAddr 12 (.t 6)), On (.store 1 (.t 7) (.t 5))]
 (.region [Mv 8 0, Mv 9 1, Op 10 (.build [.int (.i64) 0, .int (.i64) 0, .int (.i64) 0, .int (.i64) 0, .int (.i64) 0] [(1, 1, Ci 6), (3, 1, .t 9)]), Op 11 (.buildSlice [.int (.i64) 0, .int (.i64) 0, .int (.i64) 0, .int (.i64) 0, .int (.i64) 0] 1 [(0, 5, .t 10)]), Op 12 (Ca 17 [.t 8, .t 11])])⟩
theorem ok18 : compFunc prog glb 18 p18 = some c18 := by kernel_rfl
def p19 : List Plan := [⟨[(1, .eff), (0, .quiet [0, 1]), (2, .eff)], 0, [0, 0, 3]⟩]
def c19 : CFunc := ⟨81, [.cell 6 false 1, .cell 7 false 1],
 Rg [Op 3 (.box (.t 0)), Op 6 (.new [.nilSlice]), Op 7 (.new [.bool false])]
 (.seq (Rg [Op 15 (.load false 1 (.t 3)), Mv 16 1, Op 17 (Ca 35 [.t 15, .t 16]), Op 18 (.un (.not) (.t 17))]
 (.cond (.t 18) (Rg [On (.store 1 (.t 6) (.c (.nilSlice))), On (.store 1 (.t 7) (.c (.bool false)))]
 (.ret))
 (.skip)))
 (Rg [Op 19 (.func 36 [] [.t 7, .t 3, .t 6]), On (.defer (.t 19) [])]
 (.seq (Rg [Mv 20 2, Op 21 (.bin (.eql) (.t 20) (Ci 0))]
 (.cond (.t 21) (.region [Op 22 (.load false 1 (.t 3)), Mv 23 1, Op 24 (Ca 38 [.t 22, Ci 5, .t 23, Ci 0, Ci 0])])
 (.region [Op 25 (.load false 1 (.t 3)), Mv 26 1, Mv 27 2, Op 28 (Ca 38 [.t 25, Ci 4, .t 26, .t 27, Ci 0])])))
 (.seq (Rg [Op 29 (.load false 1 (.t 3)), Op 30 (.nilCheck (.t 29)), Op 31 (.fieldAddr 3 (.t 30)), Op 32 (.load false 1 (.t 31)), Op 33 (.len (.slice) (.t 32)), Op 34 (.move (Ci 0))]
 (.block 0 (.loop (Rg [Op 35 (.bin (.lss) (.t 34) (.t 33))]
 (.seq (.cond (.t 35) (.skip)
 (.exit 0))
 (.seq (.block 1 (Rg [Op 36 (.indexAddr 1 (.t 32) (.t 34)), Op 37 (.load false 1 (.t 36)), Mv 9 37]
 (Rg [Mv 39 9, Mv 40 1, Op 41 (Ca 39 [.t 39, .t 40]), Mv 38 41, Op 42 (.extract (.t 38) 0), Op 43 (.extract (.t 38) 1), Mv 10 42, Mv 11 43]
 (Rg [Mv 44 11]
 (.cond (.t 44) (.region [Op 45 (.load false 1 (.t 3)), Op 46 (.nilCheck (.t 45)), Op 47 (.fieldAddr 0 (.t 46)), Op 48 (.load false 1 (.t 47)), Mv 49 10, Op 50 (Ca 40 [.t 48, .t 49])])
 (.skip))))))
 (.region [Op 51 (.bin (.add) (.t 34) (Ci 1)), Mv 34 51])))))))
 (Rg [Op 52 (.load false 1 (.t 3)), Op 53 (.nilCheck (.t 52)), Op 54 (.fieldAddr 1 (.t 53)), Op 55 (.load false 1 (.t 54)), Op 56 (Ca 41 [.t 55]), Mv 12 56]
 (Rg [Op 58 (.load false 1 (.t 3)), Op 59 (.nilCheck (.t 58)), Op 60 (.fieldAddr 1 (.t 59)), Op 61 (.load false 1 (.t 60)), Mv 62 1, Op 63 (Ca 42 [.t 61, .t 62]), Mv 57 63, Op 64 (.extract (.t 57) 0), Op 65 (.extract (.t 57) 1), Mv 13 64, Mv 14 65]
 (Rg [Op 66 (.load false 1 (.t 3)), Mv 67 12, Mv 68 13, Op 69 (Ca 43 [.t 66, .t 67, .t 68])]
 (Rg [Op 71 (.load false 1 (.t 3)), Op 72 (.nilCheck (.t 71)), Op 73 (.fieldAddr 0 (.t 72)), Op 74 (.load false 1 (.t 73)), Mv 75 1, Mv 76 2, Op 77 (Ca 44 [.t 74, .t 75, .t 76]), Mv 70 77, Op 78 (.extract (.t 70) 0), Op 79 (.extract (.t 70) 1), On (.store 1 (.t 7) (.t 79))]
 (.seq (.draw [⟨1, On (.store 1 (.t 6) (.c (.nilSlice))), (.eff)⟩,
 ⟨0, Op 80 (.load false 1 (.t 7)), (.quiet [0, 1])⟩,
 ⟨2, On (.store 1 (.t 7) (.t 80)), (.eff)⟩] 0)
 (.ret))))))))))⟩
theorem ok19 : compFunc prog glb 19 p19 = some c19 := by kernel_rfl
def p20 : List Plan := []
def c20 : CFunc := ⟨22, [],
 .block 0 (Rg [Mv 3 0, Op 4 (Ca 14 [.t 3]), Mv 2 4]
 (.cond (.t 2) (.skip)
 (Rg [Mv 6 0, Op 7 (.nilCheck (.t 6)), Op 8 (.fieldAddr 9 (.t 7)), Op 9 (.load false 1 (.t 8)), Op 10 (Ca 22 [.t 9]), Op 11 (Ca 45 [.t 10]), Op 12 (.bin (.eql) (.t 11) (Ci 0)), Mv 5 12]
 (.cond (.t 5) (.region [Mv 13 0, Op 14 (Ca 18 [.t 13, Ci 1])])
 (Rg [Mv 16 0, Op 17 (Ca 9 [.t 16]), Op 18 (.len (.slice) (.t 17)), Op 19 (.bin (.eql) (.t 18) (Ci 0)), Mv 15 19]
 (.cond (.t 15) (.region [Mv 20 0, Op 21 (Ca 18 [.t 20, Ci 3])])
 (.skip)))))))⟩
theorem ok20 : compFunc prog glb 20 p20 = some c20 := by kernel_rfl
def p21 : List Plan := []
def c21 : CFunc := ⟨8, [.tmp 2],
 Rg [Op 2 (.move (.c (.nilSlice)))]
 (.seq (Rg [Mv 3 0, Op 4 (.eq (.slice) false (.t 3) (.c (.nilSlice)))]
 (.cond (.t 4) (Rg [Op 2 (.move (.c (.nilSlice)))]
 (.ret))
 (.skip)))
 (Rg [Op 5 (.buildSlice [.int (.i64) 0, .int (.i64) 0, .int (.i64) 0, .int (.i64) 0, .int (.i64) 0] 0 []), Mv 6 0, Op 7 (.append 5 40 (.t 5) (.t 6)), Mv 2 7]
 (.ret)))⟩
theorem ok21 : compFunc prog glb 21 p21 = some c21 := by kernel_rfl
def p22 : List Plan := []
def c22 : CFunc := ⟨9, [.tmp 2],
 Rg [Op 2 (.move (.c (.nilPtr)))]
 (.seq (Rg [Mv 3 0, Op 4 (.eq (.ptr) false (.t 3) (.c (.nilPtr)))]
 (.cond (.t 4) (Rg [Op 2 (.move (.c (.nilPtr)))]
 (.ret))
 (.skip)))
 (Rg [Mv 5 0, Op 6 (.nilCheck (.t 5)), Op 7 (.fieldAddr 0 (.t 6)), Op 8 (.load false 1 (.t 7)), Mv 2 8]
 (.ret)))⟩
theorem ok22 : compFunc prog glb 22 p22 = some c22 := by kernel_rfl
def p23 : List Plan := []
def c23 : CFunc := ⟨5, [.tmp 2],
 Rg [Op 2 (.move (.c (.nilSlice)))]
 (Rg [Mv 3 0, Op 4 (Ca 46 [.t 3, .c (.func 47 [] [])]), Mv 2 4]
 (.ret))⟩
theorem ok23 : compFunc prog glb 23 p23 = some c23 := by kernel_rfl
def p24 : List Plan := []
def c24 : CFunc := ⟨5, [.tmp 2],
 Rg [Op 2 (.move (.c (.nilSlice)))]
 (Rg [Mv 3 0, Op 4 (Ca 46 [.t 3, .c (.func 48 [] [])]), Mv 2 4]
 (.ret))⟩
theorem ok24 : compFunc prog glb 24 p24 = some c24 := by kernel_rfl
def p25 : List Plan := []
def c25 : CFunc := ⟨8, [.tmp 2],
 Rg [Op 2 (.move (.c (.nilSlice)))]
 (.seq (Rg [Mv 3 0, Op 4 (.eq (.slice) false (.t 3) (.c (.nilSlice)))]
 (.cond (.t 4) (Rg [Op 2 (.move (.c (.nilSlice)))]
 (.ret))
 (.skip)))
 (Rg [Op 5 (.buildSlice [.int (.i64) 0] 0 []), Mv 6 0, Op 7 (.append 1 8 (.t 5) (.t 6)), Mv 2 7]
 (.ret)))⟩
theorem ok25 : compFunc prog glb 25 p25 = some c25 := by kernel_rfl
def p26 : List Plan := [⟨[(3, .quiet [0]), (2, .quiet [0]), (1, .quiet [0]), (0, .quiet [0]), (4, .eff), (8, .quiet [0, 5]), (7, .quiet [0, 5]), (6, .quiet [0, 5]), (5, .quiet [0, 5]), (9, .eff), (10, .quiet [10]), (11, .quiet [10]), (12, .quiet [10])], 0, [0, 0, 0, 0, 15, 0, 0, 0, 0, 511, 1023, 2047, 4095]⟩]
def c26 : CFunc := ⟨45, [.tmp 6, .tmp 7, .tmp 8],
 Rg [Op 6 (.move (.c (.nilPtr))), Op 7 (.move (.c (.nilPtr))), Op 8 (.move (.c (.bool false)))]
 (Rg [Mv 15 0, Op 16 (Ca 49 [.t 15]), Mv 14 16, Op 17 (.extract (.t 14) 0), Op 18 (.extract (.t 14) 1), Op 19 (.extract (.t 14) 2), Op 9 (.new [.str [], .nilSlice, .nilSlice, .nilSlice, .nilSlice]), Op 11 (.new [.int (.i64) 0, .int (.i64) 0]), On (.store 5 (.t 9) (.t 17)), Mv 10 18, On (.store 2 (.t 11) (.t 19))]
 (.seq (Rg [Op 20 (.fieldAddr 0 (.t 11)), Op 21 (.load false 1 (.t 20)), Op 22 (.bin (.neq) (.t 21) (Ci 0))]
 (.cond (.t 22) (Rg [Op 6 (.move (.c (.nilPtr))), Op 7 (.move (.c (.nilPtr))), Op 8 (.move (.c (.bool false)))]
 (.ret))
 (.skip)))
 (Rg [Op 24 (.load true 5 (.t 9)), Op 25 (Ca 50 [.t 24]), Mv 23 25, Op 26 (.extract (.t 23) 0), Op 27 (.extract (.t 23) 1), Op 13 (.new [.int (.i64) 0, .int (.i64) 0]), Mv 12 26, On (.store 2 (.t 13) (.t 27))]
 (.seq (Rg [Op 28 (.fieldAddr 0 (.t 13)), Op 29 (.load false 1 (.t 28)), Op 30 (.bin (.neq) (.t 29) (Ci 0)), Mv 31 30, Mf 32 12 31, Of 33 (.eq (.ptr) false (.t 32) (.c (.nilPtr))) 31, Op 34 (.pick (.t 31) (.c (.bool true)) (.t 33))]
 (.cond (.t 34) (Rg [Op 6 (.move (.c (.nilPtr))), Op 7 (.move (.c (.nilPtr))), Op 8 (.move (.c (.bool true)))]
 (.ret))
 (.skip)))
 (.seq (.draw [⟨3, Mv 38 2, (.quiet [0])⟩,
 ⟨2, Mv 37 1, (.quiet [0])⟩,
 ⟨1, Mv 36 12, (.quiet [0])⟩,
 ⟨0, Op 35 (.load true 5 (.t 9)), (.quiet [0])⟩,
 ⟨4, Op 39 (Ca 51 [.t 35, .t 36, .t 37, .t 38]), (.eff)⟩,
 ⟨8, Mv 43 2, (.quiet [0, 5])⟩,
 ⟨7, Mv 42 1, (.quiet [0, 5])⟩,
 ⟨6, Mv 41 10, (.quiet [0, 5])⟩,
 ⟨5, Op 40 (.load true 5 (.t 9)), (.quiet [0, 5])⟩,
 ⟨9, Op 44 (Ca 52 [.t 40, .t 41, .t 42, .t 43]), (.eff)⟩,
 ⟨10, Mv 6 39, (.quiet [10])⟩,
 ⟨11, Mv 7 44, (.quiet [10])⟩,
 ⟨12, Op 8 (.move (.c (.bool true))), (.quiet [10])⟩] 0)
 (.ret))))))⟩
theorem ok26 : compFunc prog glb 26 p26 = some c26 := by kernel_rfl
def p27 : List Plan := [⟨[(5, .quiet [0]), (4, .quiet [0]), (6, .quiet [0]), (7, .quiet [0]), (1, .quiet [0]), (0, .quiet [0]), (2, .quiet [0]), (3, .quiet [0]), (8, .quiet [0])], 0, [0, 0, 3, 7, 0, 0, 48, 112, 255]⟩]
def c27 : CFunc := ⟨26, [.tmp 4],
 Rg [Op 4 (.move (.c (.bool false)))]
 (.seq (Rg [Mv 6 0, Op 7 (.len (.slice) (.t 6)), Mv 8 1, Op 9 (.len (.slice) (.t 8)), Op 10 (.bin (.neq) (.t 7) (.t 9))]
 (.cond (.t 10) (Rg [Op 4 (.move (.c (.bool false)))]
 (.ret))
 (.skip)))
 (.seq (Rg [Op 5 (.move (Ci 0))]
 (.block 0 (.loop (.seq (Rg [Mv 11 5, Mv 12 0, Op 13 (.len (.slice) (.t 12)), Op 14 (.bin (.lss) (.t 11) (.t 13))]
 (.cond (.t 14) (.skip)
 (.exit 0)))
 (.seq (.block 1 (.seq (.draw [⟨5, Mv 22 5, (.quiet [0])⟩,
 ⟨4, Mv 21 1, (.quiet [0])⟩,
 ⟨6, Op 23 (.indexAddr 1 (.t 21) (.t 22)), (.quiet [0])⟩,
 ⟨7, Op 24 (.load false 1 (.t 23)), (.quiet [0])⟩,
 ⟨1, Mv 18 5, (.quiet [0])⟩,
 ⟨0, Mv 17 0, (.quiet [0])⟩,
 ⟨2, Op 19 (.indexAddr 1 (.t 17) (.t 18)), (.quiet [0])⟩,
 ⟨3, Op 20 (.load false 1 (.t 19)), (.quiet [0])⟩,
 ⟨8, Op 25 (.bin (.neq) (.t 20) (.t 24)), (.quiet [0])⟩] 0)
 (.cond (.t 25) (Rg [Op 4 (.move (.c (.bool false)))]
 (.ret))
 (.skip))))
 (.region [Mv 15 5, Op 16 (.bin (.add) (.t 15) (Ci 1)), Mv 5 16]))))))
 (Rg [Op 4 (.move (.c (.bool true)))]
 (.ret))))⟩
theorem ok27 : compFunc prog glb 27 p27 = some c27 := by kernel_rfl
def p28 : List Plan := []
def c28 : CFunc := ⟨15, [.tmp 2],
 Rg [Op 2 (.move (.c (.nilSlice)))]
 (Rg [Op 5 (.buildSlice [.int (.i64) 0] 0 []), Mv 3 5]
 (.seq (Rg [Op 4 (.move (Ci 0))]
 (.block 0 (.loop (.seq (Rg [Mv 6 4, Mv 7 0, Op 8 (.bin (.lss) (.t 6) (.t 7))]
 (.cond (.t 8) (.skip)
 (.exit 0)))
 (.seq (.block 1 (.region [Mv 11 3, Op 12 (.buildSlice [.int (.i64) 0] 1 [(0, 1, Ci 0)]), Op 13 (.append 1 8 (.t 11) (.t 12)), Mv 3 13]))
 (.region [Mv 9 4, Op 10 (.bin (.add) (.t 9) (Ci 1)), Mv 4 10]))))))
 (Rg [Mv 14 3, Mv 2 14]
 (.ret))))⟩
theorem ok28 : compFunc prog glb 28 p28 = some c28 := by kernel_rfl
def p29 : List Plan := []
def c29 : CFunc := ⟨15, [.tmp 4],
 Rg [Op 4 (.move (.c (.bool false)))]
 (Rg [Mv 5 0, Op 6 (.len (.slice) (.t 5)), Mv 7 1, Op 8 (.len (.slice) (.t 7)), Op 9 (.bin (.eql) (.t 6) (.t 8)), Mv 10 9, Mt 11 0 10, Mt 12 1 10, Ot 13 (Ca 53 [.t 11, .t 12]) 10, Op 14 (.pick (.t 10) (.t 13) (.c (.bool false))), Mv 4 14]
 (.ret))⟩
theorem ok29 : compFunc prog glb 29 p29 = some c29 := by kernel_rfl
def p30 : List Plan := [⟨[(6, .quiet [0]), (5, .quiet [0]), (7, .quiet [0]), (8, .quiet [0]), (9, .eff), (1, .quiet [0, 5]), (2, .quiet [0, 5]), (3, .quiet [0, 5]), (4, .quiet [0, 5]), (10, .eff), (0, .quiet [0, 5, 10]), (11, .quiet [10]), (12, .quiet [10]), (13, .eff)], 0, [0, 0, 2, 6, 14, 0, 0, 96, 224, 480, 1022, 2047, 4095, 8191]⟩]
def c30 : CFunc := ⟨25, [],
 Rg [Mv 5 1, Op 6 (.len (.slice) (.t 5)), Op 7 (.bin (.sub) (.t 6) (Ci 1)), Mv 4 7]
 (.block 0 (.loop (.seq (Rg [Mv 8 4, Op 9 (.bin (.geq) (.t 8) (Ci 0))]
 (.cond (.t 9) (.skip)
 (.exit 0)))
 (.seq (.block 1 (.draw [⟨6, Mv 18 4, (.quiet [0])⟩,
 ⟨5, Mv 17 1, (.quiet [0])⟩,
 ⟨7, Op 19 (.indexAddr 1 (.t 17) (.t 18)), (.quiet [0])⟩,
 ⟨8, Op 20 (.load false 1 (.t 19)), (.quiet [0])⟩,
 ⟨9, Op 21 (.buildSlice [.nilIface] 1 [(0, 1, .t 20)]), (.eff)⟩,
 ⟨1, Mv 13 0, (.quiet [0, 5])⟩,
 ⟨2, Op 14 (.nilCheck (.t 13)), (.quiet [0, 5])⟩,
 ⟨3, Op 15 (.fieldAddr 4 (.t 14)), (.quiet [0, 5])⟩,
 ⟨4, Op 16 (.load false 1 (.t 15)), (.quiet [0, 5])⟩,
 ⟨10, Op 22 (.append 1 16 (.t 16) (.t 21)), (.eff)⟩,
 ⟨0, Mv 12 0, (.quiet [0, 5, 10])⟩,
 ⟨11, Op 23 (.nilCheck (.t 12)), (.quiet [10])⟩,
 ⟨12, Op 24 (.fieldAddr 4 (.t 23)), (.quiet [10])⟩,
 ⟨13, On (.store 1 (.t 24) (.t 22)), (.eff)⟩] 0))
 (.region [Mv 10 4, Op 11 (.bin (.sub) (.t 10) (Ci 1)), Mv 4 11])))))⟩
theorem ok30 : compFunc prog glb 30 p30 = some c30 := by kernel_rfl
def p31 : List Plan := []
def c31 : CFunc := ⟨18, [.tmp 2],
 Rg [Op 2 (.move (.c (.nilSlice)))]
 (.seq (Rg [Mv 5 0, Op 6 (.len (.slice) (.t 5)), Op 7 (.move (Ci 0))]
 (.block 0 (.loop (Rg [Op 8 (.bin (.lss) (.t 7) (.t 6))]
 (.seq (.cond (.t 8) (.skip)
 (.exit 0))
 (.seq (.block 1 (Rg [Op 9 (.indexAddr 6 (.t 5) (.t 7)), Op 10 (.load true 6 (.t 9)), Op 4 (.new [.int (.i64) 0, .int (.i64) 0, .int (.i64) 0, .int (.i64) 0, .str [], .nilSlice]), On (.store 6 (.t 4) (.t 10))]
 (.region [Mv 11 2, Op 12 (.load true 6 (.t 4)), Op 13 (.iface 81 (.t 12)), Op 14 (.buildSlice [.nilIface] 1 [(0, 1, .t 13)]), Op 15 (.append 1 16 (.t 11) (.t 14)), Mv 2 15])))
 (.region [Op 16 (.bin (.add) (.t 7) (Ci 1)), Mv 7 16])))))))
 (Rg [Mv 17 2, Mv 2 17]
 (.ret)))⟩
theorem ok31 : compFunc prog glb 31 p31 = some c31 := by kernel_rfl
def p32 : List Plan := []
def c32 : CFunc := ⟨8, [.tmp 3, .tmp 4],
 Rg [Op 3 (.move (.c (.nilSlice))), Op 4 (.move (Ci 0))]
 (Rg [Mv 5 0, Op 6 (.load true 6 (.t 1)), Op 7 (Ca 33 [.t 5, .t 6]), Op 3 (.move (.c (.nilSlice))), Mv 4 7]
 (.ret))⟩
theorem ok32 : compFunc prog glb 32 p32 = some c32 := by kernel_rfl
def p33 : List Plan := [⟨[(3, .quiet [0]), (4, .eff), (1, .quiet [0, 2]), (2, .quiet [0, 2]), (5, .eff), (7, .quiet [5]), (6, .quiet [5]), (0, .quiet [0, 2, 5]), (8, .eff), (9, .quiet [9])], 0, [0, 0, 2, 0, 8, 30, 62, 62, 255, 511]⟩]
def c33 : CFunc := ⟨65, [.tmp 4],
 Rg [Op 3 (.box (.t 1)), Op 4 (.move (Ci 0))]
 (Rg [Op 5 (.move (Ci 0))]
 (.seq (Rg [Op 10 (.fieldAddr 0 (.t 3)), Op 11 (.load false 1 (.t 10))]
 (.block 0 (.seq (.block 4 (.seq (.block 3 (.seq (.block 2 (.seq (.block 1 (.seq (.seq (Rg [Op 13 (.bin (.eql) (.t 11) (Ci 4)), Mv 12 13]
 (.cond (.t 12) (.exit 1)
 (.skip)))
 (.seq (Rg [Op 15 (.bin (.eql) (.t 11) (Ci 3)), Mv 14 15]
 (.cond (.t 14) (.exit 2)
 (.skip)))
 (.seq (Rg [Op 17 (.bin (.eql) (.t 11) (Ci 5)), Mv 16 17]
 (.cond (.t 16) (.exit 3)
 (.skip)))
 (Rg [Op 19 (.bin (.eql) (.t 11) (Ci 6)), Mv 18 19]
 (.cond (.t 18) (.exit 4)
 (.skip))))))
 (.exit 0)))
 (.region [Mv 20 0, Op 21 (Ca 54 [.t 20]), Mv 5 21])))
 (.seq (Rg [Mv 23 0, Op 24 (.fieldAddr 4 (.t 3)), Op 25 (.load false 1 (.t 24)), Mv 26 5, Op 27 (Ca 55 [.t 23, .t 25, .t 26]), Mv 22 27, Op 28 (.extract (.t 22) 0), Op 29 (.extract (.t 22) 1), Mv 6 28, Mv 7 29]
 (.seq (Rg [Mv 30 7, Op 31 (.bin (.neq) (.t 30) (Ci 0))]
 (.cond (.t 31) (Rg [Mv 32 7, Mv 4 32]
 (.ret))
 (.skip)))
 (Rg [Mv 33 0, Mv 34 6, Op 35 (.nilCheck (.t 34)), Op 36 (.load false 1 (.t 35)), Mv 37 7, Op 38 (Ca 56 [.t 33, .t 36, .t 37]), Mv 4 38]
 (.ret))))
 (.exit 0))))
 (.seq (.seq (.draw [⟨3, Mv 42 0, (.quiet [0])⟩,
 ⟨4, Op 43 (Ca 54 [.t 42]), (.eff)⟩,
 ⟨1, Op 40 (.fieldAddr 3 (.t 3)), (.quiet [0, 2])⟩,
 ⟨2, Op 41 (.load false 1 (.t 40)), (.quiet [0, 2])⟩,
 ⟨5, Op 44 (Ca 57 [.t 41, .t 43, Ci 0]), (.eff)⟩,
 ⟨7, Op 46 (.extract (.t 44) 1), (.quiet [5])⟩,
 ⟨6, Op 45 (.extract (.t 44) 0), (.quiet [5])⟩,
 ⟨0, Mv 39 0, (.quiet [0, 2, 5])⟩,
 ⟨8, Op 47 (Ca 56 [.t 39, .t 45, .t 46]), (.eff)⟩,
 ⟨9, Mv 4 47, (.quiet [9])⟩] 0)
 (.ret))
 (.exit 0))))
 (.seq (Rg [Mv 48 0, Op 49 (Ca 54 [.t 48]), Mv 8 49]
 (Rg [Mv 50 0, Op 51 (Ca 54 [.t 50]), Mv 9 51]
 (Rg [Mv 52 0, Op 53 (.fieldAddr 3 (.t 3)), Op 54 (.load false 1 (.t 53)), Mv 55 9, Mv 56 8, Op 57 (Ca 57 [.t 54, .t 55, .t 56]), Op 58 (.extract (.t 57) 0), Op 59 (.extract (.t 57) 1), Op 60 (Ca 56 [.t 52, .t 58, .t 59]), Mv 4 60]
 (.ret))))
 (.exit 0)))))
 (Rg [Mv 61 0, Op 62 (.fieldAddr 2 (.t 3)), Op 63 (.load false 1 (.t 62)), Op 64 (Ca 56 [.t 61, .t 63, Ci 0]), Mv 4 64]
 (.ret))))⟩
theorem ok33 : compFunc prog glb 33 p33 = some c33 := by kernel_rfl
def p34 : List Plan := [⟨[(1, .quiet [0]), (2, .quiet [0]), (3, .eff), (0, .quiet [0, 3]), (4, .eff), (5, .quiet [0, 3, 5]), (6, .eff), (7, .quiet [7]), (8, .eff), (9, .eff), (10, .quiet [10])], 0, [0, 0, 2, 6, 15, 0, 63, 127, 255, 511, 1023]⟩]
def c34 : CFunc := ⟨108, [.tmp 4],
 Rg [Op 3 (.box (.t 1)), Op 4 (.move (.c (.nilSlice)))]
 (Rg [Op 8 (.fieldAddr 3 (.t 3)), Op 9 (.load false 1 (.t 8)), Op 10 (Ca 31 [.t 9]), Mv 5 10]
 (.seq (Rg [Op 11 (.fieldAddr 0 (.t 3)), Op 12 (.load false 1 (.t 11))]
 (.block 0 (Rg [Op 14 (.bin (.eql) (.t 12) (Ci 1)), Mv 13 14]
 (.cond (.t 13) (Rg [Op 15 (.iface 78 (.c (.func 58 [] []))), Op 16 (.buildSlice [.nilIface] 1 [(0, 1, .t 15)]), Mv 4 16]
 (.ret))
 (Rg [Op 18 (.bin (.eql) (.t 12) (Ci 2)), Mv 17 18]
 (.cond (.t 17) (Rg [Mv 19 5, Op 20 (.load true 8 (.t 3)), Op 21 (Ca 59 [.t 20, .c (.bool false)]), Op 22 (.iface 78 (.t 21)), Op 23 (.buildSlice [.nilIface] 1 [(0, 1, .t 22)]), Op 24 (.append 1 16 (.t 19) (.t 23)), Mv 4 24]
 (.ret))
 (Rg [Op 26 (.bin (.eql) (.t 12) (Ci 3)), Mv 25 26]
 (.cond (.t 25) (Rg [Mv 27 5, Op 28 (.load true 8 (.t 3)), Op 29 (Ca 59 [.t 28, .c (.bool true)]), Op 30 (.iface 78 (.t 29)), Op 31 (.buildSlice [.nilIface] 1 [(0, 1, .t 30)]), Op 32 (.append 1 16 (.t 27) (.t 31)), Mv 4 32]
 (.ret))
 (.seq (Rg [Op 34 (.bin (.eql) (.t 12) (Ci 4)), Mv 33 34]
 (.cond (.t 33) (.skip)
 (.region [Op 35 (.bin (.eql) (.t 12) (Ci 5)), Mv 33 35])))
 (.cond (.t 33) (Rg [Op 36 (.load true 8 (.t 3)), Op 37 (Ca 60 [.t 36]), Mv 4 37]
 (.ret))
 (Rg [Op 39 (.bin (.eql) (.t 12) (Ci 6)), Mv 38 39]
 (.cond (.t 38) (Rg [Mv 40 5, Op 41 (.load true 8 (.t 3)), Op 42 (Ca 61 [.t 41]), Op 43 (.iface 78 (.t 42)), Op 44 (.buildSlice [.nilIface] 1 [(0, 1, .t 43)]), Op 45 (.append 1 16 (.t 40) (.t 44)), Mv 4 45]
 (.ret))
 (Rg [Op 47 (.bin (.eql) (.t 12) (Ci 7)), Mv 46 47]
 (.cond (.t 46) (.seq (Rg [Op 48 (.fieldAddr 6 (.t 3)), Op 49 (.load false 1 (.t 48)), Op 50 (.len (.slice) (.t 49)), Op 51 (.move (Ci 0))]
 (.block 1 (.loop (Rg [Op 52 (.bin (.lss) (.t 51) (.t 50))]
 (.seq (.cond (.t 52) (.skip)
 (.exit 1))
 (.seq (.block 2 (Rg [Op 53 (.indexAddr 4 (.t 49) (.t 51)), Op 54 (.load true 4 (.t 53)), Op 7 (.new [.int (.i64) 0, .str [], .nilSlice, .nilSlice]), On (.store 4 (.t 7) (.t 54))]
 (.draw [⟨1, Op 56 (.fieldAddr 2 (.t 7)), (.quiet [0])⟩,
 ⟨2, Op 57 (.load false 1 (.t 56)), (.quiet [0])⟩,
 ⟨3, Op 58 (Ca 31 [.t 57]), (.eff)⟩,
 ⟨0, Mv 55 5, (.quiet [0, 3])⟩,
 ⟨4, Op 59 (.append 1 16 (.t 55) (.t 58)), (.eff)⟩,
 ⟨5, Op 60 (.load true 4 (.t 7)), (.quiet [0, 3, 5])⟩,
 ⟨6, Op 61 (Ca 62 [.t 60]), (.eff)⟩,
 ⟨7, Op 62 (.iface 78 (.t 61)), (.quiet [7])⟩,
 ⟨8, Op 63 (.buildSlice [.nilIface] 1 [(0, 1, .t 62)]), (.eff)⟩,
 ⟨9, Op 64 (.append 1 16 (.t 59) (.t 63)), (.eff)⟩,
 ⟨10, Mv 5 64, (.quiet [10])⟩] 0)))
 (.region [Op 65 (.bin (.add) (.t 51) (Ci 1)), Mv 51 65])))))))
 (Rg [Mv 66 5, Op 67 (.load true 8 (.t 3)), Op 68 (Ca 63 [.t 67]), Op 69 (.iface 78 (.t 68)), Op 70 (.buildSlice [.nilIface] 1 [(0, 1, .t 69)]), Op 71 (.append 1 16 (.t 66) (.t 70)), Mv 4 71]
 (.ret)))
 (.seq (Rg [Op 73 (.bin (.eql) (.t 12) (Ci 8)), Mv 72 73]
 (.cond (.t 72) (.skip)
 (Rg [Op 74 (.bin (.eql) (.t 12) (Ci 9)), Mv 72 74]
 (.cond (.t 72) (.skip)
 (Rg [Op 75 (.bin (.eql) (.t 12) (Ci 11)), Mv 72 75]
 (.cond (.t 72) (.skip)
 (.region [Op 76 (.bin (.eql) (.t 12) (Ci 12)), Mv 72 76])))))))
 (.cond (.t 72) (Rg [Op 77 (.load true 8 (.t 3)), Op 78 (Ca 63 [.t 77]), Op 79 (.iface 78 (.t 78)), Op 80 (.buildSlice [.nilIface] 1 [(0, 1, .t 79)]), Mv 4 80]
 (.ret))
 (Rg [Op 82 (.bin (.eql) (.t 12) (Ci 10)), Mv 81 82]
 (.cond (.t 81) (Rg [Mv 83 0, Op 84 (.load true 8 (.t 3)), Op 85 (Ca 64 [.t 83, .t 84]), Mv 4 85]
 (.ret))
 (Rg [Op 87 (.bin (.eql) (.t 12) (Ci 13)), Mv 86 87]
 (.cond (.t 86) (Rg [Op 88 (.iface 78 (.c (.func 65 [] []))), Op 89 (.load true 8 (.t 3)), Op 90 (Ca 59 [.t 89, .c (.bool false)]), Op 91 (.iface 78 (.t 90)), Op 92 (.buildSlice [.nilIface] 2 [(0, 1, .t 88), (1, 1, .t 91)]), Mv 4 92]
 (.ret))
 (Rg [Op 94 (.bin (.eql) (.t 12) (Ci 14)), Mv 93 94]
 (.cond (.t 93) (Rg [Mv 95 5, Op 96 (.iface 78 (.c (.func 65 [] []))), Op 97 (.load true 8 (.t 3)), Op 98 (Ca 59 [.t 97, .c (.bool true)]), Op 99 (.iface 78 (.t 98)), Op 100 (.buildSlice [.nilIface] 2 [(0, 1, .t 96), (1, 1, .t 99)]), Op 101 (.append 1 16 (.t 95) (.t 100)), Mv 4 101]
 (.ret))
 (Rg [Op 103 (.bin (.eql) (.t 12) (Ci 15)), Mv 102 103]
 (.cond (.t 102) (Rg [Mv 104 5, Op 105 (.iface 78 (.c (.func 66 [] []))), Op 106 (.buildSlice [.nilIface] 1 [(0, 1, .t 105)]), Op 107 (.append 1 16 (.t 104) (.t 106)), Mv 4 107]
 (.ret))
 (.skip)))))))))))))))))))))))))
 (Rg [Op 4 (.move (.c (.nilSlice)))]
 (.ret))))⟩
theorem ok34 : compFunc prog glb 34 p34 = some c34 := by kernel_rfl
def p35 : List Plan := []
def c35 : CFunc := ⟨10, [.tmp 4],
 Rg [Op 4 (.move (.c (.bool false)))]
 (Rg [Mv 5 0, Op 6 (Ca 22 [.t 5]), Mv 7 1, Op 8 (Ca 67 [.t 6, .t 7]), Op 9 (.bin (.eql) (.t 8) (Ci 1)), Mv 4 9]
 (.ret))⟩
theorem ok35 : compFunc prog glb 35 p35 = some c35 := by kernel_rfl
def p36 : List Plan := []
def c36 : CFunc := ⟨7, [],
 .seq (Rg [Op 3 (.move (.c (.nilIface))), Op 4 (.eq (.iface) true (.t 3) (.c (.nilIface)))]
 (.cond (.t 4) (.region [On (.store 1 (.t 0) (.c (.bool false)))])
 (.skip)))
 (.region [Op 5 (.load false 1 (.t 1)), Op 6 (Ca 37 [.t 5]), On (.store 1 (.t 2) (.t 6))])⟩
theorem okd36 : compFuncD prog glb 36 p36 = some c36 := by kernel_rfl
def p37 : List Plan := []
def c37 : CFunc := ⟨12, [.tmp 2],
 Rg [Op 2 (.move (.c (.nilSlice)))]
 (Rg [Mv 4 0, Op 5 (.nilCheck (.t 4)), Op 6 (.fieldAddr 5 (.t 5)), Op 7 (.load false 1 (.t 6)), Mv 3 7]
 (Rg [Mv 8 0, Op 9 (.nilCheck (.t 8)), Op 10 (.fieldAddr 5 (.t 9)), On (.store 1 (.t 10) (.c (.nilSlice)))]
 (Rg [Mv 11 3, Mv 2 11]
 (.ret))))⟩
theorem ok37 : compFunc prog glb 37 p37 = some c37 := by kernel_rfl
def p38 : List Plan := []
def c38 : CFunc := ⟨24, [],
 .region [Mv 10 0, Mv 11 0, Op 12 (.nilCheck (.t 11)), Op 13 (.fieldAddr 5 (.t 12)), Op 14 (.load false 1 (.t 13)), Mv 15 1, Mv 16 2, Mv 17 3, Mv 18 4, Op 19 (.build [.int (.i64) 0, .int (.i64) 0, .int (.i64) 0, .int (.i64) 0, .int (.i64) 0] [(1, 1, .t 15), (2, 1, .t 16), (3, 1, .t 17), (4, 1, .t 18)]), Op 20 (.buildSlice [.int (.i64) 0, .int (.i64) 0, .int (.i64) 0, .int (.i64) 0, .int (.i64) 0] 1 [(0, 5, .t 19)]), Op 21 (.append 5 40 (.t 14) (.t 20)), Op 22 (.nilCheck (.t 10)), Op 23 (.fieldAddr 5 (.t 22)), On (.store 1 (.t 23) (.t 21))]⟩
theorem ok38 : compFunc prog glb 38 p38 = some c38 := by kernel_rfl
def p39 : List Plan := [⟨[(6, .quiet [0]), (7, .quiet [0]), (8, .quiet [0]), (9, .quiet [0]), (10, .quiet [0]), (1, .quiet [0]), (2, .quiet [0]), (3, .quiet [0]), (4, .quiet [0]), (5, .quiet [0]), (11, .eff), (12, .eff), (13, .quiet [12]), (0, .quiet [0, 11, 12]), (14, .quiet [12]), (15, .quiet [12]), (16, .eff)], 0, [0, 0, 2, 6, 14, 30, 0, 64, 192, 448, 960, 2046, 4094, 8190, 16383, 32767, 65535]⟩]
def c39 : CFunc := ⟨34, [.tmp 4, .tmp 5],
 Rg [Op 4 (.move (Ci 0)), Op 5 (.move (.c (.bool false)))]
 (.seq (Rg [Mv 6 0, Mv 7 1, Op 8 (Ca 68 [.t 6, .t 7]), Op 9 (.un (.not) (.t 8))]
 (.cond (.t 9) (Rg [Op 4 (.move (Ci 0)), Op 5 (.move (.c (.bool false)))]
 (.ret))
 (.skip)))
 (.seq (.draw [⟨6, Mv 16 0, (.quiet [0])⟩,
 ⟨7, Op 17 (.nilCheck (.t 16)), (.quiet [0])⟩,
 ⟨8, Op 18 (.fieldAddr 1 (.t 17)), (.quiet [0])⟩,
 ⟨9, Op 19 (.fieldAddr 0 (.t 18)), (.quiet [0])⟩,
 ⟨10, Op 20 (.load false 1 (.t 19)), (.quiet [0])⟩,
 ⟨1, Mv 11 0, (.quiet [0])⟩,
 ⟨2, Op 12 (.nilCheck (.t 11)), (.quiet [0])⟩,
 ⟨3, Op 13 (.fieldAddr 2 (.t 12)), (.quiet [0])⟩,
 ⟨4, Op 14 (.fieldAddr 0 (.t 13)), (.quiet [0])⟩,
 ⟨5, Op 15 (.load false 1 (.t 14)), (.quiet [0])⟩,
 ⟨11, Op 21 (.buildSlice [.nilSlice] 2 [(0, 1, .t 15), (1, 1, .t 20)]), (.eff)⟩,
 ⟨12, Op 22 (Ca 69 [.t 21]), (.eff)⟩,
 ⟨13, Op 23 (.build [.nilSlice] [(0, 1, .t 22)]), (.quiet [12])⟩,
 ⟨0, Mv 10 0, (.quiet [0, 11, 12])⟩,
 ⟨14, Op 24 (.nilCheck (.t 10)), (.quiet [12])⟩,
 ⟨15, Op 25 (.fieldAddr 1 (.t 24)), (.quiet [12])⟩,
 ⟨16, On (.store 1 (.t 25) (.t 23)), (.eff)⟩] 0)
 (Rg [Mv 26 0, Op 27 (.build [.nilSlice] []), Op 28 (.nilCheck (.t 26)), Op 29 (.fieldAddr 2 (.t 28)), On (.store 1 (.t 29) (.t 27))]
 (Rg [Mv 30 0, Op 31 (Ca 70 [.t 30]), Op 32 (.extract (.t 31) 0), Op 33 (.extract (.t 31) 1), Mv 4 32, Mv 5 33]
 (.ret)))))⟩
theorem ok39 : compFunc prog glb 39 p39 = some c39 := by kernel_rfl
def p40 : List Plan := []
def c40 : CFunc := ⟨24, [.tmp 4],
 Rg [Op 4 (.move (.c (.bool false)))]
 (.seq (Rg [Mv 6 0, Mv 7 1, Op 8 (Ca 67 [.t 6, .t 7]), Op 9 (.bin (.neq) (.t 8) (Ci 2))]
 (.cond (.t 9) (Rg [Op 4 (.move (.c (.bool false)))]
 (.ret))
 (.skip)))
 (Rg [Mv 10 0, Op 11 (.nilCheck (.t 10)), Op 12 (.fieldAddr 2 (.t 11)), Op 13 (.load false 1 (.t 12)), Mv 14 1, Op 15 (.bin (.sub) (.t 14) (Ci 1)), Op 16 (.indexAddr 5 (.t 13) (.t 15)), Mv 5 16]
 (Rg [Mv 17 5, Mv 18 5, Op 19 (.build [.int (.i64) 0, .int (.i64) 0] []), Op 20 (.nilCheck (.t 17)), Op 21 (.fieldAddr 0 (.t 20)), On (.store 1 (.t 21) (Ci 1)), Op 22 (.nilCheck (.t 18)), Op 23 (.fieldAddr 2 (.t 22)), On (.store 2 (.t 23) (.t 19))]
 (Rg [Op 4 (.move (.c (.bool true)))]
 (.ret)))))⟩
theorem ok40 : compFunc prog glb 40 p40 = some c40 := by kernel_rfl
def p41 : List Plan := [⟨[(3, .quiet [0]), (4, .quiet [0]), (5, .eff), (1, .quiet [0, 3]), (2, .quiet [0, 3]), (6, .quiet [3]), (7, .eff), (0, .quiet [0, 3, 7]), (8, .eff), (9, .quiet [9])], 0, [0, 0, 2, 0, 8, 24, 62, 126, 255, 511]⟩]
def c41 : CFunc := ⟨27, [.tmp 2],
 Rg [Op 2 (.move (.c (.nilSlice)))]
 (.seq (Rg [Mv 5 0, Op 6 (.eq (.ptr) false (.t 5) (.c (.nilPtr)))]
 (.cond (.t 6) (Rg [Op 2 (.move (.c (.nilSlice)))]
 (.ret))
 (.skip)))
 (.seq (Rg [Mv 7 0, Op 8 (.nilCheck (.t 7)), Op 9 (.fieldAddr 8 (.t 8)), Op 10 (.load false 1 (.t 9)), Op 11 (.len (.slice) (.t 10)), Op 12 (.move (Ci 0))]
 (.block 0 (.loop (Rg [Op 13 (.bin (.lss) (.t 12) (.t 11))]
 (.seq (.cond (.t 13) (.skip)
 (.exit 0))
 (.seq (.block 1 (Rg [Op 14 (.indexAddr 2 (.t 10) (.t 12)), Op 15 (.load true 2 (.t 14)), Op 4 (.new [.int (.i64) 0, .nilSlice]), On (.store 2 (.t 4) (.t 15))]
 (.draw [⟨3, Op 19 (.fieldAddr 1 (.t 4)), (.quiet [0])⟩,
 ⟨4, Op 20 (.load false 1 (.t 19)), (.quiet [0])⟩,
 ⟨5, Op 21 (Ca 25 [.t 20]), (.eff)⟩,
 ⟨1, Op 17 (.fieldAddr 0 (.t 4)), (.quiet [0, 3])⟩,
 ⟨2, Op 18 (.load false 1 (.t 17)), (.quiet [0, 3])⟩,
 ⟨6, Op 22 (.build [.int (.i64) 0, .nilSlice] [(0, 1, .t 18), (1, 1, .t 21)]), (.quiet [3])⟩,
 ⟨7, Op 23 (.buildSlice [.int (.i64) 0, .nilSlice] 1 [(0, 2, .t 22)]), (.eff)⟩,
 ⟨0, Mv 16 2, (.quiet [0, 3, 7])⟩,
 ⟨8, Op 24 (.append 2 32 (.t 16) (.t 23)), (.eff)⟩,
 ⟨9, Mv 2 24, (.quiet [9])⟩] 0)))
 (.region [Op 25 (.bin (.add) (.t 12) (Ci 1)), Mv 12 25])))))))
 (Rg [Mv 26 2, Mv 2 26]
 (.ret))))⟩
theorem ok41 : compFunc prog glb 41 p41 = some c41 := by kernel_rfl
def p42 : List Plan := [⟨[(3, .quiet [0]), (2, .quiet [0]), (4, .eff), (1, .quiet [0, 3]), (0, .quiet [0, 3]), (5, .eff)], 0, [0, 0, 0, 0, 12, 31]⟩, ⟨[(5, .quiet [0]), (6, .eff), (1, .quiet [0, 2]), (2, .quiet [0, 2]), (3, .quiet [0, 2]), (4, .quiet [0, 2]), (7, .eff), (0, .quiet [0, 2, 7]), (8, .quiet [7]), (9, .quiet [7]), (10, .eff)], 0, [0, 0, 2, 6, 14, 0, 32, 126, 255, 511, 1023]⟩, ⟨[(4, .quiet [0]), (0, .quiet [0]), (1, .quiet [0]), (2, .quiet [0]), (3, .quiet [0]), (5, .eff)], 0, [0, 1, 3, 7, 0, 31]⟩]
def c42 : CFunc := ⟨39, [.tmp 4, .tmp 5],
 Rg [Op 3 (.box (.t 1)), Op 4 (.move (.c (.nilSlice))), Op 5 (.move (.c (.bool false)))]
 (.seq (Rg [Mv 6 0, Op 7 (.load false 1 (.t 3)), Op 8 (Ca 71 [.t 6, .t 7]), Op 9 (.un (.not) (.t 8))]
 (.cond (.t 9) (Rg [Op 4 (.move (.c (.nilSlice))), Op 5 (.move (.c (.bool false)))]
 (.ret))
 (.skip)))
 (.seq (.draw [⟨3, Op 13 (.load false 1 (.t 3)), (.quiet [0])⟩,
 ⟨2, Mv 12 0, (.quiet [0])⟩,
 ⟨4, Op 14 (Ca 73 [.t 12, .t 13]), (.eff)⟩,
 ⟨1, Op 11 (.load false 1 (.t 3)), (.quiet [0, 3])⟩,
 ⟨0, Mv 10 0, (.quiet [0, 3])⟩,
 ⟨5, Op 15 (Ca 72 [.t 10, .t 11, .t 14, .c (.int (.i64) (-1))]), (.eff)⟩] 0)
 (.seq (.draw [⟨5, Op 21 (.load false 1 (.t 3)), (.quiet [0])⟩,
 ⟨6, Op 22 (Ca 75 [.t 21]), (.eff)⟩,
 ⟨1, Mv 17 0, (.quiet [0, 2])⟩,
 ⟨2, Op 18 (.nilCheck (.t 17)), (.quiet [0, 2])⟩,
 ⟨3, Op 19 (.fieldAddr 8 (.t 18)), (.quiet [0, 2])⟩,
 ⟨4, Op 20 (.load false 1 (.t 19)), (.quiet [0, 2])⟩,
 ⟨7, Op 23 (Ca 74 [.t 20, .t 22]), (.eff)⟩,
 ⟨0, Mv 16 0, (.quiet [0, 2, 7])⟩,
 ⟨8, Op 24 (.nilCheck (.t 16)), (.quiet [7])⟩,
 ⟨9, Op 25 (.fieldAddr 8 (.t 24)), (.quiet [7])⟩,
 ⟨10, On (.store 1 (.t 25) (.t 23)), (.eff)⟩] 0)
 (.seq (.draw [⟨4, Op 30 (.load false 1 (.t 3)), (.quiet [0])⟩,
 ⟨0, Mv 26 0, (.quiet [0])⟩,
 ⟨1, Op 27 (.nilCheck (.t 26)), (.quiet [0])⟩,
 ⟨2, Op 28 (.fieldAddr 7 (.t 27)), (.quiet [0])⟩,
 ⟨3, Op 29 (.load false 1 (.t 28)), (.quiet [0])⟩,
 ⟨5, On (.delete (.one (.int)) (.t 29) (.t 30)), (.eff)⟩] 0)
 (Rg [Mv 31 0, Op 32 (.nilCheck (.t 31)), Op 33 (.fieldAddr 6 (.t 32)), Op 34 (.load false 1 (.t 33)), Op 35 (.func 77 [] [.t 3]), Op 36 (Ca 76 [.t 34, .t 35])]
 (Rg [Mv 37 0, Op 38 (Ca 78 [.t 37]), Mv 4 38, Op 5 (.move (.c (.bool true)))]
 (.ret)))))))⟩
theorem ok42 : compFunc prog glb 42 p42 = some c42 := by kernel_rfl
def p43 : List Plan := [⟨[(3, .quiet [0]), (2, .quiet [0]), (4, .quiet [0]), (5, .quiet [0]), (6, .quiet [0]), (7, .eff), (1, .quiet [0, 6]), (0, .quiet [0, 6]), (8, .eff)], 0, [0, 0, 0, 0, 12, 28, 60, 124, 255]⟩, ⟨[(4, .quiet [0]), (0, .quiet [0]), (1, .quiet [0]), (2, .quiet [0]), (3, .quiet [0]), (5, .eff)], 0, [0, 1, 3, 7, 0, 31]⟩]
def c43 : CFunc := ⟨34, [],
 Rg [Mv 9 2, Op 10 (.len (.slice) (.t 9)), Op 11 (.move (Ci 0))]
 (.block 0 (.loop (Rg [Op 12 (.bin (.lss) (.t 11) (.t 10))]
 (.seq (.cond (.t 12) (.skip)
 (.exit 0))
 (.seq (.block 1 (Rg [Op 13 (.indexAddr 1 (.t 9) (.t 11)), Op 14 (.load false 1 (.t 13)), Op 7 (.new [.int (.i64) 0]), On (.store 1 (.t 7) (.t 14))]
 (Rg [Mv 15 1, Op 16 (.func 80 [] [.t 7]), Op 17 (Ca 79 [.t 15, .t 16]), Mv 8 17]
 (.seq (.draw [⟨3, Mv 21 8, (.quiet [0])⟩,
 ⟨2, Mv 20 1, (.quiet [0])⟩,
 ⟨4, Op 22 (.indexAddr 2 (.t 20) (.t 21)), (.quiet [0])⟩,
 ⟨5, Op 23 (.fieldAddr 1 (.t 22)), (.quiet [0])⟩,
 ⟨6, Op 24 (.load false 1 (.t 23)), (.quiet [0])⟩,
 ⟨7, Op 25 (Ca 81 [.t 24]), (.eff)⟩,
 ⟨1, Op 19 (.load false 1 (.t 7)), (.quiet [0, 6])⟩,
 ⟨0, Mv 18 0, (.quiet [0, 6])⟩,
 ⟨8, Op 26 (Ca 38 [.t 18, Ci 3, .t 19, .t 25, Ci 0]), (.eff)⟩] 0)
 (.draw [⟨4, Op 31 (.load false 1 (.t 7)), (.quiet [0])⟩,
 ⟨0, Mv 27 0, (.quiet [0])⟩,
 ⟨1, Op 28 (.nilCheck (.t 27)), (.quiet [0])⟩,
 ⟨2, Op 29 (.fieldAddr 0 (.t 28)), (.quiet [0])⟩,
 ⟨3, Op 30 (.load false 1 (.t 29)), (.quiet [0])⟩,
 ⟨5, Op 32 (Ca 40 [.t 30, .t 31]), (.eff)⟩] 0)))))
 (.region [Op 33 (.bin (.add) (.t 11) (Ci 1)), Mv 11 33]))))))⟩
theorem ok43 : compFunc prog glb 43 p43 = some c43 := by kernel_rfl
def p44 : List Plan := []
def c44 : CFunc := ⟨34, [.tmp 6, .tmp 7],
 Rg [Op 6 (.move (Ci 0)), Op 7 (.move (.c (.bool false)))]
 (.seq (Rg [Mv 9 0, Mv 10 1, Mv 11 2, Op 12 (Ca 82 [.t 9, .t 10, .t 11]), Op 13 (.un (.not) (.t 12))]
 (.cond (.t 13) (Rg [Op 6 (.move (Ci 0)), Op 7 (.move (.c (.bool false)))]
 (.ret))
 (.skip)))
 (Rg [Mv 14 0, Mv 15 1, Op 16 (Ca 83 [.t 14, .t 15]), Mv 8 16]
 (.seq (Rg [Mv 17 0, Mv 18 8, Op 19 (Ca 84 [.t 17, .t 18]), Op 20 (.part false 0 1 (.t 19)), Op 21 (.bin (.eql) (.t 20) (Ci 5)), Mv 22 21, Mt 23 0 22, Mt 24 8 22, Ot 25 (Ca 85 [.t 23, .t 24]) 22, Ot 26 (.bin (.eql) (.t 25) (Ci 0)) 22, Op 27 (.pick (.t 22) (.t 26) (.c (.bool false))), Mv 28 27, Mt 29 0 28, Mt 30 8 28, Ot 31 (Ca 40 [.t 29, .t 30]) 28, Op 32 (.pick (.t 28) (.t 31) (.c (.bool false)))]
 (.cond (.t 32) (Rg [Mv 33 8, Mv 6 33, Op 7 (.move (.c (.bool true)))]
 (.ret))
 (.skip)))
 (Rg [Op 6 (.move (Ci 0)), Op 7 (.move (.c (.bool true)))]
 (.ret)))))⟩
theorem ok44 : compFunc prog glb 44 p44 = some c44 := by kernel_rfl
def p45 : List Plan := []
def c45 : CFunc := ⟨6, [.tmp 2],
 Rg [Op 2 (.move (Ci 0))]
 (Rg [Mv 3 0, Op 4 (Ca 46 [.t 3, .c (.func 86 [] [])]), Op 5 (.len (.slice) (.t 4)), Mv 2 5]
 (.ret))⟩
theorem ok45 : compFunc prog glb 45 p45 = some c45 := by kernel_rfl
def p46 : List Plan := []
def c46 : CFunc := ⟨22, [.tmp 4],
 Rg [Op 4 (.move (.c (.nilSlice)))]
 (.seq (Rg [Op 5 (.move (Ci 1))]
 (.block 0 (.loop (.seq (Rg [Mv 6 5, Mv 7 0, Op 8 (Ca 87 [.t 7]), Op 9 (.bin (.leq) (.t 6) (.t 8))]
 (.cond (.t 9) (.skip)
 (.exit 0)))
 (.seq (.block 1 (Rg [Mv 12 1, Mv 13 0, Mv 14 5, Op 15 (Ca 88 [.t 13, .t 14]), Op 16 (.call (.t 12) [.t 15])]
 (.cond (.t 16) (.region [Mv 17 4, Mv 18 5, Op 19 (.buildSlice [.int (.i64) 0] 1 [(0, 1, .t 18)]), Op 20 (.append 1 8 (.t 17) (.t 19)), Mv 4 20])
 (.skip))))
 (.region [Mv 10 5, Op 11 (.bin (.add) (.t 10) (Ci 1)), Mv 5 11]))))))
 (Rg [Mv 21 4, Mv 4 21]
 (.ret)))⟩
theorem ok46 : compFunc prog glb 46 p46 = some c46 := by kernel_rfl
def p47 : List Plan := []
def c47 : CFunc := ⟨6, [.tmp 2],
 Rg [Op 1 (.box (.t 0)), Op 2 (.move (.c (.bool false)))]
 (Rg [Op 3 (.fieldAddr 0 (.t 1)), Op 4 (.load false 1 (.t 3)), Op 5 (.bin (.eql) (.t 4) (Ci 1)), Mv 2 5]
 (.ret))⟩
theorem ok47 : compFunc prog glb 47 p47 = some c47 := by kernel_rfl
def p48 : List Plan := []
def c48 : CFunc := ⟨6, [.tmp 2],
 Rg [Op 1 (.box (.t 0)), Op 2 (.move (.c (.bool false)))]
 (Rg [Op 3 (.fieldAddr 0 (.t 1)), Op 4 (.load false 1 (.t 3)), Op 5 (.bin (.eql) (.t 4) (Ci 2)), Mv 2 5]
 (.ret))⟩
theorem ok48 : compFunc prog glb 48 p48 = some c48 := by kernel_rfl
def p49 : List Plan := [⟨[(0, .quiet [0]), (2, .eff), (3, .quiet [2]), (1, .quiet [0, 2]), (4, .eff)], 0, [0, 0, 1, 5, 15]⟩, ⟨[(0, .quiet [0]), (2, .eff), (3, .quiet [2]), (1, .quiet [0, 2]), (4, .eff)], 0, [0, 0, 1, 5, 15]⟩, ⟨[(0, .quiet [0]), (2, .eff), (3, .quiet [2]), (1, .quiet [0, 2]), (4, .eff)], 0, [0, 0, 1, 5, 15]⟩]
def c49 : CFunc := ⟨39, [.cell 2 true 5, .tmp 3, .cell 4 true 2],
 Rg [Op 2 (.new [.str [], .nilSlice, .nilSlice, .nilSlice, .nilSlice]), Op 3 (.move (.c (.nilPtr))), Op 4 (.new [.int (.i64) 0, .int (.i64) 0])]
 (Rg [Mv 9 0, Op 10 (Ca 89 [.t 9]), Mv 8 10, Op 11 (.extract (.t 8) 0), Op 12 (.extract (.t 8) 1), Op 5 (.new [.str [], .nilSlice, .nilSlice, .nilSlice, .nilSlice]), Op 6 (.new [.int (.i64) 0, .int (.i64) 0]), On (.store 5 (.t 5) (.t 11)), On (.store 2 (.t 6) (.t 12))]
 (.seq (Rg [Op 13 (.fieldAddr 0 (.t 6)), Op 14 (.load false 1 (.t 13)), Op 15 (.bin (.neq) (.t 14) (Ci 0))]
 (.cond (.t 15) (.seq (.draw [⟨0, Op 16 (.build [.str [], .nilSlice, .nilSlice, .nilSlice, .nilSlice] []), (.quiet [0])⟩,
 ⟨2, On (.store 5 (.t 2) (.t 16)), (.eff)⟩,
 ⟨3, Op 3 (.move (.c (.nilPtr))), (.quiet [2])⟩,
 ⟨1, Op 17 (.load true 2 (.t 6)), (.quiet [0, 2])⟩,
 ⟨4, On (.store 2 (.t 4) (.t 17)), (.eff)⟩] 0)
 (.ret))
 (.skip)))
 (Rg [Op 19 (.load true 5 (.t 5)), Op 20 (Ca 90 [.t 19]), Mv 18 20, Op 21 (.extract (.t 18) 0), Op 22 (.extract (.t 18) 1), Mv 7 21, On (.store 2 (.t 6) (.t 22))]
 (.seq (Rg [Op 23 (.fieldAddr 0 (.t 6)), Op 24 (.load false 1 (.t 23)), Op 25 (.bin (.neq) (.t 24) (Ci 0))]
 (.cond (.t 25) (.seq (.draw [⟨0, Op 26 (.build [.str [], .nilSlice, .nilSlice, .nilSlice, .nilSlice] []), (.quiet [0])⟩,
 ⟨2, On (.store 5 (.t 2) (.t 26)), (.eff)⟩,
 ⟨3, Op 3 (.move (.c (.nilPtr))), (.quiet [2])⟩,
 ⟨1, Op 27 (.load true 2 (.t 6)), (.quiet [0, 2])⟩,
 ⟨4, On (.store 2 (.t 4) (.t 27)), (.eff)⟩] 0)
 (.ret))
 (.skip)))
 (Rg [Op 28 (.load true 5 (.t 5)), Mv 29 7, Op 30 (Ca 91 [.t 28, .t 29]), On (.store 2 (.t 6) (.t 30))]
 (.seq (Rg [Op 31 (.fieldAddr 0 (.t 6)), Op 32 (.load false 1 (.t 31)), Op 33 (.bin (.neq) (.t 32) (Ci 0))]
 (.cond (.t 33) (.seq (.draw [⟨0, Op 34 (.build [.str [], .nilSlice, .nilSlice, .nilSlice, .nilSlice] []), (.quiet [0])⟩,
 ⟨2, On (.store 5 (.t 2) (.t 34)), (.eff)⟩,
 ⟨3, Op 3 (.move (.c (.nilPtr))), (.quiet [2])⟩,
 ⟨1, Op 35 (.load true 2 (.t 6)), (.quiet [0, 2])⟩,
 ⟨4, On (.store 2 (.t 4) (.t 35)), (.eff)⟩] 0)
 (.ret))
 (.skip)))
 (Rg [Op 36 (.load true 5 (.t 5)), Mv 37 7, Op 38 (.build [.int (.i64) 0, .int (.i64) 0] []), On (.store 5 (.t 2) (.t 36)), Mv 3 37, On (.store 2 (.t 4) (.t 38))]
 (.ret))))))))⟩
theorem ok49 : compFunc prog glb 49 p49 = some c49 := by kernel_rfl
def p50 : List Plan := [⟨[(3, .quiet [0]), (0, .quiet [0]), (1, .quiet [0]), (2, .quiet [0]), (4, .eff)], 0, [0, 1, 3, 0, 15]⟩, ⟨[(0, .quiet [0]), (1, .quiet [0]), (2, .eff), (4, .quiet [0, 3]), (3, .quiet [0, 3]), (5, .eff), (6, .quiet [6])], 0, [0, 1, 3, 0, 0, 31, 63]⟩, ⟨[(4, .quiet [0]), (1, .quiet [0]), (2, .quiet [0]), (0, .quiet [0]), (3, .quiet [0]), (5, .eff)], 0, [0, 0, 2, 7, 0, 31]⟩, ⟨[(1, .quiet [0]), (0, .quiet [0]), (2, .eff)], 0, [0, 0, 3]⟩]
def c50 : CFunc := ⟨62, [.tmp 2, .cell 3 true 2],
 Rg [Op 1 (.box (.t 0)), Op 2 (.move (.c (.nilPtr))), Op 3 (.new [.int (.i64) 0, .int (.i64) 0])]
 (Rg [Op 11 (.newMap), Op 12 (.newMap), Op 13 (.newMap), Op 14 (.buildSlice [.nilMap] 1 [(0, 1, .c (.nilMap))]), Op 15 (.buildSlice [.int (.i64) 0] 1 [(0, 1, Ci 0)]), Op 16 (.build [.nilMap, .nilMap, .nilSlice, .nilSlice, .nilSlice, .nilSlice, .nilSlice, .nilMap, .int (.i64) 0] [(0, 1, .t 11), (1, 1, .t 12), (7, 1, .t 13), (2, 1, .t 14), (3, 1, .t 15)]), Op 17 (.box (.t 16)), Mv 4 17]
 (.seq (Rg [Op 18 (.fieldAddr 1 (.t 1)), Op 19 (.load false 1 (.t 18)), Op 20 (.len (.slice) (.t 19)), Op 21 (.move (Ci 0))]
 (.block 0 (.loop (Rg [Op 22 (.bin (.lss) (.t 21) (.t 20))]
 (.seq (.cond (.t 22) (.skip)
 (.exit 0))
 (.seq (.block 1 (Rg [Op 23 (.indexAddr 4 (.t 19) (.t 21)), Op 24 (.load true 4 (.t 23)), Op 6 (.new [.int (.i64) 0, .int (.i64) 0, .str [], .int (.i64) 0]), On (.store 4 (.t 6) (.t 24))]
 (.seq (Rg [Mv 25 4, Op 26 (.fieldAddr 2 (.t 6)), Op 27 (.load false 1 (.t 26)), Op 28 (Ca 92 [.t 25, .t 27])]
 (.cond (.t 28) (.seq (.draw [⟨3, Op 2 (.move (.c (.nilPtr))), (.quiet [0])⟩,
 ⟨0, Op 29 (.fieldAddr 1 (.t 6)), (.quiet [0])⟩,
 ⟨1, Op 30 (.load false 1 (.t 29)), (.quiet [0])⟩,
 ⟨2, Op 31 (.build [.int (.i64) 0, .int (.i64) 0] [(0, 1, Ci 17), (1, 1, .t 30)]), (.quiet [0])⟩,
 ⟨4, On (.store 2 (.t 3) (.t 31)), (.eff)⟩] 0)
 (.ret))
 (.skip)))
 (.seq (.draw [⟨0, Op 32 (.fieldAddr 0 (.t 6)), (.quiet [0])⟩,
 ⟨1, Op 33 (.load false 1 (.t 32)), (.quiet [0])⟩,
 ⟨2, Op 34 (Ca 93 [.t 33]), (.eff)⟩,
 ⟨4, Op 36 (.load true 4 (.t 6)), (.quiet [0, 3])⟩,
 ⟨3, Mv 35 4, (.quiet [0, 3])⟩,
 ⟨5, Op 37 (.invoke [(275, 350), (276, 351), (277, 352), (279, 353)] (.t 34) [.t 35, .t 36]), (.eff)⟩,
 ⟨6, Mv 7 37, (.quiet [6])⟩] 0)
 (Rg [Mv 38 7, Op 39 (.bin (.neq) (.t 38) (Ci 0))]
 (.cond (.t 39) (.seq (.draw [⟨4, Op 2 (.move (.c (.nilPtr))), (.quiet [0])⟩,
 ⟨1, Op 41 (.fieldAddr 1 (.t 6)), (.quiet [0])⟩,
 ⟨2, Op 42 (.load false 1 (.t 41)), (.quiet [0])⟩,
 ⟨0, Mv 40 7, (.quiet [0])⟩,
 ⟨3, Op 43 (.build [.int (.i64) 0, .int (.i64) 0] [(0, 1, .t 40), (1, 1, .t 42)]), (.quiet [0])⟩,
 ⟨5, On (.store 2 (.t 3) (.t 43)), (.eff)⟩] 0)
 (.ret))
 (.skip)))))))
 (.region [Op 44 (.bin (.add) (.t 21) (Ci 1)), Mv 21 44])))))))
 (.seq (Rg [Op 45 (.fieldAddr 2 (.t 1)), Op 46 (.load false 1 (.t 45)), Op 47 (.len (.slice) (.t 46)), Op 48 (.move (Ci 0))]
 (.block 2 (.loop (Rg [Op 49 (.bin (.lss) (.t 48) (.t 47))]
 (.seq (.cond (.t 49) (.skip)
 (.exit 2))
 (.seq (.block 3 (Rg [Op 50 (.indexAddr 5 (.t 46) (.t 48)), Op 51 (.load true 5 (.t 50)), Op 9 (.new [.int (.i64) 0, .str [], .nilSlice, .nilSlice, .nilSlice]), On (.store 5 (.t 9) (.t 51))]
 (Rg [Mv 52 4, Op 53 (.load true 5 (.t 9)), Op 54 (Ca 94 [.t 52, .t 53]), Op 10 (.new [.int (.i64) 0, .int (.i64) 0]), On (.store 2 (.t 10) (.t 54))]
 (Rg [Op 55 (.fieldAddr 0 (.t 10)), Op 56 (.load false 1 (.t 55)), Op 57 (.bin (.neq) (.t 56) (Ci 0))]
 (.cond (.t 57) (.seq (.draw [⟨1, Op 2 (.move (.c (.nilPtr))), (.quiet [0])⟩,
 ⟨0, Op 58 (.load true 2 (.t 10)), (.quiet [0])⟩,
 ⟨2, On (.store 2 (.t 3) (.t 58)), (.eff)⟩] 0)
 (.ret))
 (.skip))))))
 (.region [Op 59 (.bin (.add) (.t 48) (Ci 1)), Mv 48 59])))))))
 (Rg [Mv 60 4, Op 61 (.build [.int (.i64) 0, .int (.i64) 0] []), Mv 2 60, On (.store 2 (.t 3) (.t 61))]
 (.ret)))))⟩
theorem ok50 : compFunc prog glb 50 p50 = some c50 := by kernel_rfl
def p51 : List Plan := [⟨[(2, .quiet [0]), (3, .eff), (4, .quiet [0, 2]), (5, .eff), (6, .alloc 0), (1, .quiet [0, 2, 4]), (0, .quiet [0, 2, 4]), (7, .quiet [4]), (8, .eff), (9, .quiet [9])], 1, [0, 0, 0, 4, 0, 28, 0, 127, 255, 511]⟩, ⟨[(5, .quiet [0]), (6, .quiet [0]), (7, .quiet [0]), (1, .quiet [0]), (2, .quiet [0]), (3, .quiet [0]), (4, .quiet [0]), (8, .eff), (0, .quiet [0, 8]), (9, .quiet [8]), (10, .quiet [8]), (11, .eff)], 0, [0, 0, 2, 6, 14, 0, 32, 96, 254, 511, 1023, 2047]⟩, ⟨[(5, .quiet [0]), (6, .quiet [0]), (4, .quiet [0]), (7, .eff), (0, .quiet [0, 4]), (1, .quiet [0, 4]), (2, .quiet [0, 4]), (3, .quiet [0, 4]), (8, .eff), (9, .quiet [9]), (10, .quiet [9]), (12, .quiet [9]), (11, .quiet [9]), (13, .quiet [9])], 0, [0, 1, 3, 7, 0, 0, 32, 112, 255, 511, 1023, 1023, 2047, 8191]⟩, ⟨[(5, .quiet [0]), (6, .eff), (7, .quiet [0, 2]), (8, .quiet [0, 2]), (9, .quiet [0, 2]), (10, .alloc 0), (4, .quiet [0, 2]), (11, .quiet [2]), (12, .eff), (0, .quiet [0, 2, 9]), (1, .quiet [0, 2, 9]), (2, .quiet [0, 2, 9]), (3, .quiet [0, 2, 9]), (13, .eff)], 1, [0, 1, 3, 7, 0, 0, 32, 0, 128, 384, 896, 2032, 4080, 8191]⟩]
def c51 : CFunc := ⟨89, [.tmp 8],
 Rg [Op 4 (.box (.t 0)), Op 8 (.move (.c (.nilPtr)))]
 (.seq (.draw [⟨2, Mv 16 1, (.quiet [0])⟩,
 ⟨3, Op 17 (Ca 95 [.t 16]), (.eff)⟩,
 ⟨4, Mv 18 3, (.quiet [0, 2])⟩,
 ⟨5, Op 19 (Ca 25 [.t 18]), (.eff)⟩,
 ⟨6, Op 20 (.newMap), (.alloc 0)⟩,
 ⟨1, Mv 15 1, (.quiet [0, 2, 4])⟩,
 ⟨0, Op 14 (.load true 5 (.t 4)), (.quiet [0, 2, 4])⟩,
 ⟨7, Op 21 (.build [.str [], .nilSlice, .nilSlice, .nilSlice, .nilSlice, .nilPtr, .nilSlice, .nilSlice, .nilSlice, .nilPtr, .nilMap, .nilSlice, .int (.i64) 0, .int (.i64) 0] [(0, 5, .t 14), (5, 1, .t 15), (6, 1, .t 17), (8, 1, .t 19), (10, 1, .t 20), (12, 1, Ci 6)]), (.quiet [4])⟩,
 ⟨8, Op 22 (.box (.t 21)), (.eff)⟩,
 ⟨9, Mv 9 22, (.quiet [9])⟩] 1)
 (.seq (Rg [Mv 23 9, Op 24 (.nilCheck (.t 23)), Op 25 (.fieldAddr 6 (.t 24)), Op 26 (.load false 1 (.t 25)), Op 27 (.len (.slice) (.t 26)), Op 28 (.move (Ci 0))]
 (.block 0 (.loop (Rg [Op 29 (.bin (.lss) (.t 28) (.t 27))]
 (.seq (.cond (.t 29) (.skip)
 (.exit 0))
 (.seq (.block 1 (Rg [Op 30 (.indexAddr 2 (.t 26) (.t 28)), Op 31 (.load true 2 (.t 30)), Op 11 (.new [.int (.i64) 0, .int (.i64) 0]), On (.store 2 (.t 11) (.t 31))]
 (.draw [⟨5, Op 37 (.fieldAddr 1 (.t 11)), (.quiet [0])⟩,
 ⟨6, Op 38 (.load false 1 (.t 37)), (.quiet [0])⟩,
 ⟨7, Op 39 (.maxmin true (.t 38) [Ci 1]), (.quiet [0])⟩,
 ⟨1, Mv 33 9, (.quiet [0])⟩,
 ⟨2, Op 34 (.nilCheck (.t 33)), (.quiet [0])⟩,
 ⟨3, Op 35 (.fieldAddr 7 (.t 34)), (.quiet [0])⟩,
 ⟨4, Op 36 (.load false 1 (.t 35)), (.quiet [0])⟩,
 ⟨8, Op 40 (.appendN 1 8 [.int (.i64) 0] (.t 36) (.t 39)), (.eff)⟩,
 ⟨0, Mv 32 9, (.quiet [0, 8])⟩,
 ⟨9, Op 41 (.nilCheck (.t 32)), (.quiet [8])⟩,
 ⟨10, Op 42 (.fieldAddr 7 (.t 41)), (.quiet [8])⟩,
 ⟨11, On (.store 1 (.t 42) (.t 40)), (.eff)⟩] 0)))
 (.region [Op 43 (.bin (.add) (.t 28) (Ci 1)), Mv 28 43])))))))
 (Rg [Mv 45 9, Mv 46 1, Op 47 (Ca 97 [.t 46]), Mv 48 1, Op 49 (Ca 98 [.t 48]), Mv 50 1, Op 51 (Ca 99 [.t 50]), Mv 52 2, Op 53 (Ca 96 [.t 47, .t 49, .t 51, Ci 32, .t 52]), Mv 44 53, Op 54 (.extract (.t 44) 0), Op 55 (.extract (.t 44) 1), Op 56 (.nilCheck (.t 45)), Op 57 (.fieldAddr 9 (.t 56)), On (.store 1 (.t 57) (.t 54))]
 (.seq (.draw [⟨5, Op 64 (.fieldAddr 3 (.t 4)), (.quiet [0])⟩,
 ⟨6, Op 65 (.load false 1 (.t 64)), (.quiet [0])⟩,
 ⟨4, Mv 63 9, (.quiet [0])⟩,
 ⟨7, Op 66 (Ca 101 [.t 63, .t 65]), (.eff)⟩,
 ⟨0, Mv 59 9, (.quiet [0, 4])⟩,
 ⟨1, Op 60 (.nilCheck (.t 59)), (.quiet [0, 4])⟩,
 ⟨2, Op 61 (.fieldAddr 9 (.t 60)), (.quiet [0, 4])⟩,
 ⟨3, Op 62 (.load false 1 (.t 61)), (.quiet [0, 4])⟩,
 ⟨8, Op 67 (Ca 100 [.t 62, .t 66]), (.eff)⟩,
 ⟨9, Mv 58 67, (.quiet [9])⟩,
 ⟨10, Op 68 (.extract (.t 58) 0), (.quiet [9])⟩,
 ⟨12, Mv 12 68, (.quiet [9])⟩,
 ⟨11, Op 69 (.extract (.t 58) 1), (.quiet [9])⟩,
 ⟨13, Mv 13 69, (.quiet [9])⟩] 0)
 (.seq (.draw [⟨5, Op 75 (.build [.int (.i64) 0, .nilSlice] []), (.quiet [0])⟩,
 ⟨6, Op 76 (.buildSlice [.int (.i64) 0, .nilSlice] 1 [(0, 2, .t 75)]), (.eff)⟩,
 ⟨7, Op 77 (.fieldAddr 4 (.t 4)), (.quiet [0, 2])⟩,
 ⟨8, Op 78 (.load false 1 (.t 77)), (.quiet [0, 2])⟩,
 ⟨9, Op 79 (.iface 86 (.t 78)), (.quiet [0, 2])⟩,
 ⟨10, Op 80 (.buildSlice [.nilIface] 1 [(0, 1, .t 79)]), (.alloc 0)⟩,
 ⟨4, Mv 74 9, (.quiet [0, 2])⟩,
 ⟨11, Op 81 (.build [.nilPtr, .int (.i64) 0, .nilSlice, .nilSlice, .nilSlice] [(0, 1, .t 74), (1, 1, Ci 1), (3, 1, .t 76), (4, 1, .t 80)]), (.quiet [2])⟩,
 ⟨12, Op 82 (.box (.t 81)), (.eff)⟩,
 ⟨0, Mv 70 9, (.quiet [0, 2, 9])⟩,
 ⟨1, Op 71 (.nilCheck (.t 70)), (.quiet [0, 2, 9])⟩,
 ⟨2, Op 72 (.fieldAddr 10 (.t 71)), (.quiet [0, 2, 9])⟩,
 ⟨3, Op 73 (.load false 1 (.t 72)), (.quiet [0, 2, 9])⟩,
 ⟨13, On (.mapUpdate (.one (.int)) (.t 73) (Ci 1) (.t 82)), (.eff)⟩] 1)
 (Rg [Mv 83 9, Mv 84 12, Op 85 (Ca 17 [.t 83, .t 84])]
 (Rg [Mv 86 9, Op 87 (Ca 20 [.t 86])]
 (Rg [Mv 88 9, Mv 8 88]
 (.ret)))))))))⟩
theorem ok51 : compFunc prog glb 51 p51 = some c51 := by kernel_rfl
def p52 : List Plan := [⟨[(2, .quiet [0]), (3, .eff), (4, .quiet [0, 2]), (5, .eff), (7, .quiet [0, 2, 4]), (8, .eff), (6, .alloc 0), (1, .quiet [0, 2, 4, 6]), (0, .quiet [0, 2, 4, 6]), (9, .quiet [6]), (10, .eff), (11, .quiet [11])], 1, [0, 0, 0, 4, 0, 28, 60, 0, 188, 511, 1023, 2047]⟩, ⟨[(5, .quiet [0]), (6, .quiet [0]), (4, .quiet [0]), (7, .eff), (0, .quiet [0, 4]), (1, .quiet [0, 4]), (2, .quiet [0, 4]), (3, .quiet [0, 4]), (8, .eff), (9, .quiet [9]), (10, .quiet [9]), (12, .quiet [9]), (11, .quiet [9]), (13, .quiet [9])], 0, [0, 1, 3, 7, 0, 0, 32, 112, 255, 511, 1023, 1023, 2047, 8191]⟩]
def c52 : CFunc := ⟨69, [.tmp 8],
 Rg [Op 4 (.box (.t 0)), Op 8 (.move (.c (.nilPtr)))]
 (.seq (.draw [⟨2, Mv 14 1, (.quiet [0])⟩,
 ⟨3, Op 15 (Ca 102 [.t 14]), (.eff)⟩,
 ⟨4, Mv 16 1, (.quiet [0, 2])⟩,
 ⟨5, Op 17 (Ca 103 [.t 16]), (.eff)⟩,
 ⟨7, Mv 19 3, (.quiet [0, 2, 4])⟩,
 ⟨8, Op 20 (Ca 104 [.t 19]), (.eff)⟩,
 ⟨6, Op 18 (.makeSlice [.int (.i64) 0] 8 (.t 17) (.t 17)), (.alloc 0)⟩,
 ⟨1, Mv 13 1, (.quiet [0, 2, 4, 6])⟩,
 ⟨0, Op 12 (.load true 5 (.t 4)), (.quiet [0, 2, 4, 6])⟩,
 ⟨9, Op 21 (.build [.str [], .nilSlice, .nilSlice, .nilSlice, .nilSlice, .nilPtr, .nilPtr, .nilSlice, .nilSlice, .nilSlice, .nilSlice, .nilSlice, .int (.i64) 0, .int (.i64) 0, .bool false] [(0, 5, .t 12), (5, 1, .t 13), (9, 1, .t 15), (8, 1, .t 18), (10, 1, .t 20), (13, 1, Ci 6)]), (.quiet [6])⟩,
 ⟨10, Op 22 (.box (.t 21)), (.eff)⟩,
 ⟨11, Mv 9 22, (.quiet [11])⟩] 1)
 (Rg [Mv 24 9, Mv 25 1, Op 26 (Ca 106 [.t 25, Ci 2]), Mv 27 1, Op 28 (Ca 106 [.t 27, Ci 3]), Op 29 (.len (.slice) (.t 28)), Mv 30 1, Op 31 (Ca 106 [.t 30, Ci 1]), Mv 32 2, Op 33 (Ca 105 [.t 26, .t 29, .t 31, Ci 32, .t 32]), Mv 23 33, Op 34 (.extract (.t 23) 0), Op 35 (.extract (.t 23) 1), Op 36 (.nilCheck (.t 24)), Op 37 (.fieldAddr 6 (.t 36)), On (.store 1 (.t 37) (.t 34))]
 (.seq (.draw [⟨5, Op 44 (.fieldAddr 3 (.t 4)), (.quiet [0])⟩,
 ⟨6, Op 45 (.load false 1 (.t 44)), (.quiet [0])⟩,
 ⟨4, Mv 43 1, (.quiet [0])⟩,
 ⟨7, Op 46 (Ca 108 [.t 43, .t 45]), (.eff)⟩,
 ⟨0, Mv 39 9, (.quiet [0, 4])⟩,
 ⟨1, Op 40 (.nilCheck (.t 39)), (.quiet [0, 4])⟩,
 ⟨2, Op 41 (.fieldAddr 6 (.t 40)), (.quiet [0, 4])⟩,
 ⟨3, Op 42 (.load false 1 (.t 41)), (.quiet [0, 4])⟩,
 ⟨8, Op 47 (Ca 107 [.t 42, .t 46]), (.eff)⟩,
 ⟨9, Mv 38 47, (.quiet [9])⟩,
 ⟨10, Op 48 (.extract (.t 38) 0), (.quiet [9])⟩,
 ⟨12, Mv 10 48, (.quiet [9])⟩,
 ⟨11, Op 49 (.extract (.t 38) 1), (.quiet [9])⟩,
 ⟨13, Mv 11 49, (.quiet [9])⟩] 0)
 (Rg [Mv 50 9, Op 51 (.build [.int (.i64) 0, .int (.i64) 0, .int (.i64) 0, .int (.i64) 0, .int (.i64) 0, .str [], .nilSlice, .int (.i64) 0, .int (.i64) 0, .str [], .nilSlice, .nilSlice, .nilSlice, .nilSlice, .nilSlice, .nilSlice, .int (.i64) 0] [(0, 1, Ci 15)]), Op 52 (.fieldAddr 4 (.t 4)), Op 53 (.load false 1 (.t 52)), Op 54 (.build [.int (.i64) 0, .int (.i64) 0, .int (.i64) 0, .int (.i64) 0, .int (.i64) 0, .str [], .nilSlice, .int (.i64) 0, .int (.i64) 0, .str [], .nilSlice, .nilSlice, .nilSlice, .nilSlice, .nilSlice, .nilSlice, .int (.i64) 0] [(0, 1, Ci 2), (15, 1, .t 53)]), Op 55 (.buildSlice [.int (.i64) 0, .int (.i64) 0, .int (.i64) 0, .int (.i64) 0, .int (.i64) 0, .str [], .nilSlice, .int (.i64) 0, .int (.i64) 0, .str [], .nilSlice, .nilSlice, .nilSlice, .nilSlice, .nilSlice, .nilSlice, .int (.i64) 0] 2 [(0, 17, .t 51), (17, 17, .t 54)]), Op 56 (.buildSlice [.nilSlice] 1 [(0, 1, .c (.nilSlice))]), Op 57 (.buildSlice [.int (.i64) 0] 1 [(0, 1, Ci 0)]), Op 58 (.build [.nilSlice, .nilSlice, .nilSlice, .nilSlice] [(0, 1, .t 55), (2, 1, .t 56), (3, 1, .t 57)]), Op 59 (.box (.t 58)), Op 60 (.buildSlice [.nilPtr] 1 [(0, 1, .t 59)]), Op 61 (.nilCheck (.t 50)), Op 62 (.fieldAddr 7 (.t 61)), On (.store 1 (.t 62) (.t 60))]
 (Rg [Mv 63 9, Mv 64 10, Op 65 (Ca 109 [.t 63, .t 64])]
 (Rg [Mv 66 9, Op 67 (Ca 110 [.t 66])]
 (Rg [Mv 68 9, Mv 8 68]
 (.ret))))))))⟩
theorem ok52 : compFunc prog glb 52 p52 = some c52 := by kernel_rfl
def p53 : List Plan := [⟨[(5, .quiet [0]), (4, .quiet [0]), (6, .quiet [0]), (7, .quiet [0]), (1, .quiet [0]), (0, .quiet [0]), (2, .quiet [0]), (3, .quiet [0]), (8, .quiet [0])], 0, [0, 0, 3, 7, 0, 0, 48, 112, 255]⟩]
def c53 : CFunc := ⟨26, [.tmp 4],
 Rg [Op 4 (.move (.c (.bool false)))]
 (.seq (Rg [Mv 6 0, Op 7 (.len (.slice) (.t 6)), Mv 8 1, Op 9 (.len (.slice) (.t 8)), Op 10 (.bin (.gtr) (.t 7) (.t 9))]
 (.cond (.t 10) (Rg [Op 4 (.move (.c (.bool false)))]
 (.ret))
 (.skip)))
 (.seq (Rg [Op 5 (.move (Ci 0))]
 (.block 0 (.loop (.seq (Rg [Mv 11 5, Mv 12 0, Op 13 (.len (.slice) (.t 12)), Op 14 (.bin (.lss) (.t 11) (.t 13))]
 (.cond (.t 14) (.skip)
 (.exit 0)))
 (.seq (.block 1 (.seq (.draw [⟨5, Mv 22 5, (.quiet [0])⟩,
 ⟨4, Mv 21 1, (.quiet [0])⟩,
 ⟨6, Op 23 (.indexAddr 5 (.t 21) (.t 22)), (.quiet [0])⟩,
 ⟨7, Op 24 (.load true 5 (.t 23)), (.quiet [0])⟩,
 ⟨1, Mv 18 5, (.quiet [0])⟩,
 ⟨0, Mv 17 0, (.quiet [0])⟩,
 ⟨2, Op 19 (.indexAddr 5 (.t 17) (.t 18)), (.quiet [0])⟩,
 ⟨3, Op 20 (.load true 5 (.t 19)), (.quiet [0])⟩,
 ⟨8, Op 25 (.eqS [.int, .int, .int, .int, .int] true (.t 20) (.t 24)), (.quiet [0])⟩] 0)
 (.cond (.t 25) (Rg [Op 4 (.move (.c (.bool false)))]
 (.ret))
 (.skip))))
 (.region [Mv 15 5, Op 16 (.bin (.add) (.t 15) (Ci 1)), Mv 5 16]))))))
 (Rg [Op 4 (.move (.c (.bool true)))]
 (.ret))))⟩
theorem ok53 : compFunc prog glb 53 p53 = some c53 := by kernel_rfl
def p54 : List Plan := []
def c54 : CFunc := ⟨30, [.tmp 2],
 Rg [Op 2 (.move (Ci 0))]
 (Rg [Mv 5 0, Op 6 (.nilCheck (.t 5)), Op 7 (.fieldAddr 2 (.t 6)), Op 8 (.load false 1 (.t 7)), Op 9 (.len (.slice) (.t 8)), Op 10 (.bin (.sub) (.t 9) (Ci 1)), Mv 3 10]
 (.seq (Rg [Mv 11 3, Op 12 (.bin (.lss) (.t 11) (Ci 0))]
 (.cond (.t 12) (Rg [Op 2 (.move (Ci 0))]
 (.ret))
 (.skip)))
 (Rg [Mv 13 0, Op 14 (.nilCheck (.t 13)), Op 15 (.fieldAddr 2 (.t 14)), Op 16 (.load false 1 (.t 15)), Mv 17 3, Op 18 (.indexAddr 1 (.t 16) (.t 17)), Op 19 (.load false 1 (.t 18)), Mv 4 19]
 (Rg [Mv 20 0, Mv 21 0, Op 22 (.nilCheck (.t 21)), Op 23 (.fieldAddr 2 (.t 22)), Op 24 (.load false 1 (.t 23)), Mv 25 3, Op 26 (.slice 1 (.t 24) none (some (.t 25)) none), Op 27 (.nilCheck (.t 20)), Op 28 (.fieldAddr 2 (.t 27)), On (.store 1 (.t 28) (.t 26))]
 (Rg [Mv 29 4, Mv 2 29]
 (.ret))))))⟩
theorem ok54 : compFunc prog glb 54 p54 = some c54 := by kernel_rfl
def p55 : List Plan := [⟨[(12, .eff), (4, .quiet [0, 1]), (5, .quiet [0, 1]), (6, .quiet [0, 1]), (7, .quiet [0, 1]), (8, .quiet [0, 1]), (9, .quiet [0, 1]), (0, .quiet [0, 1]), (1, .quiet [0, 1]), (2, .quiet [0, 1]), (3, .quiet [0, 1]), (10, .quiet [0, 1]), (11, .quiet [0, 1]), (13, .eff)], 0, [0, 1, 3, 7, 0, 16, 48, 112, 240, 496, 1023, 2047, 0, 8191]⟩, ⟨[(9, .quiet [0]), (7, .quiet [0]), (8, .quiet [0]), (0, .quiet [0]), (1, .quiet [0]), (2, .quiet [0]), (3, .quiet [0]), (4, .quiet [0]), (5, .quiet [0]), (6, .quiet [0]), (10, .eff), (11, .quiet [11]), (12, .quiet [11]), (14, .quiet [11]), (13, .quiet [11]), (15, .quiet [11])], 0, [0, 1, 3, 7, 15, 31, 63, 0, 128, 0, 1023, 2047, 4095, 4095, 8191, 32767]⟩, ⟨[(0, .quiet [0]), (1, .quiet [0]), (2, .quiet [0]), (5, .quiet [0]), (6, .quiet [0]), (7, .quiet [0]), (8, .quiet [0]), (9, .quiet [0]), (10, .quiet [0]), (11, .quiet [0]), (12, .quiet [0]), (3, .quiet [0]), (4, .quiet [0]), (13, .quiet [0]), (14, .quiet [0]), (15, .quiet [0]), (16, .quiet [0]), (17, .quiet [0]), (18, .quiet [0]), (19, .quiet [0]), (21, .quiet [0]), (22, .quiet [0]), (23, .quiet [0]), (20, .quiet [0]), (24, .quiet [0]), (25, .quiet [0])], 0, [0, 1, 3, 7, 15, 7, 39, 103, 231, 487, 999, 2023, 4071, 8191, 16383, 32767, 65535, 131071, 262143, 524287, 1048575, 1048575, 3145727, 7340031, 16777215, 33554431]⟩, ⟨[(19, .quiet [0]), (14, .quiet [0]), (15, .quiet [0]), (7, .quiet [0]), (8, .quiet [0]), (9, .quiet [0]), (10, .quiet [0]), (11, .quiet [0]), (12, .quiet [0]), (13, .quiet [0]), (16, .quiet [0]), (17, .quiet [0]), (18, .quiet [0]), (20, .quiet [0]), (0, .quiet [0]), (1, .quiet [0]), (2, .quiet [0]), (3, .quiet [0]), (4, .quiet [0]), (5, .quiet [0]), (6, .quiet [0]), (21, .quiet [0]), (22, .quiet [0]), (23, .quiet [0])], 0, [0, 1, 3, 7, 15, 31, 63, 0, 128, 384, 896, 1920, 3968, 8064, 0, 16384, 65408, 130944, 262016, 0, 1048448, 2097151, 4194303, 8388607]⟩]
def c55 : CFunc := ⟨111, [.tmp 6, .tmp 7],
 Rg [Op 6 (.move (.c (.nilPtr))), Op 7 (.move (Ci 0))]
 (.seq (.draw [⟨12, Op 8 (.new [.int (.i64) 0, .nilSlice]), (.eff)⟩,
 ⟨4, Mv 17 0, (.quiet [0, 1])⟩,
 ⟨5, Op 18 (.nilCheck (.t 17)), (.quiet [0, 1])⟩,
 ⟨6, Op 19 (.fieldAddr 3 (.t 18)), (.quiet [0, 1])⟩,
 ⟨7, Op 20 (.load false 1 (.t 19)), (.quiet [0, 1])⟩,
 ⟨8, Op 21 (.len (.slice) (.t 20)), (.quiet [0, 1])⟩,
 ⟨9, Op 22 (.bin (.sub) (.t 21) (Ci 1)), (.quiet [0, 1])⟩,
 ⟨0, Mv 13 0, (.quiet [0, 1])⟩,
 ⟨1, Op 14 (.nilCheck (.t 13)), (.quiet [0, 1])⟩,
 ⟨2, Op 15 (.fieldAddr 3 (.t 14)), (.quiet [0, 1])⟩,
 ⟨3, Op 16 (.load false 1 (.t 15)), (.quiet [0, 1])⟩,
 ⟨10, Op 23 (.indexAddr 2 (.t 16) (.t 22)), (.quiet [0, 1])⟩,
 ⟨11, Op 24 (.load true 2 (.t 23)), (.quiet [0, 1])⟩,
 ⟨13, On (.store 2 (.t 8) (.t 24)), (.eff)⟩] 0)
 (.seq (.seq (.draw [⟨9, Mv 35 1, (.quiet [0])⟩,
 ⟨7, Op 33 (.fieldAddr 0 (.t 8)), (.quiet [0])⟩,
 ⟨8, Op 34 (.load false 1 (.t 33)), (.quiet [0])⟩,
 ⟨0, Mv 26 0, (.quiet [0])⟩,
 ⟨1, Op 27 (.nilCheck (.t 26)), (.quiet [0])⟩,
 ⟨2, Op 28 (.fieldAddr 0 (.t 27)), (.quiet [0])⟩,
 ⟨3, Op 29 (.load false 1 (.t 28)), (.quiet [0])⟩,
 ⟨4, Op 30 (.nilCheck (.t 29)), (.quiet [0])⟩,
 ⟨5, Op 31 (.fieldAddr 5 (.t 30)), (.quiet [0])⟩,
 ⟨6, Op 32 (.load false 1 (.t 31)), (.quiet [0])⟩,
 ⟨10, Op 36 (Ca 111 [.t 32, .t 34, .t 35]), (.eff)⟩,
 ⟨11, Mv 25 36, (.quiet [11])⟩,
 ⟨12, Op 37 (.extract (.t 25) 0), (.quiet [11])⟩,
 ⟨14, Mv 9 37, (.quiet [11])⟩,
 ⟨13, Op 38 (.extract (.t 25) 1), (.quiet [11])⟩,
 ⟨15, Mv 10 38, (.quiet [11])⟩] 0)
 (Rg [Mv 39 10, Mv 40 39, Mt 41 9 40, Ot 42 (.fieldAddr 1 (.t 8)) 40, Ot 43 (.load false 1 (.t 42)) 40, Ot 44 (.len (.slice) (.t 43)) 40, Ot 45 (.bin (.lss) (.t 41) (.t 44)) 40, Op 46 (.pick (.t 40) (.t 45) (.c (.bool false)))]
 (.cond (.t 46) (Rg [Op 47 (.fieldAddr 1 (.t 8)), Op 48 (.load false 1 (.t 47)), Mv 49 9, Op 50 (.indexAddr 1 (.t 48) (.t 49)), Mv 6 50, Op 7 (.move (Ci 0))]
 (.ret))
 (.skip))))
 (Rg [Mv 52 0, Op 53 (.nilCheck (.t 52)), Op 54 (.fieldAddr 0 (.t 53)), Op 55 (.load false 1 (.t 54)), Op 56 (.nilCheck (.t 55)), Op 57 (.fieldAddr 5 (.t 56)), Op 58 (.load false 1 (.t 57)), Mv 59 1, Op 60 (Ca 112 [.t 58, .t 59]), Mv 51 60, Op 61 (.extract (.t 51) 0), Op 62 (.extract (.t 51) 1), Op 11 (.new [.int (.i64) 0, .int (.i64) 0, .int (.i64) 0]), On (.store 3 (.t 11) (.t 61)), Mv 12 62]
 (.seq (.seq (.draw [⟨0, Mv 63 12, (.quiet [0])⟩,
 ⟨1, Op 64 (.un (.not) (.t 63)), (.quiet [0])⟩,
 ⟨2, Mv 65 64, (.quiet [0])⟩,
 ⟨5, Mf 68 0 65, (.quiet [0])⟩,
 ⟨6, Of 69 (.nilCheck (.t 68)) 65, (.quiet [0])⟩,
 ⟨7, Of 70 (.fieldAddr 0 (.t 69)) 65, (.quiet [0])⟩,
 ⟨8, Of 71 (.load false 1 (.t 70)) 65, (.quiet [0])⟩,
 ⟨9, Of 72 (.nilCheck (.t 71)) 65, (.quiet [0])⟩,
 ⟨10, Of 73 (.fieldAddr 6 (.t 72)) 65, (.quiet [0])⟩,
 ⟨11, Of 74 (.load false 1 (.t 73)) 65, (.quiet [0])⟩,
 ⟨12, Of 75 (.len (.slice) (.t 74)) 65, (.quiet [0])⟩,
 ⟨3, Of 66 (.fieldAddr 1 (.t 11)) 65, (.quiet [0])⟩,
 ⟨4, Of 67 (.load false 1 (.t 66)) 65, (.quiet [0])⟩,
 ⟨13, Of 76 (.bin (.geq) (.t 67) (.t 75)) 65, (.quiet [0])⟩,
 ⟨14, Op 77 (.pick (.t 65) (.c (.bool true)) (.t 76)), (.quiet [0])⟩,
 ⟨15, Mv 78 77, (.quiet [0])⟩,
 ⟨16, Mf 79 2 78, (.quiet [0])⟩,
 ⟨17, Of 80 (.bin (.lss) (.t 79) (Ci 0)) 78, (.quiet [0])⟩,
 ⟨18, Op 81 (.pick (.t 78) (.c (.bool true)) (.t 80)), (.quiet [0])⟩,
 ⟨19, Mv 82 81, (.quiet [0])⟩,
 ⟨21, Of 84 (.fieldAddr 2 (.t 11)) 82, (.quiet [0])⟩,
 ⟨22, Of 85 (.load false 1 (.t 84)) 82, (.quiet [0])⟩,
 ⟨23, Of 86 (.maxmin true (.t 85) [Ci 1]) 82, (.quiet [0])⟩,
 ⟨20, Mf 83 2 82, (.quiet [0])⟩,
 ⟨24, Of 87 (.bin (.geq) (.t 83) (.t 86)) 82, (.quiet [0])⟩,
 ⟨25, Op 88 (.pick (.t 82) (.c (.bool true)) (.t 87)), (.quiet [0])⟩] 0)
 (.cond (.t 88) (Rg [Op 6 (.move (.c (.nilPtr))), Op 7 (.move (Ci 33))]
 (.ret))
 (.skip)))
 (.seq (.draw [⟨19, Mv 108 2, (.quiet [0])⟩,
 ⟨14, Op 103 (.fieldAddr 1 (.t 11)), (.quiet [0])⟩,
 ⟨15, Op 104 (.load false 1 (.t 103)), (.quiet [0])⟩,
 ⟨7, Mv 96 0, (.quiet [0])⟩,
 ⟨8, Op 97 (.nilCheck (.t 96)), (.quiet [0])⟩,
 ⟨9, Op 98 (.fieldAddr 0 (.t 97)), (.quiet [0])⟩,
 ⟨10, Op 99 (.load false 1 (.t 98)), (.quiet [0])⟩,
 ⟨11, Op 100 (.nilCheck (.t 99)), (.quiet [0])⟩,
 ⟨12, Op 101 (.fieldAddr 6 (.t 100)), (.quiet [0])⟩,
 ⟨13, Op 102 (.load false 1 (.t 101)), (.quiet [0])⟩,
 ⟨16, Op 105 (.indexAddr 2 (.t 102) (.t 104)), (.quiet [0])⟩,
 ⟨17, Op 106 (.fieldAddr 0 (.t 105)), (.quiet [0])⟩,
 ⟨18, Op 107 (.load false 1 (.t 106)), (.quiet [0])⟩,
 ⟨20, Op 109 (.bin (.add) (.t 107) (.t 108)), (.quiet [0])⟩,
 ⟨0, Mv 89 0, (.quiet [0])⟩,
 ⟨1, Op 90 (.nilCheck (.t 89)), (.quiet [0])⟩,
 ⟨2, Op 91 (.fieldAddr 0 (.t 90)), (.quiet [0])⟩,
 ⟨3, Op 92 (.load false 1 (.t 91)), (.quiet [0])⟩,
 ⟨4, Op 93 (.nilCheck (.t 92)), (.quiet [0])⟩,
 ⟨5, Op 94 (.fieldAddr 7 (.t 93)), (.quiet [0])⟩,
 ⟨6, Op 95 (.load false 1 (.t 94)), (.quiet [0])⟩,
 ⟨21, Op 110 (.indexAddr 1 (.t 95) (.t 109)), (.quiet [0])⟩,
 ⟨22, Mv 6 110, (.quiet [0])⟩,
 ⟨23, Op 7 (.move (Ci 0)), (.quiet [0])⟩] 0)
 (.ret))))))⟩
theorem ok55 : compFunc prog glb 55 p55 = some c55 := by kernel_rfl
def p56 : List Plan := []
def c56 : CFunc := ⟨20, [.tmp 6],
 Rg [Op 6 (.move (Ci 0))]
 (.seq (Rg [Mv 7 2, Op 8 (.bin (.eql) (.t 7) (Ci 0))]
 (.cond (.t 8) (.region [Mv 9 0, Mv 10 0, Op 11 (.nilCheck (.t 10)), Op 12 (.fieldAddr 2 (.t 11)), Op 13 (.load false 1 (.t 12)), Mv 14 1, Op 15 (.buildSlice [.int (.i64) 0] 1 [(0, 1, .t 14)]), Op 16 (.append 1 8 (.t 13) (.t 15)), Op 17 (.nilCheck (.t 9)), Op 18 (.fieldAddr 2 (.t 17)), On (.store 1 (.t 18) (.t 16))])
 (.skip)))
 (Rg [Mv 19 2, Mv 6 19]
 (.ret)))⟩
theorem ok56 : compFunc prog glb 56 p56 = some c56 := by kernel_rfl
def p57 : List Plan := []
def c57 : CFunc := ⟨56, [.tmp 6, .tmp 7],
 Rg [Op 6 (.move (Ci 0)), Op 7 (.move (Ci 0))]
 (.seq (Rg [Mv 8 0]
 (.block 0 (Rg [Op 10 (.bin (.eql) (.t 8) (Ci 9)), Mv 9 10]
 (.cond (.t 9) (Rg [Mv 11 1, Mv 12 2, Op 13 (Ca 113 [.t 11, .t 12]), Op 14 (.extract (.t 13) 0), Op 15 (.extract (.t 13) 1), Mv 6 14, Mv 7 15]
 (.ret))
 (Rg [Op 17 (.bin (.eql) (.t 8) (Ci 10)), Mv 16 17]
 (.cond (.t 16) (Rg [Mv 18 1, Mv 19 2, Op 20 (Ca 114 [.t 18, .t 19]), Op 21 (.extract (.t 20) 0), Op 22 (.extract (.t 20) 1), Mv 6 21, Mv 7 22]
 (.ret))
 (Rg [Op 24 (.bin (.eql) (.t 8) (Ci 11)), Mv 23 24]
 (.cond (.t 23) (Rg [Mv 25 1, Mv 26 2, Op 27 (Ca 115 [.t 25, .t 26]), Op 28 (.extract (.t 27) 0), Op 29 (.extract (.t 27) 1), Mv 6 28, Mv 7 29]
 (.ret))
 (Rg [Op 31 (.bin (.eql) (.t 8) (Ci 12)), Mv 30 31]
 (.cond (.t 30) (Rg [Mv 32 1, Mv 33 2, Op 34 (Ca 116 [.t 32, .t 33]), Op 35 (.extract (.t 34) 0), Op 36 (.extract (.t 34) 1), Mv 6 35, Mv 7 36]
 (.ret))
 (Rg [Op 38 (.bin (.eql) (.t 8) (Ci 13)), Mv 37 38]
 (.cond (.t 37) (Rg [Mv 39 1, Mv 40 2, Op 41 (Ca 117 [.t 39, .t 40]), Op 42 (.extract (.t 41) 0), Op 43 (.extract (.t 41) 1), Mv 6 42, Mv 7 43]
 (.ret))
 (Rg [Op 45 (.bin (.eql) (.t 8) (Ci 14)), Mv 44 45]
 (.cond (.t 44) (Rg [Mv 46 1, Op 47 (Ca 118 [.t 46]), Op 48 (.extract (.t 47) 0), Op 49 (.extract (.t 47) 1), Mv 6 48, Mv 7 49]
 (.ret))
 (.skip)))))))))))))))
 (Rg [Mv 50 0, Mv 51 1, Mv 52 2, Op 53 (Ca 119 [.t 50, .t 51, .t 52]), Op 54 (.extract (.t 53) 0), Op 55 (.extract (.t 53) 1), Mv 6 54, Mv 7 55]
 (.ret)))⟩
theorem ok57 : compFunc prog glb 57 p57 = some c57 := by kernel_rfl
def p58 : List Plan := []
def c58 : CFunc := ⟨4, [.tmp 2, .tmp 3],
 Rg [Op 2 (.move (.c (.nilSlice))), Op 3 (.move (Ci 0))]
 (Rg [Op 2 (.move (.c (.nilSlice))), Op 3 (.move (Ci 0))]
 (.ret))⟩
theorem ok58 : compFunc prog glb 58 p58 = some c58 := by kernel_rfl
def p59 : List Plan := []
def c59 : CFunc := ⟨6, [.tmp 4],
 Rg [Op 2 (.box (.t 0)), Op 3 (.box (.t 1)), Op 4 (.move (.c (.nilFunc)))]
 (Rg [Op 5 (.func 120 [] [.t 3, .t 2]), Mv 4 5]
 (.ret))⟩
theorem ok59 : compFunc prog glb 59 p59 = some c59 := by kernel_rfl
def p60 : List Plan := [⟨[(0, .quiet [0]), (1, .quiet [0]), (2, .eff), (4, .quiet [0, 3]), (5, .quiet [0, 3]), (6, .quiet [0, 3]), (7, .alloc 0), (3, .quiet [0, 3]), (8, .eff), (9, .quiet [9]), (10, .eff), (11, .eff), (12, .quiet [12])], 1, [0, 1, 3, 0, 0, 16, 48, 112, 255, 511, 1023, 2047, 4095]⟩]
def c60 : CFunc := ⟨42, [.tmp 2],
 Rg [Op 1 (.box (.t 0)), Op 2 (.move (.c (.nilSlice)))]
 (Rg [Op 4 (.fieldAddr 4 (.t 1)), Op 5 (.load false 1 (.t 4)), Op 6 (.iface 86 (.t 5)), Op 7 (.buildSlice [.nilIface] 1 [(0, 1, .t 6)]), Mv 3 7]
 (.seq (.block 0 (Rg [Op 9 (.fieldAddr 0 (.t 1)), Op 10 (.load false 1 (.t 9)), Op 11 (.bin (.eql) (.t 10) (Ci 5)), Mv 8 11]
 (.cond (.t 8) (.region [Mv 12 3, Op 13 (.load true 8 (.t 1)), Op 14 (.buildSlice [.int (.i64) 0, .int (.i64) 0, .str [], .nilSlice, .nilSlice, .nilSlice, .nilSlice, .nilSlice] 1 [(0, 8, .t 13)]), Op 15 (.iface 86 (.t 14)), Op 16 (.buildSlice [.nilIface] 1 [(0, 1, .t 15)]), Op 17 (Ca 121 [.t 16]), Op 18 (.iface 78 (.t 17)), Op 19 (.buildSlice [.nilIface] 1 [(0, 1, .t 18)]), Op 20 (.append 1 16 (.t 12) (.t 19)), Mv 3 20])
 (Rg [Op 22 (.fieldAddr 5 (.t 1)), Op 23 (.load false 1 (.t 22)), Op 24 (.len (.slice) (.t 23)), Op 25 (.bin (.gtr) (.t 24) (Ci 0)), Mv 21 25]
 (.cond (.t 21) (.region [Mv 26 3, Op 27 (.iface 78 (.c (.func 58 [] []))), Op 28 (.buildSlice [.nilIface] 1 [(0, 1, .t 27)]), Op 29 (.append 1 16 (.t 26) (.t 28)), Mv 3 29])
 (.skip))))))
 (.seq (.draw [⟨0, Op 30 (.fieldAddr 3 (.t 1)), (.quiet [0])⟩,
 ⟨1, Op 31 (.load false 1 (.t 30)), (.quiet [0])⟩,
 ⟨2, Op 32 (Ca 31 [.t 31]), (.eff)⟩,
 ⟨4, Op 34 (.fieldAddr 5 (.t 1)), (.quiet [0, 3])⟩,
 ⟨5, Op 35 (.load false 1 (.t 34)), (.quiet [0, 3])⟩,
 ⟨6, Op 36 (.iface 86 (.t 35)), (.quiet [0, 3])⟩,
 ⟨7, Op 37 (.buildSlice [.nilIface] 1 [(0, 1, .t 36)]), (.alloc 0)⟩,
 ⟨3, Mv 33 3, (.quiet [0, 3])⟩,
 ⟨8, Op 38 (Ca 122 [.t 33, .t 37]), (.eff)⟩,
 ⟨9, Op 39 (.iface 78 (.t 38)), (.quiet [9])⟩,
 ⟨10, Op 40 (.buildSlice [.nilIface] 1 [(0, 1, .t 39)]), (.eff)⟩,
 ⟨11, Op 41 (.append 1 16 (.t 32) (.t 40)), (.eff)⟩,
 ⟨12, Mv 2 41, (.quiet [12])⟩] 1)
 (.ret))))⟩
theorem ok60 : compFunc prog glb 60 p60 = some c60 := by kernel_rfl
def p61 : List Plan := []
def c61 : CFunc := ⟨4, [.tmp 2],
 Rg [Op 1 (.box (.t 0)), Op 2 (.move (.c (.nilFunc)))]
 (Rg [Op 3 (.func 123 [] [.t 1]), Mv 2 3]
 (.ret))⟩
theorem ok61 : compFunc prog glb 61 p61 = some c61 := by kernel_rfl
def p62 : List Plan := []
def c62 : CFunc := ⟨4, [.tmp 2],
 Rg [Op 1 (.box (.t 0)), Op 2 (.move (.c (.nilFunc)))]
 (Rg [Op 3 (.func 128 [] [.t 1]), Mv 2 3]
 (.ret))⟩
theorem ok62 : compFunc prog glb 62 p62 = some c62 := by kernel_rfl
def p63 : List Plan := []
def c63 : CFunc := ⟨4, [.tmp 2],
 Rg [Op 1 (.box (.t 0)), Op 2 (.move (.c (.nilFunc)))]
 (Rg [Op 3 (.func 130 [] [.t 1]), Mv 2 3]
 (.ret))⟩
theorem ok63 : compFunc prog glb 63 p63 = some c63 := by kernel_rfl
def p64 : List Plan := [⟨[(7, .quiet [0]), (8, .quiet [0]), (0, .quiet [0]), (1, .quiet [0]), (2, .quiet [0]), (3, .quiet [0]), (4, .quiet [0]), (5, .quiet [0]), (6, .quiet [0]), (9, .eff), (13, .alloc 0), (10, .quiet [10]), (11, .quiet [10]), (14, .eff), (12, .quiet [10, 14]), (15, .quiet [14])], 1, [0, 1, 3, 7, 15, 31, 63, 0, 128, 511, 1023, 2047, 2047, 0, 12287, 32767]⟩, ⟨[(1, .quiet [0]), (2, .quiet [0]), (3, .eff), (0, .quiet [0, 3]), (4, .eff), (6, .quiet [0, 3, 5]), (5, .quiet [0, 3, 5]), (7, .eff), (8, .quiet [8]), (9, .eff), (10, .eff), (11, .quiet [11])], 0, [0, 0, 2, 6, 15, 0, 0, 127, 255, 511, 1023, 2047]⟩]
def c64 : CFunc := ⟨51, [.tmp 4],
 Rg [Op 3 (.box (.t 1)), Op 4 (.move (.c (.nilSlice)))]
 (.seq (.draw [⟨7, Op 18 (.fieldAddr 2 (.t 3)), (.quiet [0])⟩,
 ⟨8, Op 19 (.load false 1 (.t 18)), (.quiet [0])⟩,
 ⟨0, Mv 11 0, (.quiet [0])⟩,
 ⟨1, Op 12 (.nilCheck (.t 11)), (.quiet [0])⟩,
 ⟨2, Op 13 (.fieldAddr 0 (.t 12)), (.quiet [0])⟩,
 ⟨3, Op 14 (.load false 1 (.t 13)), (.quiet [0])⟩,
 ⟨4, Op 15 (.nilCheck (.t 14)), (.quiet [0])⟩,
 ⟨5, Op 16 (.fieldAddr 5 (.t 15)), (.quiet [0])⟩,
 ⟨6, Op 17 (.load false 1 (.t 16)), (.quiet [0])⟩,
 ⟨9, Op 20 (Ca 136 [.t 17, .t 19]), (.eff)⟩,
 ⟨13, Op 5 (.new [.int (.i64) 0]), (.alloc 0)⟩,
 ⟨10, Mv 10 20, (.quiet [10])⟩,
 ⟨11, Op 21 (.extract (.t 10) 0), (.quiet [10])⟩,
 ⟨14, On (.store 1 (.t 5) (.t 21)), (.eff)⟩,
 ⟨12, Op 22 (.extract (.t 10) 1), (.quiet [10, 14])⟩,
 ⟨15, Mv 6 22, (.quiet [14])⟩] 1)
 (Rg [Op 23 (.func 137 [] [.t 5]), Mv 7 23]
 (Rg [Op 24 (.func 139 [] [.t 5]), Mv 8 24]
 (Rg [Mv 25 7, Op 26 (.iface 78 (.t 25)), Op 27 (.buildSlice [.nilIface] 1 [(0, 1, .t 26)]), Mv 9 27]
 (.seq (Rg [Op 28 (.fieldAddr 3 (.t 3)), Op 29 (.load false 1 (.t 28)), Op 30 (.len (.slice) (.t 29)), Op 31 (.bin (.gtr) (.t 30) (Ci 0))]
 (.cond (.t 31) (.draw [⟨1, Op 33 (.fieldAddr 3 (.t 3)), (.quiet [0])⟩,
 ⟨2, Op 34 (.load false 1 (.t 33)), (.quiet [0])⟩,
 ⟨3, Op 35 (Ca 31 [.t 34]), (.eff)⟩,
 ⟨0, Mv 32 9, (.quiet [0, 3])⟩,
 ⟨4, Op 36 (.append 1 16 (.t 32) (.t 35)), (.eff)⟩,
 ⟨6, Op 38 (.load false 1 (.t 5)), (.quiet [0, 3, 5])⟩,
 ⟨5, Op 37 (.load true 8 (.t 3)), (.quiet [0, 3, 5])⟩,
 ⟨7, Op 39 (Ca 141 [.t 37, .t 38]), (.eff)⟩,
 ⟨8, Op 40 (.iface 78 (.t 39)), (.quiet [8])⟩,
 ⟨9, Op 41 (.buildSlice [.nilIface] 1 [(0, 1, .t 40)]), (.eff)⟩,
 ⟨10, Op 42 (.append 1 16 (.t 36) (.t 41)), (.eff)⟩,
 ⟨11, Mv 9 42, (.quiet [11])⟩] 0)
 (.skip)))
 (Rg [Mv 43 9, Op 44 (.fieldAddr 4 (.t 3)), Op 45 (.load false 1 (.t 44)), Op 46 (.iface 86 (.t 45)), Mv 47 8, Op 48 (.iface 78 (.t 47)), Op 49 (.buildSlice [.nilIface] 2 [(0, 1, .t 46), (1, 1, .t 48)]), Op 50 (.append 1 16 (.t 43) (.t 49)), Mv 4 50]
 (.ret)))))))⟩
theorem ok64 : compFunc prog glb 64 p64 = some c64 := by kernel_rfl
def p65 : List Plan := [⟨[(4, .quiet [0]), (5, .quiet [0]), (6, .quiet [0]), (7, .quiet [0]), (8, .quiet [0]), (9, .quiet [0]), (10, .quiet [0]), (11, .quiet [0]), (0, .quiet [0]), (1, .quiet [0]), (2, .quiet [0]), (3, .quiet [0]), (12, .quiet [0]), (13, .quiet [0]), (14, .eff)], 0, [0, 1, 3, 7, 0, 16, 48, 112, 240, 496, 1008, 2032, 4095, 8191, 16383]⟩]
def c65 : CFunc := ⟨40, [.tmp 2, .tmp 3],
 Rg [Op 2 (.move (.c (.nilSlice))), Op 3 (.move (Ci 0))]
 (.seq (Rg [Mv 5 0, Op 6 (.nilCheck (.t 5)), Op 7 (.fieldAddr 0 (.t 6)), Op 8 (.load false 1 (.t 7)), Op 9 (.nilCheck (.t 8)), Op 10 (.fieldAddr 8 (.t 9)), Op 11 (.load false 1 (.t 10)), Op 12 (.len (.slice) (.t 11)), Op 13 (.bin (.eql) (.t 12) (Ci 0))]
 (.cond (.t 13) (Rg [Op 2 (.move (.c (.nilSlice))), Op 3 (.move (Ci 34))]
 (.ret))
 (.skip)))
 (Rg [Mv 14 0, Mv 15 0, Op 16 (.nilCheck (.t 15)), Op 17 (.fieldAddr 0 (.t 16)), Op 18 (.load false 1 (.t 17)), Op 19 (.nilCheck (.t 18)), Op 20 (.fieldAddr 8 (.t 19)), Op 21 (.load false 1 (.t 20)), Op 22 (.indexAddr 1 (.t 21) (Ci 0)), Op 23 (.load false 1 (.t 22)), Op 24 (Ca 56 [.t 14, .t 23, Ci 0]), Mv 4 24]
 (.seq (.draw [⟨4, Mv 29 0, (.quiet [0])⟩,
 ⟨5, Op 30 (.nilCheck (.t 29)), (.quiet [0])⟩,
 ⟨6, Op 31 (.fieldAddr 0 (.t 30)), (.quiet [0])⟩,
 ⟨7, Op 32 (.load false 1 (.t 31)), (.quiet [0])⟩,
 ⟨8, Op 33 (.nilCheck (.t 32)), (.quiet [0])⟩,
 ⟨9, Op 34 (.fieldAddr 8 (.t 33)), (.quiet [0])⟩,
 ⟨10, Op 35 (.load false 1 (.t 34)), (.quiet [0])⟩,
 ⟨11, Op 36 (.slice 1 (.t 35) (some (Ci 1)) none none), (.quiet [0])⟩,
 ⟨0, Mv 25 0, (.quiet [0])⟩,
 ⟨1, Op 26 (.nilCheck (.t 25)), (.quiet [0])⟩,
 ⟨2, Op 27 (.fieldAddr 0 (.t 26)), (.quiet [0])⟩,
 ⟨3, Op 28 (.load false 1 (.t 27)), (.quiet [0])⟩,
 ⟨12, Op 37 (.nilCheck (.t 28)), (.quiet [0])⟩,
 ⟨13, Op 38 (.fieldAddr 8 (.t 37)), (.quiet [0])⟩,
 ⟨14, On (.store 1 (.t 38) (.t 36)), (.eff)⟩] 0)
 (Rg [Mv 39 4, Op 2 (.move (.c (.nilSlice))), Mv 3 39]
 (.ret)))))⟩
theorem ok65 : compFunc prog glb 65 p65 = some c65 := by kernel_rfl
def p66 : List Plan := [⟨[(4, .quiet [0]), (5, .eff), (0, .quiet [0, 2]), (1, .quiet [0, 2]), (2, .quiet [0, 2]), (3, .quiet [0, 2]), (6, .quiet [2]), (7, .eff), (8, .quiet [8]), (9, .quiet [8])], 0, [0, 1, 3, 7, 0, 16, 63, 127, 255, 511]⟩]
def c66 : CFunc := ⟨12, [.tmp 2, .tmp 3],
 Rg [Op 2 (.move (.c (.nilSlice))), Op 3 (.move (Ci 0))]
 (.seq (.draw [⟨4, Mv 8 0, (.quiet [0])⟩,
 ⟨5, Op 9 (Ca 54 [.t 8]), (.eff)⟩,
 ⟨0, Mv 4 0, (.quiet [0, 2])⟩,
 ⟨1, Op 5 (.nilCheck (.t 4)), (.quiet [0, 2])⟩,
 ⟨2, Op 6 (.fieldAddr 1 (.t 5)), (.quiet [0, 2])⟩,
 ⟨3, Op 7 (.load false 1 (.t 6)), (.quiet [0, 2])⟩,
 ⟨6, Op 10 (.build [.int (.i64) 0, .int (.i64) 0, .int (.i64) 0, .int (.i64) 0, .int (.i64) 0] [(1, 1, Ci 1), (2, 1, .t 7), (3, 1, .t 9)]), (.quiet [2])⟩,
 ⟨7, Op 11 (.buildSlice [.int (.i64) 0, .int (.i64) 0, .int (.i64) 0, .int (.i64) 0, .int (.i64) 0] 1 [(0, 5, .t 10)]), (.eff)⟩,
 ⟨8, Mv 2 11, (.quiet [8])⟩,
 ⟨9, Op 3 (.move (Ci 0)), (.quiet [8])⟩] 0)
 (.ret))⟩
theorem ok66 : compFunc prog glb 66 p66 = some c66 := by kernel_rfl
def p67 : List Plan := []
def c67 : CFunc := ⟨9, [.tmp 4],
 Rg [Op 4 (.move (Ci 0))]
 (Rg [Mv 5 0, Mv 6 1, Op 7 (Ca 88 [.t 5, .t 6]), Op 8 (.part false 0 1 (.t 7)), Mv 4 8]
 (.ret))⟩
theorem ok67 : compFunc prog glb 67 p67 = some c67 := by kernel_rfl
def p68 : List Plan := []
def c68 : CFunc := ⟨13, [.tmp 4],
 Rg [Op 4 (.move (.c (.bool false)))]
 (Rg [Mv 5 1, Op 6 (.bin (.gtr) (.t 5) (Ci 0)), Mv 7 6, Mt 8 0 7, Ot 9 (Ca 142 [.t 8]) 7, Mt 10 1 7, Ot 11 (.bin (.eql) (.t 9) (.t 10)) 7, Op 12 (.pick (.t 7) (.t 11) (.c (.bool false))), Mv 4 12]
 (.ret))⟩
theorem ok68 : compFunc prog glb 68 p68 = some c68 := by kernel_rfl
def p69 : List Plan := []
def c69 : CFunc := ⟨36, [.tmp 2],
 Rg [Op 2 (.move (.c (.nilSlice)))]
 (Rg [Op 3 (.move (Ci 0))]
 (.seq (Rg [Mv 9 0, Op 10 (.len (.slice) (.t 9)), Op 11 (.move (Ci 0))]
 (.block 0 (.loop (Rg [Op 12 (.bin (.lss) (.t 11) (.t 10))]
 (.seq (.cond (.t 12) (.skip)
 (.exit 0))
 (.seq (.block 1 (Rg [Op 13 (.indexAddr 1 (.t 9) (.t 11)), Op 14 (.load false 1 (.t 13)), Mv 5 14]
 (Rg [Mv 15 3, Mv 16 5, Op 17 (.len (.slice) (.t 16)), Op 18 (.bin (.add) (.t 15) (.t 17)), Mv 3 18]
 (Rg [Mv 19 3, Op 20 (.bin (.lss) (.t 19) (Ci 0))]
 (.cond (.t 20) (.region [Op 21 (.iface 9 (.c (.str [108, 101, 110, 32, 111, 117, 116, 32, 111, 102, 32, 114, 97, 110, 103, 101]))), On (.dead)])
 (.skip))))))
 (.region [Op 22 (.bin (.add) (.t 11) (Ci 1)), Mv 11 22])))))))
 (Rg [Mv 23 3, Op 24 (Ca 143 [.c (.nilSlice), .t 23]), Mv 6 24]
 (.seq (Rg [Mv 25 0, Op 26 (.len (.slice) (.t 25)), Op 27 (.move (Ci 0))]
 (.block 2 (.loop (Rg [Op 28 (.bin (.lss) (.t 27) (.t 26))]
 (.seq (.cond (.t 28) (.skip)
 (.exit 2))
 (.seq (.block 3 (Rg [Op 29 (.indexAddr 1 (.t 25) (.t 27)), Op 30 (.load false 1 (.t 29)), Mv 8 30]
 (.region [Mv 31 6, Mv 32 8, Op 33 (.append 1 8 (.t 31) (.t 32)), Mv 6 33])))
 (.region [Op 34 (.bin (.add) (.t 27) (Ci 1)), Mv 27 34])))))))
 (Rg [Mv 35 6, Mv 2 35]
 (.ret))))))⟩
theorem ok69 : compFunc prog glb 69 p69 = some c69 := by kernel_rfl
def p70 : List Plan := []
def c70 : CFunc := ⟨18, [.tmp 2, .tmp 3],
 Rg [Op 2 (.move (Ci 0)), Op 3 (.move (.c (.bool false)))]
 (Rg [Mv 5 0, Mv 6 0, Op 7 (.nilCheck (.t 6)), Op 8 (.fieldAddr 1 (.t 7)), Op 9 (Ca 144 [.t 8]), Mv 4 9, Op 10 (.extract (.t 4) 0), Op 11 (.extract (.t 4) 1), Op 12 (.nilCheck (.t 5)), Op 13 (.fieldAddr 0 (.t 12)), On (.store 1 (.t 13) (.t 10))]
 (Rg [Mv 14 0, Op 15 (.nilCheck (.t 14)), Op 16 (.fieldAddr 0 (.t 15)), Op 17 (.load false 1 (.t 16)), Mv 2 17, Op 3 (.move (.c (.bool true)))]
 (.ret)))⟩
theorem ok70 : compFunc prog glb 70 p70 = some c70 := by kernel_rfl
def p71 : List Plan := []
def c71 : CFunc := ⟨21, [.tmp 4],
 Rg [Op 4 (.move (.c (.bool false)))]
 (.seq (Rg [Mv 7 0, Op 8 (.eq (.ptr) false (.t 7) (.c (.nilPtr)))]
 (.cond (.t 8) (Rg [Op 4 (.move (.c (.bool false)))]
 (.ret))
 (.skip)))
 (Rg [Mv 9 0, Op 10 (Ca 145 [.t 9])]
 (Rg [Mv 12 0, Op 13 (.nilCheck (.t 12)), Op 14 (.fieldAddr 7 (.t 13)), Op 15 (.load false 1 (.t 14)), Mv 16 1, Op 17 (.lookup (.one (.int)) (.nilSlice) true (.t 15) (.t 16)), Mv 11 17, Op 18 (.extract (.t 11) 0), Op 19 (.extract (.t 11) 1), Mv 5 18, Mv 6 19]
 (Rg [Mv 20 6, Mv 4 20]
 (.ret)))))⟩
theorem ok71 : compFunc prog glb 71 p71 = some c71 := by kernel_rfl
def p72 : List Plan := [⟨[(9, .quiet [0]), (8, .quiet [0]), (10, .quiet [0]), (5, .quiet [0]), (4, .quiet [0]), (6, .quiet [0]), (0, .quiet [0]), (1, .quiet [0]), (2, .quiet [0]), (3, .quiet [0]), (12, .eff), (13, .quiet [11]), (7, .quiet [0, 11]), (11, .quiet [0, 11]), (14, .eff)], 0, [0, 1, 3, 7, 0, 0, 48, 127, 0, 0, 768, 2047, 1919, 6015, 16383]⟩]
def c72 : CFunc := ⟨44, [],
 Rg [Mv 10 2, Op 11 (.len (.slice) (.t 10)), Op 12 (.move (Ci 0))]
 (.block 0 (.loop (Rg [Op 13 (.bin (.lss) (.t 12) (.t 11))]
 (.seq (.cond (.t 13) (.skip)
 (.exit 0))
 (.seq (.block 1 (Rg [Mv 14 12, Op 15 (.indexAddr 1 (.t 10) (.t 12)), Op 16 (.load false 1 (.t 15)), Mv 8 14, Mv 9 16]
 (Rg [Mv 17 0, Op 18 (.nilCheck (.t 17)), Op 19 (.fieldAddr 5 (.t 18)), Op 20 (.load false 1 (.t 19)), Mv 21 8, Op 22 (.indexAddr 1 (.t 20) (.t 21)), Op 23 (.load false 1 (.t 22)), Mv 24 3, Mv 25 9, Op 26 (.bin (.mul) (.t 24) (.t 25)), Op 27 (.bin (.sub) (.t 23) (.t 26)), Op 28 (.indexAddr 1 (.t 20) (.t 21)), On (.store 1 (.t 28) (.t 27))]
 (.draw [⟨9, Mv 38 9, (.quiet [0])⟩,
 ⟨8, Mv 37 3, (.quiet [0])⟩,
 ⟨10, Op 39 (.bin (.mul) (.t 37) (.t 38)), (.quiet [0])⟩,
 ⟨5, Mv 34 8, (.quiet [0])⟩,
 ⟨4, Mv 33 1, (.quiet [0])⟩,
 ⟨6, Op 35 (.build [.int (.i64) 0, .int (.i64) 0] [(0, 1, .t 33), (1, 1, .t 34)]), (.quiet [0])⟩,
 ⟨0, Mv 29 0, (.quiet [0])⟩,
 ⟨1, Op 30 (.nilCheck (.t 29)), (.quiet [0])⟩,
 ⟨2, Op 31 (.fieldAddr 6 (.t 30)), (.quiet [0])⟩,
 ⟨3, Op 32 (.load false 1 (.t 31)), (.quiet [0])⟩,
 ⟨12, Op 41 (.mapEntry (.flat [.int, .int]) (.int (.i64) 0) (.t 32) (.t 35)), (.eff)⟩,
 ⟨13, Op 42 (.extract (.t 41) 1), (.quiet [11])⟩,
 ⟨7, Op 36 (.lookup (.flat [.int, .int]) (.int (.i64) 0) false (.t 32) (.t 35)), (.quiet [0, 11])⟩,
 ⟨11, Op 40 (.bin (.add) (.t 36) (.t 39)), (.quiet [0, 11])⟩,
 ⟨14, On (.entryStore (.t 32) (.t 42) (.t 40)), (.eff)⟩] 0))))
 (.region [Op 43 (.bin (.add) (.t 12) (Ci 1)), Mv 12 43]))))))⟩
theorem ok72 : compFunc prog glb 72 p72 = some c72 := by kernel_rfl
def p73 : List Plan := []
def c73 : CFunc := ⟨31, [.tmp 4],
 Rg [Op 4 (.move (.c (.nilSlice)))]
 (.seq (Rg [Mv 6 0, Mv 7 1, Op 8 (Ca 71 [.t 6, .t 7]), Op 9 (.un (.not) (.t 8))]
 (.cond (.t 9) (Rg [Op 4 (.move (.c (.nilSlice)))]
 (.ret))
 (.skip)))
 (.seq (Rg [Mv 10 0, Op 11 (.nilCheck (.t 10)), Op 12 (.fieldAddr 0 (.t 11)), Op 13 (.load false 1 (.t 12)), Op 14 (.len (.slice) (.t 13)), Op 15 (.move (Ci 0))]
 (.block 0 (.loop (Rg [Op 16 (.bin (.lss) (.t 15) (.t 14))]
 (.seq (.cond (.t 16) (.skip)
 (.exit 0))
 (.seq (.block 1 (Rg [Mv 17 15, Mv 5 17]
 (.region [Mv 18 4, Mv 19 0, Op 20 (.nilCheck (.t 19)), Op 21 (.fieldAddr 6 (.t 20)), Op 22 (.load false 1 (.t 21)), Mv 23 1, Mv 24 5, Op 25 (.build [.int (.i64) 0, .int (.i64) 0] [(0, 1, .t 23), (1, 1, .t 24)]), Op 26 (.lookup (.flat [.int, .int]) (.int (.i64) 0) false (.t 22) (.t 25)), Op 27 (.buildSlice [.int (.i64) 0] 1 [(0, 1, .t 26)]), Op 28 (.append 1 8 (.t 18) (.t 27)), Mv 4 28])))
 (.region [Op 29 (.bin (.add) (.t 15) (Ci 1)), Mv 15 29])))))))
 (Rg [Mv 30 4, Mv 4 30]
 (.ret))))⟩
theorem ok73 : compFunc prog glb 73 p73 = some c73 := by kernel_rfl
def p74 : List Plan := []
def c74 : CFunc := ⟨42, [.tmp 4],
 Rg [Op 4 (.move (.c (.nilSlice)))]
 (Rg [Mv 8 0, Mv 9 1, Op 10 (Ca 79 [.t 8, .t 9]), Mv 5 10]
 (.seq (Rg [Mv 11 5, Op 12 (.bin (.eql) (.t 11) (.c (.int (.i64) (-1))))]
 (.cond (.t 12) (Rg [Mv 13 0, Mv 4 13]
 (.ret))
 (.skip)))
 (.seq (Rg [Mv 14 5, Op 15 (.bin (.add) (.t 14) (Ci 1)), Mv 6 15]
 (.block 0 (.loop (.seq (Rg [Mv 16 6, Mv 17 0, Op 18 (.len (.slice) (.t 17)), Op 19 (.bin (.lss) (.t 16) (.t 18))]
 (.cond (.t 19) (.skip)
 (.exit 0)))
 (.seq (.block 1 (Rg [Mv 22 0, Mv 23 6, Op 24 (.indexAddr 2 (.t 22) (.t 23)), Op 25 (.load true 2 (.t 24)), Op 7 (.new [.int (.i64) 0, .nilSlice]), On (.store 2 (.t 7) (.t 25))]
 (Rg [Mv 26 1, Op 27 (.load true 2 (.t 7)), Op 28 (.call (.t 26) [.t 27]), Op 29 (.un (.not) (.t 28))]
 (.cond (.t 29) (Rg [Mv 30 0, Mv 31 5, Op 32 (.load true 2 (.t 7)), Op 33 (.indexAddr 2 (.t 30) (.t 31)), On (.store 2 (.t 33) (.t 32))]
 (.region [Mv 34 5, Op 35 (.bin (.add) (.t 34) (Ci 1)), Mv 5 35]))
 (.skip)))))
 (.region [Mv 20 6, Op 21 (.bin (.add) (.t 20) (Ci 1)), Mv 6 21]))))))
 (Rg [Mv 36 0, Mv 37 5, Op 38 (.slice 2 (.t 36) (some (.t 37)) none none), On (.clear [.int (.i64) 0, .nilSlice] (.t 38))]
 (Rg [Mv 39 0, Mv 40 5, Op 41 (.slice 2 (.t 39) none (some (.t 40)) none), Mv 4 41]
 (.ret))))))⟩
theorem ok74 : compFunc prog glb 74 p74 = some c74 := by kernel_rfl
def p75 : List Plan := []
def c75 : CFunc := ⟨4, [.tmp 2],
 Rg [Op 1 (.box (.t 0)), Op 2 (.move (.c (.nilFunc)))]
 (Rg [Op 3 (.func 146 [] [.t 1]), Mv 2 3]
 (.ret))⟩
theorem ok75 : compFunc prog glb 75 p75 = some c75 := by kernel_rfl
def p77 : List Plan := []
def c77 : CFunc := ⟨10, [.tmp 5],
 Rg [Op 3 (.box (.t 0)), Op 5 (.move (.c (.bool false)))]
 (Rg [Op 6 (.fieldAddr 0 (.t 3)), Op 7 (.load false 1 (.t 6)), Op 8 (.load false 1 (.t 2)), Op 9 (.bin (.eql) (.t 7) (.t 8)), Mv 5 9]
 (.ret))⟩
theorem ok77 : compFunc prog glb 77 p77 = some c77 := by kernel_rfl
def p78 : List Plan := []
def c78 : CFunc := ⟨43, [.tmp 2],
 Rg [Op 2 (.move (.c (.nilSlice)))]
 (Rg [Op 3 (.move (.c (.nilSlice)))]
 (.seq (Rg [Mv 6 0, Op 7 (.nilCheck (.t 6)), Op 8 (.fieldAddr 8 (.t 7)), Op 9 (.load false 1 (.t 8)), Op 10 (.len (.slice) (.t 9)), Op 11 (.move (Ci 0))]
 (.block 0 (.loop (Rg [Op 12 (.bin (.lss) (.t 11) (.t 10))]
 (.seq (.cond (.t 12) (.skip)
 (.exit 0))
 (.seq (.block 1 (Rg [Op 13 (.indexAddr 2 (.t 9) (.t 11)), Op 14 (.load true 2 (.t 13)), Op 5 (.new [.int (.i64) 0, .nilSlice]), On (.store 2 (.t 5) (.t 14))]
 (.seq (Rg [Mv 15 0, Op 16 (.load true 2 (.t 5)), Mv 17 3, Op 18 (.len (.slice) (.t 17)), Op 19 (.bin (.gtr) (.t 18) (Ci 0)), Op 20 (Ca 147 [.t 15, .t 16, .t 19]), Op 21 (.un (.not) (.t 20))]
 (.cond (.t 21) (Rg [Mv 22 3, Op 23 (.load true 2 (.t 5)), Op 24 (.buildSlice [.int (.i64) 0, .nilSlice] 1 [(0, 2, .t 23)]), Op 25 (.append 2 32 (.t 22) (.t 24)), Mv 3 25]
 (.exit 1))
 (.skip)))
 (Rg [Mv 26 0, Op 27 (.fieldAddr 0 (.t 5)), Op 28 (.load false 1 (.t 27)), Op 29 (.fieldAddr 1 (.t 5)), Op 30 (.load false 1 (.t 29)), Op 31 (Ca 72 [.t 26, .t 28, .t 30, Ci 1])]
 (.region [Mv 32 2, Op 33 (.fieldAddr 0 (.t 5)), Op 34 (.load false 1 (.t 33)), Op 35 (.buildSlice [.int (.i64) 0] 1 [(0, 1, .t 34)]), Op 36 (.append 1 8 (.t 32) (.t 35)), Mv 2 36])))))
 (.region [Op 37 (.bin (.add) (.t 11) (Ci 1)), Mv 11 37])))))))
 (Rg [Mv 38 0, Mv 39 3, Op 40 (.nilCheck (.t 38)), Op 41 (.fieldAddr 8 (.t 40)), On (.store 1 (.t 41) (.t 39))]
 (Rg [Mv 42 2, Mv 2 42]
 (.ret)))))⟩
theorem ok78 : compFunc prog glb 78 p78 = some c78 := by kernel_rfl
def p79 : List Plan := []
def c79 : CFunc := ⟨19, [.tmp 4],
 Rg [Op 4 (.move (Ci 0))]
 (.seq (Rg [Mv 6 0, Op 7 (.len (.slice) (.t 6)), Op 8 (.move (Ci 0))]
 (.block 0 (.loop (Rg [Op 9 (.bin (.lss) (.t 8) (.t 7))]
 (.seq (.cond (.t 9) (.skip)
 (.exit 0))
 (.seq (.block 1 (Rg [Mv 10 8, Mv 5 10]
 (Rg [Mv 11 1, Mv 12 0, Mv 13 5, Op 14 (.indexAddr 2 (.t 12) (.t 13)), Op 15 (.load true 2 (.t 14)), Op 16 (.call (.t 11) [.t 15])]
 (.cond (.t 16) (Rg [Mv 17 5, Mv 4 17]
 (.ret))
 (.skip)))))
 (.region [Op 18 (.bin (.add) (.t 8) (Ci 1)), Mv 8 18])))))))
 (Rg [Op 4 (.move (.c (.int (.i64) (-1))))]
 (.ret)))⟩
theorem ok79 : compFunc prog glb 79 p79 = some c79 := by kernel_rfl
def p80 : List Plan := []
def c80 : CFunc := ⟨8, [.tmp 3],
 Rg [Op 2 (.box (.t 0)), Op 3 (.move (.c (.bool false)))]
 (Rg [Op 4 (.fieldAddr 0 (.t 2)), Op 5 (.load false 1 (.t 4)), Op 6 (.load false 1 (.t 1)), Op 7 (.bin (.eql) (.t 5) (.t 6)), Mv 3 7]
 (.ret))⟩
theorem ok80 : compFunc prog glb 80 p80 = some c80 := by kernel_rfl
def p81 : List Plan := []
def c81 : CFunc := ⟨8, [.tmp 2],
 Rg [Op 2 (.move (Ci 0))]
 (.seq (Rg [Mv 3 0, Op 4 (Ca 148 [.t 3]), Op 5 (.un (.not) (.t 4))]
 (.cond (.t 5) (Rg [Op 2 (.move (Ci 0))]
 (.ret))
 (.skip)))
 (Rg [Mv 6 0, Op 7 (Ca 149 [.t 6]), Mv 2 7]
 (.ret)))⟩
theorem ok81 : compFunc prog glb 81 p81 = some c81 := by kernel_rfl
def p82 : List Plan := []
def c82 : CFunc := ⟨36, [.tmp 6],
 Rg [Op 6 (.move (.c (.bool false)))]
 (.seq (Rg [Mv 8 0, Mv 9 1, Op 10 (Ca 88 [.t 8, .t 9]), Op 11 (Ca 86 [.t 10]), Op 12 (.un (.not) (.t 11))]
 (.cond (.t 12) (Rg [Op 6 (.move (.c (.bool false)))]
 (.ret))
 (.skip)))
 (Rg [Mv 13 0, Op 14 (.nilCheck (.t 13)), Op 15 (.fieldAddr 2 (.t 14)), Op 16 (.load false 1 (.t 15)), Mv 17 1, Op 18 (.bin (.sub) (.t 17) (Ci 1)), Op 19 (.indexAddr 5 (.t 16) (.t 18)), Mv 7 19]
 (Rg [Mv 20 7, Mv 21 7, Mv 22 7, Op 23 (.build [.int (.i64) 0, .int (.i64) 0] []), Mv 24 2, Op 25 (.nilCheck (.t 20)), Op 26 (.fieldAddr 0 (.t 25)), On (.store 1 (.t 26) (Ci 3)), Op 27 (.nilCheck (.t 21)), Op 28 (.fieldAddr 2 (.t 27)), On (.store 2 (.t 28) (.t 23)), Op 29 (.nilCheck (.t 22)), Op 30 (.fieldAddr 4 (.t 29)), On (.store 1 (.t 30) (.t 24))]
 (.seq (Rg [Mv 31 2, Op 32 (.bin (.neq) (.t 31) (Ci 0))]
 (.cond (.t 32) (.region [Mv 33 7, Op 34 (.nilCheck (.t 33)), Op 35 (.fieldAddr 0 (.t 34)), On (.store 1 (.t 35) (Ci 4))])
 (.skip)))
 (Rg [Op 6 (.move (.c (.bool true)))]
 (.ret))))))⟩
theorem ok82 : compFunc prog glb 82 p82 = some c82 := by kernel_rfl
def p83 : List Plan := []
def c83 : CFunc := ⟨9, [.tmp 4],
 Rg [Op 4 (.move (Ci 0))]
 (Rg [Mv 5 0, Mv 6 1, Op 7 (Ca 88 [.t 5, .t 6]), Op 8 (.part false 1 1 (.t 7)), Mv 4 8]
 (.ret))⟩
theorem ok83 : compFunc prog glb 83 p83 = some c83 := by kernel_rfl
def p84 : List Plan := []
def c84 : CFunc := ⟨9, [.cell 4 true 2],
 Rg [Op 4 (.new [.int (.i64) 0, .int (.i64) 0])]
 (Rg [Mv 5 0, Mv 6 1, Op 7 (Ca 88 [.t 5, .t 6]), Op 8 (.part true 2 2 (.t 7)), On (.store 2 (.t 4) (.t 8))]
 (.ret))⟩
theorem ok84 : compFunc prog glb 84 p84 = some c84 := by kernel_rfl
def p85 : List Plan := []
def c85 : CFunc := ⟨9, [.tmp 4],
 Rg [Op 3 (.box (.t 1)), Op 4 (.move (Ci 0))]
 (Rg [Mv 5 0, Op 6 (.func 150 [] [.t 3]), Op 7 (Ca 46 [.t 5, .t 6]), Op 8 (.len (.slice) (.t 7)), Mv 4 8]
 (.ret))⟩
theorem ok85 : compFunc prog glb 85 p85 = some c85 := by kernel_rfl
def p86 : List Plan := []
def c86 : CFunc := ⟨11, [.tmp 2],
 Rg [Op 1 (.box (.t 0)), Op 2 (.move (.c (.bool false)))]
 (Rg [Op 3 (.fieldAddr 0 (.t 1)), Op 4 (.load false 1 (.t 3)), Op 5 (.bin (.eql) (.t 4) (Ci 1)), Mv 6 5, Of 7 (.fieldAddr 0 (.t 1)) 6, Of 8 (.load false 1 (.t 7)) 6, Of 9 (.bin (.eql) (.t 8) (Ci 2)) 6, Op 10 (.pick (.t 6) (.c (.bool true)) (.t 9)), Mv 2 10]
 (.ret))⟩
theorem ok86 : compFunc prog glb 86 p86 = some c86 := by kernel_rfl
def p87 : List Plan := []
def c87 : CFunc := ⟨9, [.tmp 2],
 Rg [Op 2 (.move (Ci 0))]
 (.seq (Rg [Mv 3 0, Op 4 (.eq (.ptr) false (.t 3) (.c (.nilPtr)))]
 (.cond (.t 4) (Rg [Op 2 (.move (Ci 0))]
 (.ret))
 (.skip)))
 (Rg [Mv 5 0, Op 6 (.nilCheck (.t 5)), Op 7 (.fieldAddr 1 (.t 6)), Op 8 (Ca 151 [.t 7]), Mv 2 8]
 (.ret)))⟩
theorem ok87 : compFunc prog glb 87 p87 = some c87 := by kernel_rfl
def p88 : List Plan := []
def c88 : CFunc := ⟨22, [.cell 4 true 5],
 Rg [Op 4 (.new [.int (.i64) 0, .int (.i64) 0, .int (.i64) 0, .int (.i64) 0, .int (.i64) 0])]
 (.seq (Rg [Mv 5 1, Op 6 (.bin (.lss) (.t 5) (Ci 1)), Mv 7 6, Mf 8 1 7, Mf 9 0 7, Of 10 (Ca 87 [.t 9]) 7, Of 11 (.bin (.gtr) (.t 8) (.t 10)) 7, Op 12 (.pick (.t 7) (.c (.bool true)) (.t 11))]
 (.cond (.t 12) (Rg [Op 13 (.build [.int (.i64) 0, .int (.i64) 0, .int (.i64) 0, .int (.i64) 0, .int (.i64) 0] []), On (.store 5 (.t 4) (.t 13))]
 (.ret))
 (.skip)))
 (Rg [Mv 14 0, Op 15 (.nilCheck (.t 14)), Op 16 (.fieldAddr 2 (.t 15)), Op 17 (.load false 1 (.t 16)), Mv 18 1, Op 19 (.bin (.sub) (.t 18) (Ci 1)), Op 20 (.indexAddr 5 (.t 17) (.t 19)), Op 21 (.load true 5 (.t 20)), On (.store 5 (.t 4) (.t 21))]
 (.ret)))⟩
theorem ok88 : compFunc prog glb 88 p88 = some c88 := by kernel_rfl
def p89 : List Plan := [⟨[(0, .quiet [0]), (2, .eff), (1, .quiet [0, 2]), (3, .eff)], 0, [0, 0, 1, 7]⟩, ⟨[(2, .quiet [0]), (3, .eff), (4, .eff), (0, .quiet [0, 2, 3]), (1, .quiet [0, 2, 3]), (5, .eff), (6, .quiet [6]), (7, .eff)], 0, [0, 1, 0, 4, 12, 31, 63, 127]⟩, ⟨[(0, .quiet [0]), (5, .eff), (1, .quiet [0, 2]), (2, .quiet [0, 2]), (3, .quiet [0, 2]), (4, .quiet [0, 2]), (6, .eff)], 0, [0, 0, 2, 6, 14, 1, 63]⟩]
def c89 : CFunc := ⟨72, [.cell 2 true 5, .cell 3 true 2],
 Rg [Op 2 (.new [.str [], .nilSlice, .nilSlice, .nilSlice, .nilSlice]), Op 3 (.new [.int (.i64) 0, .int (.i64) 0])]
 (Rg [Mv 9 0, Op 10 (Ca 152 [.t 9]), Mv 8 10, Op 11 (.extract (.t 8) 0), Op 12 (.extract (.t 8) 1), Op 5 (.new [.int (.i64) 0, .int (.i64) 0]), Mv 4 11, On (.store 2 (.t 5) (.t 12))]
 (.seq (Rg [Op 13 (.fieldAddr 0 (.t 5)), Op 14 (.load false 1 (.t 13)), Op 15 (.bin (.neq) (.t 14) (Ci 0))]
 (.cond (.t 15) (.seq (.draw [⟨0, Op 16 (.build [.str [], .nilSlice, .nilSlice, .nilSlice, .nilSlice] []), (.quiet [0])⟩,
 ⟨2, On (.store 5 (.t 2) (.t 16)), (.eff)⟩,
 ⟨1, Op 17 (.load true 2 (.t 5)), (.quiet [0, 2])⟩,
 ⟨3, On (.store 2 (.t 3) (.t 17)), (.eff)⟩] 0)
 (.ret))
 (.skip)))
 (Rg [Mv 18 4, Op 19 (.build [.nilSlice, .int (.i64) 0, .int (.i64) 0, .int (.i64) 0] [(0, 1, .t 18)]), Op 20 (.box (.t 19)), Mv 6 20]
 (Rg [Mv 21 6, Op 22 (Ca 153 [.t 21, .c (.str [112, 114, 111, 103, 114, 97, 109])])]
 (Rg [Mv 23 6, Op 24 (Ca 154 [.t 23]), Op 25 (.part false 1 1 (.t 24)), Op 26 (.build [.str [], .nilSlice, .nilSlice, .nilSlice, .nilSlice] [(0, 1, .t 25)]), Op 7 (.new [.str [], .nilSlice, .nilSlice, .nilSlice, .nilSlice]), On (.store 5 (.t 7) (.t 26))]
 (Rg [Mv 27 6, Op 28 (Ca 153 [.t 27, .c (.str [59])])]
 (Rg [Mv 29 6, Op 30 (Ca 155 [.t 29]), Op 31 (.fieldAddr 1 (.t 7)), On (.store 1 (.t 31) (.t 30))]
 (.seq (.block 0 (.loop (.seq (Rg [Mv 32 6, Op 33 (Ca 156 [.t 32, .c (.str [112, 114, 111, 99, 101, 100, 117, 114, 101])])]
 (.cond (.t 33) (.skip)
 (.exit 0)))
 (.block 1 (.draw [⟨2, Mv 36 6, (.quiet [0])⟩,
 ⟨3, Op 37 (Ca 157 [.t 36]), (.eff)⟩,
 ⟨4, Op 38 (.buildSlice [.int (.i64) 0, .str [], .nilSlice, .nilSlice, .nilSlice] 1 [(0, 5, .t 37)]), (.eff)⟩,
 ⟨0, Op 34 (.fieldAddr 2 (.t 7)), (.quiet [0, 2, 3])⟩,
 ⟨1, Op 35 (.load false 1 (.t 34)), (.quiet [0, 2, 3])⟩,
 ⟨5, Op 39 (.append 5 96 (.t 35) (.t 38)), (.eff)⟩,
 ⟨6, Op 40 (.fieldAddr 2 (.t 7)), (.quiet [6])⟩,
 ⟨7, On (.store 1 (.t 40) (.t 39)), (.eff)⟩] 0)))))
 (.seq (Rg [Mv 41 6, Op 42 (Ca 156 [.t 41, .c (.str [99, 108, 97, 105, 109, 115])])]
 (.cond (.t 42) (Rg [Mv 43 6, Op 44 (Ca 158 [.t 43]), Op 45 (.fieldAddr 3 (.t 7)), On (.store 1 (.t 45) (.t 44))]
 (.region [Mv 46 6, Op 47 (Ca 153 [.t 46, .c (.str [59])])]))
 (.skip)))
 (Rg [Mv 48 6, Op 49 (Ca 153 [.t 48, .c (.str [98, 101, 103, 105, 110])])]
 (Rg [Mv 50 6, Op 51 (Ca 159 [.t 50, Ci 1]), Op 52 (.fieldAddr 4 (.t 7)), On (.store 1 (.t 52) (.t 51))]
 (Rg [Mv 53 6, Op 54 (Ca 153 [.t 53, .c (.str [101, 110, 100])])]
 (Rg [Mv 55 6, Op 56 (Ca 153 [.t 55, .c (.str [46])])]
 (.seq (Rg [Mv 57 6, Op 58 (Ca 160 [.t 57]), Op 59 (.part false 0 1 (.t 58)), Op 60 (.bin (.neq) (.t 59) (Ci 5))]
 (.cond (.t 60) (.region [Mv 61 6, Op 62 (Ca 161 [.t 61, Ci 14])])
 (.skip)))
 (.seq (Rg [Mv 63 6, Op 64 (Ca 162 [.t 63])]
 (.cond (.t 64) (.seq (.draw [⟨0, Op 65 (.build [.str [], .nilSlice, .nilSlice, .nilSlice, .nilSlice] []), (.quiet [0])⟩,
 ⟨5, On (.store 5 (.t 2) (.t 65)), (.eff)⟩,
 ⟨1, Mv 66 6, (.quiet [0, 2])⟩,
 ⟨2, Op 67 (.nilCheck (.t 66)), (.quiet [0, 2])⟩,
 ⟨3, Op 68 (.fieldAddr 2 (.t 67)), (.quiet [0, 2])⟩,
 ⟨4, Op 69 (.load true 2 (.t 68)), (.quiet [0, 2])⟩,
 ⟨6, On (.store 2 (.t 3) (.t 69)), (.eff)⟩] 0)
 (.ret))
 (.skip)))
 (Rg [Op 70 (.load true 5 (.t 7)), Op 71 (.build [.int (.i64) 0, .int (.i64) 0] []), On (.store 5 (.t 2) (.t 70)), On (.store 2 (.t 3) (.t 71))]
 (.ret)))))))))))))))))⟩
theorem ok89 : compFunc prog glb 89 p89 = some c89 := by kernel_rfl
def p90 : List Plan := [⟨[(4, .quiet [0]), (5, .quiet [0]), (0, .quiet [0]), (1, .quiet [0]), (2, .quiet [0]), (3, .quiet [0]), (6, .eff)], 0, [0, 1, 3, 7, 0, 16, 63]⟩, ⟨[(4, .quiet [0]), (0, .quiet [0]), (1, .quiet [0]), (2, .quiet [0]), (3, .quiet [0]), (5, .quiet [0]), (6, .quiet [0]), (7, .quiet [0]), (8, .eff), (9, .quiet [0, 9]), (10, .quiet [0, 9]), (11, .eff), (12, .quiet [12])], 0, [0, 1, 3, 7, 0, 31, 63, 127, 255, 0, 512, 2047, 4095]⟩, ⟨[(7, .quiet [0]), (8, .quiet [0]), (9, .eff), (3, .quiet [0, 3]), (4, .quiet [0, 3]), (5, .quiet [0, 3]), (6, .quiet [0, 3]), (10, .eff), (15, .quiet [0, 3, 8]), (16, .alloc 0), (11, .quiet [0, 3, 8]), (12, .quiet [0, 3, 8]), (13, .quiet [0, 3, 8]), (14, .quiet [0, 3, 8]), (17, .eff), (22, .quiet [0, 3, 8, 15]), (23, .quiet [0, 3, 8, 15]), (24, .alloc 1), (18, .quiet [0, 3, 8, 15]), (19, .quiet [0, 3, 8, 15]), (20, .quiet [0, 3, 8, 15]), (21, .quiet [0, 3, 8, 15]), (25, .eff), (0, .quiet [0, 3, 8, 15, 23]), (26, .quiet [23]), (27, .quiet [23]), (28, .eff), (1, .quiet [0, 3, 8, 15, 23, 27]), (29, .quiet [27]), (30, .quiet [27]), (31, .eff), (2, .quiet [0, 3, 8, 15, 23, 27, 31]), (32, .quiet [31]), (33, .quiet [31]), (34, .eff)], 2, [0, 0, 0, 0, 8, 24, 56, 0, 128, 384, 1016, 0, 2048, 6144, 14336, 0, 32768, 131064, 0, 262144, 786432, 1835008, 0, 4194304, 12582912, 33554424, 67108857, 134217721, 268435449, 536870907, 1073741819, 2147483643, 4294967295, 8589934591, 17179869183]⟩, ⟨[(4, .quiet [0]), (5, .quiet [0]), (0, .quiet [0]), (1, .quiet [0]), (2, .quiet [0]), (3, .quiet [0]), (6, .eff), (7, .quiet [7]), (12, .quiet [7]), (13, .quiet [7]), (8, .quiet [7]), (9, .quiet [7]), (10, .quiet [7]), (11, .quiet [7]), (14, .eff), (15, .quiet [15])], 0, [0, 1, 3, 7, 0, 16, 63, 127, 255, 511, 1023, 2047, 255, 4351, 16383, 32767]⟩, ⟨[(7, .quiet [0]), (8, .quiet [0]), (9, .eff), (3, .quiet [0, 3]), (4, .quiet [0, 3]), (5, .quiet [0, 3]), (6, .quiet [0, 3]), (10, .eff), (15, .quiet [0, 3, 8]), (16, .quiet [0, 3, 8]), (17, .quiet [0, 3, 8]), (18, .alloc 0), (11, .quiet [0, 3, 8]), (12, .quiet [0, 3, 8]), (13, .quiet [0, 3, 8]), (14, .quiet [0, 3, 8]), (19, .eff), (24, .quiet [0, 3, 8, 17]), (25, .alloc 1), (20, .quiet [0, 3, 8, 17]), (21, .quiet [0, 3, 8, 17]), (22, .quiet [0, 3, 8, 17]), (23, .quiet [0, 3, 8, 17]), (26, .eff), (0, .quiet [0, 3, 8, 17, 24]), (27, .quiet [24]), (28, .quiet [24]), (29, .eff), (1, .quiet [0, 3, 8, 17, 24, 28]), (30, .quiet [28]), (31, .quiet [28]), (32, .eff), (2, .quiet [0, 3, 8, 17, 24, 28, 32]), (33, .quiet [32]), (34, .quiet [32]), (35, .eff)], 2, [0, 0, 0, 0, 8, 24, 56, 0, 128, 384, 1016, 0, 2048, 6144, 14336, 0, 32768, 98304, 229376, 524280, 0, 1048576, 3145728, 7340032, 0, 16777216, 67108856, 134217721, 268435449, 536870905, 1073741819, 2147483643, 4294967291, 8589934591, 17179869183, 34359738367]⟩]
def c90 : CFunc := ⟨301, [.tmp 2, .cell 3 true 2],
 Rg [Op 1 (.box (.t 0)), Op 2 (.move (.c (.nilPtr))), Op 3 (.new [.int (.i64) 0, .int (.i64) 0])]
 (Rg [Op 15 (.build [.nilSlice, .nilSlice, .nilSlice, .nilSlice, .nilSlice, .nilSlice] []), Op 16 (.box (.t 15)), Mv 4 16]
 (.seq (Rg [Op 5 (.move (Ci 0))]
 (.block 0 (.loop (.seq (Rg [Mv 17 5, Op 18 (.fieldAddr 1 (.t 1)), Op 19 (.load false 1 (.t 18)), Op 20 (.len (.slice) (.t 19)), Op 21 (.bin (.lss) (.t 17) (.t 20))]
 (.cond (.t 21) (.skip)
 (.exit 0)))
 (.seq (.block 1 (Rg [Op 24 (.fieldAddr 1 (.t 1)), Op 25 (.load false 1 (.t 24)), Mv 26 5, Op 27 (.indexAddr 4 (.t 25) (.t 26)), Op 28 (.load true 4 (.t 27)), Op 6 (.new [.int (.i64) 0, .int (.i64) 0, .str [], .int (.i64) 0]), On (.store 4 (.t 6) (.t 28))]
 (.seq (.seq (.draw [⟨4, Op 33 (.fieldAddr 2 (.t 6)), (.quiet [0])⟩,
 ⟨5, Op 34 (.load false 1 (.t 33)), (.quiet [0])⟩,
 ⟨0, Mv 29 4, (.quiet [0])⟩,
 ⟨1, Op 30 (.nilCheck (.t 29)), (.quiet [0])⟩,
 ⟨2, Op 31 (.fieldAddr 0 (.t 30)), (.quiet [0])⟩,
 ⟨3, Op 32 (.load false 1 (.t 31)), (.quiet [0])⟩,
 ⟨6, Op 35 (Ca 163 [.t 32, .t 34]), (.eff)⟩] 0)
 (.cond (.t 35) (Rg [Op 36 (.fieldAddr 1 (.t 6)), Op 37 (.load false 1 (.t 36)), Op 38 (Ca 164 [Ci 17, .t 37]), Op 2 (.move (.c (.nilPtr))), On (.store 2 (.t 3) (.t 38))]
 (.ret))
 (.skip)))
 (Rg [Op 7 (.move (Ci 0))]
 (.seq (Rg [Op 8 (.move (Ci 0))]
 (.block 2 (.loop (.seq (Rg [Mv 39 8, Mv 40 4, Op 41 (.nilCheck (.t 40)), Op 42 (.fieldAddr 1 (.t 41)), Op 43 (.load false 1 (.t 42)), Op 44 (.len (.slice) (.t 43)), Op 45 (.bin (.lss) (.t 39) (.t 44))]
 (.cond (.t 45) (.skip)
 (.exit 2)))
 (.seq (.block 3 (.seq (.draw [⟨4, Mv 52 8, (.quiet [0])⟩,
 ⟨0, Mv 48 4, (.quiet [0])⟩,
 ⟨1, Op 49 (.nilCheck (.t 48)), (.quiet [0])⟩,
 ⟨2, Op 50 (.fieldAddr 1 (.t 49)), (.quiet [0])⟩,
 ⟨3, Op 51 (.load false 1 (.t 50)), (.quiet [0])⟩,
 ⟨5, Op 53 (.indexAddr 3 (.t 51) (.t 52)), (.quiet [0])⟩,
 ⟨6, Op 54 (.fieldAddr 0 (.t 53)), (.quiet [0])⟩,
 ⟨7, Op 55 (.load false 1 (.t 54)), (.quiet [0])⟩,
 ⟨8, Op 56 (Ca 165 [.t 55]), (.eff)⟩,
 ⟨9, Op 57 (.fieldAddr 0 (.t 6)), (.quiet [0, 9])⟩,
 ⟨10, Op 58 (.load false 1 (.t 57)), (.quiet [0, 9])⟩,
 ⟨11, Op 59 (Ca 165 [.t 58]), (.eff)⟩,
 ⟨12, Op 60 (.bin (.eql) (.t 56) (.t 59)), (.quiet [12])⟩] 0)
 (.cond (.t 60) (.region [Mv 61 7, Op 62 (.bin (.add) (.t 61) (Ci 1)), Mv 7 62])
 (.skip))))
 (.region [Mv 46 8, Op 47 (.bin (.add) (.t 46) (Ci 1)), Mv 8 47]))))))
 (.seq (Rg [Op 63 (.fieldAddr 0 (.t 6)), Op 64 (.load false 1 (.t 63)), Op 65 (.bin (.eql) (.t 64) (Ci 1)), Mv 66 65, Mt 67 7 66, Ot 68 (.bin (.geq) (.t 67) (Ci 6)) 66, Op 69 (.pick (.t 66) (.t 68) (.c (.bool false))), Mv 70 69, Of 71 (.fieldAddr 0 (.t 6)) 70, Of 72 (.load false 1 (.t 71)) 70, Of 73 (.bin (.eql) (.t 72) (Ci 2)) 70, Mf 74 73 70, Mt 75 7 74, Ot 76 (.bin (.geq) (.t 75) (Ci 8)) 74, Of 77 (.pick (.t 74) (.t 76) (.c (.bool false))) 70, Op 78 (.pick (.t 70) (.c (.bool true)) (.t 77)), Mv 79 78, Of 80 (.fieldAddr 0 (.t 6)) 79, Of 81 (.load false 1 (.t 80)) 79, Of 82 (Ca 165 [.t 81]) 79, Of 83 (.bin (.eql) (.t 82) (Ci 3)) 79, Mf 84 83 79, Mt 85 7 84, Ot 86 (.bin (.geq) (.t 85) (Ci 16)) 84, Of 87 (.pick (.t 84) (.t 86) (.c (.bool false))) 79, Op 88 (.pick (.t 79) (.c (.bool true)) (.t 87))]
 (.cond (.t 88) (Rg [Op 89 (.fieldAddr 1 (.t 6)), Op 90 (.load false 1 (.t 89)), Op 91 (Ca 164 [Ci 16, .t 90]), Op 2 (.move (.c (.nilPtr))), On (.store 2 (.t 3) (.t 91))]
 (.ret))
 (.skip)))
 (.seq (Rg [Op 92 (.fieldAddr 0 (.t 6)), Op 93 (.load false 1 (.t 92)), Op 94 (.bin (.eql) (.t 93) (Ci 1)), Mv 95 94, Ot 96 (.fieldAddr 3 (.t 6)) 95, Ot 97 (.load false 1 (.t 96)) 95, Ot 98 (.bin (.lss) (.t 97) (Ci 1)) 95, Mt 99 98 95, Of 100 (.fieldAddr 3 (.t 6)) 99, Of 101 (.load false 1 (.t 100)) 99, Of 102 (.bin (.gtr) (.t 101) (Ci 1000)) 99, Ot 103 (.pick (.t 99) (.c (.bool true)) (.t 102)) 95, Op 104 (.pick (.t 95) (.t 103) (.c (.bool false))), Mv 105 104, Of 106 (.fieldAddr 0 (.t 6)) 105, Of 107 (.load false 1 (.t 106)) 105, Of 108 (.bin (.eql) (.t 107) (Ci 2)) 105, Mf 109 108 105, Ot 110 (.fieldAddr 3 (.t 6)) 109, Ot 111 (.load false 1 (.t 110)) 109, Ot 112 (.bin (.lss) (.t 111) (Ci 0)) 109, Mt 113 112 109, Of 114 (.fieldAddr 3 (.t 6)) 113, Of 115 (.load false 1 (.t 114)) 113, Of 116 (.bin (.gtr) (.t 115) (Ci 1000)) 113, Ot 117 (.pick (.t 113) (.c (.bool true)) (.t 116)) 109, Of 118 (.pick (.t 109) (.t 117) (.c (.bool false))) 105, Op 119 (.pick (.t 105) (.c (.bool true)) (.t 118))]
 (.cond (.t 119) (Rg [Op 120 (.fieldAddr 1 (.t 6)), Op 121 (.load false 1 (.t 120)), Op 122 (Ca 164 [Ci 24, .t 121]), Op 2 (.move (.c (.nilPtr))), On (.store 2 (.t 3) (.t 122))]
 (.ret))
 (.skip)))
 (Rg [Op 123 (.fieldAddr 0 (.t 6)), Op 124 (.load false 1 (.t 123)), Mv 125 7, Op 126 (.build [.int (.i64) 0, .int (.i64) 0, .int (.i64) 0] [(0, 1, .t 124), (1, 1, .t 125)]), Op 9 (.new [.int (.i64) 0, .int (.i64) 0, .int (.i64) 0]), On (.store 3 (.t 9) (.t 126))]
 (.seq (Rg [Op 127 (.fieldAddr 0 (.t 6)), Op 128 (.load false 1 (.t 127)), Op 129 (Ca 165 [.t 128]), Op 130 (.bin (.eql) (.t 129) (Ci 3))]
 (.cond (.t 130) (.region [Op 131 (.fieldAddr 3 (.t 6)), Op 132 (.load false 1 (.t 131)), Op 133 (.fieldAddr 2 (.t 9)), On (.store 1 (.t 133) (.t 132))])
 (.skip)))
 (.draw [⟨7, Op 141 (.fieldAddr 2 (.t 6)), (.quiet [0])⟩,
 ⟨8, Op 142 (.load false 1 (.t 141)), (.quiet [0])⟩,
 ⟨9, Op 143 (.buildSlice [.str []] 1 [(0, 1, .t 142)]), (.eff)⟩,
 ⟨3, Mv 137 4, (.quiet [0, 3])⟩,
 ⟨4, Op 138 (.nilCheck (.t 137)), (.quiet [0, 3])⟩,
 ⟨5, Op 139 (.fieldAddr 0 (.t 138)), (.quiet [0, 3])⟩,
 ⟨6, Op 140 (.load false 1 (.t 139)), (.quiet [0, 3])⟩,
 ⟨10, Op 144 (.append 1 16 (.t 140) (.t 143)), (.eff)⟩,
 ⟨15, Op 149 (.load true 3 (.t 9)), (.quiet [0, 3, 8])⟩,
 ⟨16, Op 150 (.buildSlice [.int (.i64) 0, .int (.i64) 0, .int (.i64) 0] 1 [(0, 3, .t 149)]), (.alloc 0)⟩,
 ⟨11, Mv 145 4, (.quiet [0, 3, 8])⟩,
 ⟨12, Op 146 (.nilCheck (.t 145)), (.quiet [0, 3, 8])⟩,
 ⟨13, Op 147 (.fieldAddr 1 (.t 146)), (.quiet [0, 3, 8])⟩,
 ⟨14, Op 148 (.load false 1 (.t 147)), (.quiet [0, 3, 8])⟩,
 ⟨17, Op 151 (.append 3 24 (.t 148) (.t 150)), (.eff)⟩,
 ⟨22, Op 156 (.fieldAddr 3 (.t 6)), (.quiet [0, 3, 8, 15])⟩,
 ⟨23, Op 157 (.load false 1 (.t 156)), (.quiet [0, 3, 8, 15])⟩,
 ⟨24, Op 158 (.buildSlice [.int (.i64) 0] 1 [(0, 1, .t 157)]), (.alloc 1)⟩,
 ⟨18, Mv 152 4, (.quiet [0, 3, 8, 15])⟩,
 ⟨19, Op 153 (.nilCheck (.t 152)), (.quiet [0, 3, 8, 15])⟩,
 ⟨20, Op 154 (.fieldAddr 5 (.t 153)), (.quiet [0, 3, 8, 15])⟩,
 ⟨21, Op 155 (.load false 1 (.t 154)), (.quiet [0, 3, 8, 15])⟩,
 ⟨25, Op 159 (.append 1 8 (.t 155) (.t 158)), (.eff)⟩,
 ⟨0, Mv 134 4, (.quiet [0, 3, 8, 15, 23])⟩,
 ⟨26, Op 160 (.nilCheck (.t 134)), (.quiet [23])⟩,
 ⟨27, Op 161 (.fieldAddr 0 (.t 160)), (.quiet [23])⟩,
 ⟨28, On (.store 1 (.t 161) (.t 144)), (.eff)⟩,
 ⟨1, Mv 135 4, (.quiet [0, 3, 8, 15, 23, 27])⟩,
 ⟨29, Op 162 (.nilCheck (.t 135)), (.quiet [27])⟩,
 ⟨30, Op 163 (.fieldAddr 1 (.t 162)), (.quiet [27])⟩,
 ⟨31, On (.store 1 (.t 163) (.t 151)), (.eff)⟩,
 ⟨2, Mv 136 4, (.quiet [0, 3, 8, 15, 23, 27, 31])⟩,
 ⟨32, Op 164 (.nilCheck (.t 136)), (.quiet [31])⟩,
 ⟨33, Op 165 (.fieldAddr 5 (.t 164)), (.quiet [31])⟩,
 ⟨34, On (.store 1 (.t 165) (.t 159)), (.eff)⟩] 2))))))))))
 (.region [Mv 22 5, Op 23 (.bin (.add) (.t 22) (Ci 1)), Mv 5 23]))))))
 (.seq (Rg [Op 10 (.move (Ci 0))]
 (.block 4 (.loop (.seq (Rg [Mv 166 10, Op 167 (.fieldAddr 2 (.t 1)), Op 168 (.load false 1 (.t 167)), Op 169 (.len (.slice) (.t 168)), Op 170 (.bin (.lss) (.t 166) (.t 169))]
 (.cond (.t 170) (.skip)
 (.exit 4)))
 (.seq (.block 5 (Rg [Op 173 (.fieldAddr 2 (.t 1)), Op 174 (.load false 1 (.t 173)), Mv 175 10, Op 176 (.indexAddr 5 (.t 174) (.t 175)), Op 177 (.load true 5 (.t 176)), Op 11 (.new [.int (.i64) 0, .str [], .nilSlice, .nilSlice, .nilSlice]), On (.store 5 (.t 11) (.t 177))]
 (.seq (.seq (.draw [⟨4, Op 182 (.fieldAddr 1 (.t 11)), (.quiet [0])⟩,
 ⟨5, Op 183 (.load false 1 (.t 182)), (.quiet [0])⟩,
 ⟨0, Mv 178 4, (.quiet [0])⟩,
 ⟨1, Op 179 (.nilCheck (.t 178)), (.quiet [0])⟩,
 ⟨2, Op 180 (.fieldAddr 0 (.t 179)), (.quiet [0])⟩,
 ⟨3, Op 181 (.load false 1 (.t 180)), (.quiet [0])⟩,
 ⟨6, Op 184 (Ca 163 [.t 181, .t 183]), (.eff)⟩,
 ⟨7, Mv 185 184, (.quiet [7])⟩,
 ⟨12, Of 190 (.fieldAddr 1 (.t 11)) 185, (.quiet [7])⟩,
 ⟨13, Of 191 (.load false 1 (.t 190)) 185, (.quiet [7])⟩,
 ⟨8, Mf 186 4 185, (.quiet [7])⟩,
 ⟨9, Of 187 (.nilCheck (.t 186)) 185, (.quiet [7])⟩,
 ⟨10, Of 188 (.fieldAddr 2 (.t 187)) 185, (.quiet [7])⟩,
 ⟨11, Of 189 (.load false 1 (.t 188)) 185, (.quiet [7])⟩,
 ⟨14, Of 192 (Ca 163 [.t 189, .t 191]) 185, (.eff)⟩,
 ⟨15, Op 193 (.pick (.t 185) (.c (.bool true)) (.t 192)), (.quiet [15])⟩] 0)
 (.cond (.t 193) (Rg [Op 194 (.fieldAddr 0 (.t 11)), Op 195 (.load false 1 (.t 194)), Op 196 (Ca 164 [Ci 17, .t 195]), Op 2 (.move (.c (.nilPtr))), On (.store 2 (.t 3) (.t 196))]
 (.ret))
 (.skip)))
 (.seq (Rg [Mv 197 4, Op 198 (.nilCheck (.t 197)), Op 199 (.fieldAddr 2 (.t 198)), Op 200 (.load false 1 (.t 199)), Op 201 (.len (.slice) (.t 200)), Op 202 (.bin (.geq) (.t 201) (Ci 12))]
 (.cond (.t 202) (Rg [Op 203 (.fieldAddr 0 (.t 11)), Op 204 (.load false 1 (.t 203)), Op 205 (Ca 164 [Ci 16, .t 204]), Op 2 (.move (.c (.nilPtr))), On (.store 2 (.t 3) (.t 205))]
 (.ret))
 (.skip)))
 (Rg [Op 206 (.buildSlice [.str []] 0 []), Mv 12 206]
 (.seq (Rg [Op 13 (.move (Ci 0))]
 (.block 6 (.loop (.seq (Rg [Mv 207 13, Op 208 (.fieldAddr 2 (.t 11)), Op 209 (.load false 1 (.t 208)), Op 210 (.len (.slice) (.t 209)), Op 211 (.fieldAddr 3 (.t 11)), Op 212 (.load false 1 (.t 211)), Op 213 (.len (.slice) (.t 212)), Op 214 (.bin (.add) (.t 210) (.t 213)), Op 215 (.bin (.lss) (.t 207) (.t 214))]
 (.cond (.t 215) (.skip)
 (.exit 6)))
 (.seq (.block 7 (Rg [Op 218 (.build [.int (.i64) 0, .str []] []), Op 14 (.new [.int (.i64) 0, .str []]), On (.store 2 (.t 14) (.t 218))]
 (.seq (Rg [Mv 219 13, Op 220 (.fieldAddr 2 (.t 11)), Op 221 (.load false 1 (.t 220)), Op 222 (.len (.slice) (.t 221)), Op 223 (.bin (.lss) (.t 219) (.t 222))]
 (.cond (.t 223) (.region [Op 224 (.fieldAddr 2 (.t 11)), Op 225 (.load false 1 (.t 224)), Mv 226 13, Op 227 (.indexAddr 2 (.t 225) (.t 226)), Op 228 (.load true 2 (.t 227)), On (.store 2 (.t 14) (.t 228))])
 (.region [Op 229 (.fieldAddr 3 (.t 11)), Op 230 (.load false 1 (.t 229)), Mv 231 13, Op 232 (.fieldAddr 2 (.t 11)), Op 233 (.load false 1 (.t 232)), Op 234 (.len (.slice) (.t 233)), Op 235 (.bin (.sub) (.t 231) (.t 234)), Op 236 (.indexAddr 2 (.t 230) (.t 235)), Op 237 (.load true 2 (.t 236)), On (.store 2 (.t 14) (.t 237))])))
 (.seq (Rg [Mv 238 12, Op 239 (.fieldAddr 1 (.t 14)), Op 240 (.load false 1 (.t 239)), Op 241 (Ca 163 [.t 238, .t 240])]
 (.cond (.t 241) (Rg [Op 242 (.fieldAddr 0 (.t 14)), Op 243 (.load false 1 (.t 242)), Op 244 (Ca 164 [Ci 17, .t 243]), Op 2 (.move (.c (.nilPtr))), On (.store 2 (.t 3) (.t 244))]
 (.ret))
 (.skip)))
 (.seq (Rg [Mv 245 13, Op 246 (.fieldAddr 2 (.t 11)), Op 247 (.load false 1 (.t 246)), Op 248 (.len (.slice) (.t 247)), Op 249 (.bin (.lss) (.t 245) (.t 248)), Mv 250 249, Mt 251 13 250, Ot 252 (.bin (.geq) (.t 251) (Ci 4)) 250, Op 253 (.pick (.t 250) (.t 252) (.c (.bool false))), Mv 254 253, Mf 255 13 254, Of 256 (.bin (.geq) (.t 255) (Ci 8)) 254, Op 257 (.pick (.t 254) (.c (.bool true)) (.t 256))]
 (.cond (.t 257) (Rg [Op 258 (.fieldAddr 0 (.t 14)), Op 259 (.load false 1 (.t 258)), Op 260 (Ca 164 [Ci 16, .t 259]), Op 2 (.move (.c (.nilPtr))), On (.store 2 (.t 3) (.t 260))]
 (.ret))
 (.skip)))
 (.region [Mv 261 12, Op 262 (.fieldAddr 1 (.t 14)), Op 263 (.load false 1 (.t 262)), Op 264 (.buildSlice [.str []] 1 [(0, 1, .t 263)]), Op 265 (.append 1 16 (.t 261) (.t 264)), Mv 12 265]))))))
 (.region [Mv 216 13, Op 217 (.bin (.add) (.t 216) (Ci 1)), Mv 13 217]))))))
 (.draw [⟨7, Op 273 (.fieldAddr 1 (.t 11)), (.quiet [0])⟩,
 ⟨8, Op 274 (.load false 1 (.t 273)), (.quiet [0])⟩,
 ⟨9, Op 275 (.buildSlice [.str []] 1 [(0, 1, .t 274)]), (.eff)⟩,
 ⟨3, Mv 269 4, (.quiet [0, 3])⟩,
 ⟨4, Op 270 (.nilCheck (.t 269)), (.quiet [0, 3])⟩,
 ⟨5, Op 271 (.fieldAddr 2 (.t 270)), (.quiet [0, 3])⟩,
 ⟨6, Op 272 (.load false 1 (.t 271)), (.quiet [0, 3])⟩,
 ⟨10, Op 276 (.append 1 16 (.t 272) (.t 275)), (.eff)⟩,
 ⟨15, Op 281 (.fieldAddr 2 (.t 11)), (.quiet [0, 3, 8])⟩,
 ⟨16, Op 282 (.load false 1 (.t 281)), (.quiet [0, 3, 8])⟩,
 ⟨17, Op 283 (.len (.slice) (.t 282)), (.quiet [0, 3, 8])⟩,
 ⟨18, Op 284 (.buildSlice [.int (.i64) 0] 1 [(0, 1, .t 283)]), (.alloc 0)⟩,
 ⟨11, Mv 277 4, (.quiet [0, 3, 8])⟩,
 ⟨12, Op 278 (.nilCheck (.t 277)), (.quiet [0, 3, 8])⟩,
 ⟨13, Op 279 (.fieldAddr 3 (.t 278)), (.quiet [0, 3, 8])⟩,
 ⟨14, Op 280 (.load false 1 (.t 279)), (.quiet [0, 3, 8])⟩,
 ⟨19, Op 285 (.append 1 8 (.t 280) (.t 284)), (.eff)⟩,
 ⟨24, Mv 290 12, (.quiet [0, 3, 8, 17])⟩,
 ⟨25, Op 291 (.buildSlice [.nilSlice] 1 [(0, 1, .t 290)]), (.alloc 1)⟩,
 ⟨20, Mv 286 4, (.quiet [0, 3, 8, 17])⟩,
 ⟨21, Op 287 (.nilCheck (.t 286)), (.quiet [0, 3, 8, 17])⟩,
 ⟨22, Op 288 (.fieldAddr 4 (.t 287)), (.quiet [0, 3, 8, 17])⟩,
 ⟨23, Op 289 (.load false 1 (.t 288)), (.quiet [0, 3, 8, 17])⟩,
 ⟨26, Op 292 (.append 1 24 (.t 289) (.t 291)), (.eff)⟩,
 ⟨0, Mv 266 4, (.quiet [0, 3, 8, 17, 24])⟩,
 ⟨27, Op 293 (.nilCheck (.t 266)), (.quiet [24])⟩,
 ⟨28, Op 294 (.fieldAddr 2 (.t 293)), (.quiet [24])⟩,
 ⟨29, On (.store 1 (.t 294) (.t 276)), (.eff)⟩,
 ⟨1, Mv 267 4, (.quiet [0, 3, 8, 17, 24, 28])⟩,
 ⟨30, Op 295 (.nilCheck (.t 267)), (.quiet [28])⟩,
 ⟨31, Op 296 (.fieldAddr 3 (.t 295)), (.quiet [28])⟩,
 ⟨32, On (.store 1 (.t 296) (.t 285)), (.eff)⟩,
 ⟨2, Mv 268 4, (.quiet [0, 3, 8, 17, 24, 28, 32])⟩,
 ⟨33, Op 297 (.nilCheck (.t 268)), (.quiet [32])⟩,
 ⟨34, Op 298 (.fieldAddr 4 (.t 297)), (.quiet [32])⟩,
 ⟨35, On (.store 1 (.t 298) (.t 292)), (.eff)⟩] 2)))))))
 (.region [Mv 171 10, Op 172 (.bin (.add) (.t 171) (Ci 1)), Mv 10 172]))))))
 (Rg [Mv 299 4, Op 300 (.build [.int (.i64) 0, .int (.i64) 0] []), Mv 2 299, On (.store 2 (.t 3) (.t 300))]
 (.ret)))))⟩
theorem ok90 : compFunc prog glb 90 p90 = some c90 := by kernel_rfl
def p91 : List Plan := []
def c91 : CFunc := ⟨50, [.cell 4 true 2],
 Rg [Op 2 (.box (.t 0)), Op 4 (.new [.int (.i64) 0, .int (.i64) 0])]
 (Rg [Mv 7 1, Op 8 (.build [.nilPtr, .int (.i64) 0, .nilSlice, .str [], .int (.i64) 0, .int (.i64) 0] [(0, 1, .t 7)]), Op 9 (.box (.t 8)), Mv 5 9]
 (.seq (Rg [Op 6 (.move (Ci 0))]
 (.block 0 (.loop (.seq (Rg [Mv 10 6, Op 11 (.fieldAddr 2 (.t 2)), Op 12 (.load false 1 (.t 11)), Op 13 (.len (.slice) (.t 12)), Op 14 (.bin (.lss) (.t 10) (.t 13)), Mv 15 14, Mt 16 5 15, Ot 17 (Ca 166 [.t 16]) 15, Ot 18 (.un (.not) (.t 17)) 15, Op 19 (.pick (.t 15) (.t 18) (.c (.bool false)))]
 (.cond (.t 19) (.skip)
 (.exit 0)))
 (.seq (.block 1 (Rg [Mv 22 5, Mv 23 6, Op 24 (.bin (.add) (.t 23) (Ci 1)), Op 25 (.nilCheck (.t 22)), Op 26 (.fieldAddr 1 (.t 25)), On (.store 1 (.t 26) (.t 24))]
 (.region [Mv 27 5, Op 28 (.fieldAddr 2 (.t 2)), Op 29 (.load false 1 (.t 28)), Mv 30 6, Op 31 (.indexAddr 5 (.t 29) (.t 30)), Op 32 (.fieldAddr 4 (.t 31)), Op 33 (.load false 1 (.t 32)), Op 34 (Ca 167 [.t 27, .t 33])])))
 (.region [Mv 20 6, Op 21 (.bin (.add) (.t 20) (Ci 1)), Mv 6 21]))))))
 (Rg [Mv 35 5, Op 36 (.nilCheck (.t 35)), Op 37 (.fieldAddr 1 (.t 36)), On (.store 1 (.t 37) (Ci 0))]
 (Rg [Mv 38 5, Op 39 (.fieldAddr 3 (.t 2)), Op 40 (.load false 1 (.t 39)), Op 41 (Ca 168 [.t 38, .t 40])]
 (Rg [Mv 42 5, Op 43 (.fieldAddr 4 (.t 2)), Op 44 (.load false 1 (.t 43)), Op 45 (Ca 167 [.t 42, .t 44])]
 (Rg [Mv 46 5, Op 47 (.nilCheck (.t 46)), Op 48 (.fieldAddr 4 (.t 47)), Op 49 (.load true 2 (.t 48)), On (.store 2 (.t 4) (.t 49))]
 (.ret)))))))⟩
theorem ok91 : compFunc prog glb 91 p91 = some c91 := by kernel_rfl
def p92 : List Plan := []
def c92 : CFunc := ⟨31, [.tmp 4],
 Rg [Op 4 (.move (.c (.bool false)))]
 (Rg [Mv 10 0, Op 11 (.nilCheck (.t 10)), Op 12 (.fieldAddr 0 (.t 11)), Op 13 (.load false 1 (.t 12)), Mv 14 1, Op 15 (.lookup (.one (.str)) (.agg [.int (.i64) 0, .int (.i64) 0, .int (.i64) 0]) true (.t 13) (.t 14)), Mv 9 15, Op 16 (.extract (.t 9) 0), Op 17 (.extract (.t 9) 1), Op 5 (.new [.int (.i64) 0, .int (.i64) 0, .int (.i64) 0]), On (.store 3 (.t 5) (.t 16)), Mv 6 17]
 (Rg [Mv 19 0, Op 20 (.nilCheck (.t 19)), Op 21 (.fieldAddr 1 (.t 20)), Op 22 (.load false 1 (.t 21)), Mv 23 1, Op 24 (.lookup (.one (.str)) (.int (.i64) 0) true (.t 22) (.t 23)), Mv 18 24, Op 25 (.extract (.t 18) 0), Op 26 (.extract (.t 18) 1), Mv 7 25, Mv 8 26]
 (Rg [Mv 27 6, Mv 28 27, Mf 29 8 28, Op 30 (.pick (.t 28) (.c (.bool true)) (.t 29)), Mv 4 30]
 (.ret))))⟩
theorem ok92 : compFunc prog glb 92 p92 = some c92 := by kernel_rfl
def p93 : List Plan := []
def c93 : CFunc := ⟨18, [.tmp 2],
 Rg [Op 2 (.move (.c (.nilIface)))]
 (.seq (Rg [Mv 3 0]
 (.block 0 (Rg [Op 5 (.bin (.eql) (.t 3) (Ci 1)), Mv 4 5]
 (.cond (.t 4) (Rg [Op 6 (.build [] []), Op 7 (.iface 275 (.t 6)), Mv 2 7]
 (.ret))
 (Rg [Op 9 (.bin (.eql) (.t 3) (Ci 2)), Mv 8 9]
 (.cond (.t 8) (Rg [Op 10 (.build [] []), Op 11 (.iface 276 (.t 10)), Mv 2 11]
 (.ret))
 (Rg [Op 13 (.bin (.eql) (.t 3) (Ci 3)), Mv 12 13]
 (.cond (.t 12) (Rg [Op 14 (.build [] []), Op 15 (.iface 279 (.t 14)), Mv 2 15]
 (.ret))
 (.skip)))))))))
 (Rg [Op 16 (.build [] []), Op 17 (.iface 277 (.t 16)), Mv 2 17]
 (.ret)))⟩
theorem ok93 : compFunc prog glb 93 p93 = some c93 := by kernel_rfl
def p94 : List Plan := [⟨[(6, .quiet [0]), (7, .quiet [0]), (8, .quiet [0]), (9, .quiet [0]), (10, .quiet [0]), (4, .quiet [0]), (5, .quiet [0]), (0, .quiet [0]), (1, .quiet [0]), (2, .quiet [0]), (3, .quiet [0]), (11, .eff)], 0, [0, 1, 3, 7, 0, 16, 0, 64, 192, 448, 960, 2047]⟩, ⟨[(6, .quiet [0]), (7, .eff), (2, .quiet [0, 2]), (3, .quiet [0, 2]), (4, .quiet [0, 2]), (5, .quiet [0, 2]), (8, .eff), (13, .quiet [0, 2, 7]), (14, .quiet [0, 2, 7]), (15, .quiet [0, 2, 7]), (16, .alloc 0), (9, .quiet [0, 2, 7]), (10, .quiet [0, 2, 7]), (11, .quiet [0, 2, 7]), (12, .quiet [0, 2, 7]), (17, .eff), (0, .quiet [0, 2, 7, 16]), (18, .quiet [16]), (19, .quiet [16]), (20, .eff), (1, .quiet [0, 2, 7, 16, 20]), (21, .quiet [20]), (22, .quiet [20]), (23, .eff)], 1, [0, 0, 0, 4, 12, 28, 0, 64, 252, 0, 512, 1536, 3584, 0, 8192, 24576, 57344, 131068, 262141, 524285, 1048573, 2097151, 4194303, 8388607]⟩]
def c94 : CFunc := ⟨107, [.cell 4 true 2],
 Rg [Op 3 (.box (.t 1)), Op 4 (.new [.int (.i64) 0, .int (.i64) 0])]
 (.seq (.block 0 (Rg [Mv 11 0, Op 12 (.fieldAddr 1 (.t 3)), Op 13 (.load false 1 (.t 12)), Op 14 (Ca 92 [.t 11, .t 13]), Mv 10 14]
 (.cond (.t 10) (Rg [Op 15 (.fieldAddr 0 (.t 3)), Op 16 (.load false 1 (.t 15)), Op 17 (.build [.int (.i64) 0, .int (.i64) 0] [(0, 1, Ci 17), (1, 1, .t 16)]), On (.store 2 (.t 4) (.t 17))]
 (.ret))
 (Rg [Mv 19 0, Op 20 (.nilCheck (.t 19)), Op 21 (.fieldAddr 1 (.t 20)), Op 22 (.load false 1 (.t 21)), Op 23 (.len (.map) (.t 22)), Op 24 (.bin (.geq) (.t 23) (Ci 12)), Mv 18 24]
 (.cond (.t 18) (Rg [Op 25 (.fieldAddr 0 (.t 3)), Op 26 (.load false 1 (.t 25)), Op 27 (.build [.int (.i64) 0, .int (.i64) 0] [(0, 1, Ci 16), (1, 1, .t 26)]), On (.store 2 (.t 4) (.t 27))]
 (.ret))
 (.skip))))))
 (.seq (.draw [⟨6, Mv 34 0, (.quiet [0])⟩,
 ⟨7, Op 35 (.nilCheck (.t 34)), (.quiet [0])⟩,
 ⟨8, Op 36 (.fieldAddr 2 (.t 35)), (.quiet [0])⟩,
 ⟨9, Op 37 (.load false 1 (.t 36)), (.quiet [0])⟩,
 ⟨10, Op 38 (.len (.slice) (.t 37)), (.quiet [0])⟩,
 ⟨4, Op 32 (.fieldAddr 1 (.t 3)), (.quiet [0])⟩,
 ⟨5, Op 33 (.load false 1 (.t 32)), (.quiet [0])⟩,
 ⟨0, Mv 28 0, (.quiet [0])⟩,
 ⟨1, Op 29 (.nilCheck (.t 28)), (.quiet [0])⟩,
 ⟨2, Op 30 (.fieldAddr 1 (.t 29)), (.quiet [0])⟩,
 ⟨3, Op 31 (.load false 1 (.t 30)), (.quiet [0])⟩,
 ⟨11, On (.mapUpdate (.one (.str)) (.t 31) (.t 33) (.t 38)), (.eff)⟩] 0)
 (Rg [Op 39 (.newMap), Mv 5 39]
 (.seq (Rg [Op 40 (.fieldAddr 2 (.t 3)), Op 41 (.load false 1 (.t 40)), Op 42 (.fieldAddr 3 (.t 3)), Op 43 (.load false 1 (.t 42)), Op 44 (.buildSlice [.nilSlice] 2 [(0, 1, .t 41), (1, 1, .t 43)]), Op 45 (Ca 169 [.t 44]), Op 46 (.len (.slice) (.t 45)), Op 47 (.move (Ci 0))]
 (.block 1 (.loop (Rg [Op 48 (.bin (.lss) (.t 47) (.t 46))]
 (.seq (.cond (.t 48) (.skip)
 (.exit 1))
 (.seq (.block 2 (Rg [Mv 49 47, Op 50 (.indexAddr 2 (.t 45) (.t 47)), Op 51 (.load true 2 (.t 50)), Op 7 (.new [.int (.i64) 0, .str []]), Mv 6 49, On (.store 2 (.t 7) (.t 51))]
 (.seq (Rg [Mv 53 5, Op 54 (.fieldAddr 1 (.t 7)), Op 55 (.load false 1 (.t 54)), Op 56 (.lookup (.one (.str)) (.int (.i64) 0) true (.t 53) (.t 55)), Mv 52 56, Op 57 (.extract (.t 52) 0), Op 58 (.extract (.t 52) 1), Mv 8 57, Mv 9 58]
 (Rg [Mv 59 9]
 (.cond (.t 59) (Rg [Op 60 (.fieldAddr 0 (.t 7)), Op 61 (.load false 1 (.t 60)), Op 62 (.build [.int (.i64) 0, .int (.i64) 0] [(0, 1, Ci 17), (1, 1, .t 61)]), On (.store 2 (.t 4) (.t 62))]
 (.ret))
 (.skip))))
 (.seq (Rg [Mv 63 6, Op 64 (.fieldAddr 2 (.t 3)), Op 65 (.load false 1 (.t 64)), Op 66 (.len (.slice) (.t 65)), Op 67 (.bin (.lss) (.t 63) (.t 66)), Mv 68 67, Mt 69 6 68, Ot 70 (.bin (.geq) (.t 69) (Ci 4)) 68, Op 71 (.pick (.t 68) (.t 70) (.c (.bool false))), Mv 72 71, Mf 73 6 72, Of 74 (.bin (.geq) (.t 73) (Ci 8)) 72, Op 75 (.pick (.t 72) (.c (.bool true)) (.t 74))]
 (.cond (.t 75) (Rg [Op 76 (.fieldAddr 0 (.t 7)), Op 77 (.load false 1 (.t 76)), Op 78 (.build [.int (.i64) 0, .int (.i64) 0] [(0, 1, Ci 16), (1, 1, .t 77)]), On (.store 2 (.t 4) (.t 78))]
 (.ret))
 (.skip)))
 (.region [Mv 79 5, Op 80 (.fieldAddr 1 (.t 7)), Op 81 (.load false 1 (.t 80)), Mv 82 6, On (.mapUpdate (.one (.str)) (.t 79) (.t 81) (.t 82))])))))
 (.region [Op 83 (.bin (.add) (.t 47) (Ci 1)), Mv 47 83])))))))
 (.seq (.draw [⟨6, Mv 90 5, (.quiet [0])⟩,
 ⟨7, Op 91 (.buildSlice [.nilMap] 1 [(0, 1, .t 90)]), (.eff)⟩,
 ⟨2, Mv 86 0, (.quiet [0, 2])⟩,
 ⟨3, Op 87 (.nilCheck (.t 86)), (.quiet [0, 2])⟩,
 ⟨4, Op 88 (.fieldAddr 2 (.t 87)), (.quiet [0, 2])⟩,
 ⟨5, Op 89 (.load false 1 (.t 88)), (.quiet [0, 2])⟩,
 ⟨8, Op 92 (.append 1 8 (.t 89) (.t 91)), (.eff)⟩,
 ⟨13, Op 97 (.fieldAddr 2 (.t 3)), (.quiet [0, 2, 7])⟩,
 ⟨14, Op 98 (.load false 1 (.t 97)), (.quiet [0, 2, 7])⟩,
 ⟨15, Op 99 (.len (.slice) (.t 98)), (.quiet [0, 2, 7])⟩,
 ⟨16, Op 100 (.buildSlice [.int (.i64) 0] 1 [(0, 1, .t 99)]), (.alloc 0)⟩,
 ⟨9, Mv 93 0, (.quiet [0, 2, 7])⟩,
 ⟨10, Op 94 (.nilCheck (.t 93)), (.quiet [0, 2, 7])⟩,
 ⟨11, Op 95 (.fieldAddr 3 (.t 94)), (.quiet [0, 2, 7])⟩,
 ⟨12, Op 96 (.load false 1 (.t 95)), (.quiet [0, 2, 7])⟩,
 ⟨17, Op 101 (.append 1 8 (.t 96) (.t 100)), (.eff)⟩,
 ⟨0, Mv 84 0, (.quiet [0, 2, 7, 16])⟩,
 ⟨18, Op 102 (.nilCheck (.t 84)), (.quiet [16])⟩,
 ⟨19, Op 103 (.fieldAddr 2 (.t 102)), (.quiet [16])⟩,
 ⟨20, On (.store 1 (.t 103) (.t 92)), (.eff)⟩,
 ⟨1, Mv 85 0, (.quiet [0, 2, 7, 16, 20])⟩,
 ⟨21, Op 104 (.nilCheck (.t 85)), (.quiet [20])⟩,
 ⟨22, Op 105 (.fieldAddr 3 (.t 104)), (.quiet [20])⟩,
 ⟨23, On (.store 1 (.t 105) (.t 101)), (.eff)⟩] 1)
 (Rg [Op 106 (.build [.int (.i64) 0, .int (.i64) 0] []), On (.store 2 (.t 4) (.t 106))]
 (.ret)))))))⟩
theorem ok94 : compFunc prog glb 94 p94 = some c94 := by kernel_rfl
def p95 : List Plan := []
def c95 : CFunc := ⟨10, [.tmp 2],
 Rg [Op 2 (.move (.c (.nilSlice)))]
 (.seq (Rg [Mv 3 0, Op 4 (.eq (.ptr) false (.t 3) (.c (.nilPtr)))]
 (.cond (.t 4) (Rg [Op 2 (.move (.c (.nilSlice)))]
 (.ret))
 (.skip)))
 (Rg [Mv 5 0, Op 6 (.nilCheck (.t 5)), Op 7 (.fieldAddr 4 (.t 6)), Op 8 (.load false 1 (.t 7)), Op 9 (Ca 170 [.t 8]), Mv 2 9]
 (.ret)))⟩
theorem ok95 : compFunc prog glb 95 p95 = some c95 := by kernel_rfl
def p96 : List Plan := [⟨[(5, .eff), (6, .eff), (1, .quiet [0, 1, 2]), (2, .quiet [0, 1, 2]), (3, .quiet [0, 1, 2]), (4, .quiet [0, 1, 2]), (7, .eff), (0, .quiet [0, 1, 2, 7]), (8, .quiet [7]), (9, .quiet [7]), (10, .eff)], 0, [0, 0, 2, 6, 14, 0, 32, 126, 255, 511, 1023]⟩]
def c96 : CFunc := ⟨96, [.tmp 10, .tmp 11],
 Rg [Op 10 (.move (.c (.nilPtr))), Op 11 (.move (Ci 0))]
 (Rg [Mv 22 3, Op 23 (Ca 171 [.t 22]), Mv 21 23, Op 24 (.extract (.t 21) 0), Op 25 (.extract (.t 21) 1), Mv 12 24, Mv 13 25]
 (Rg [Mv 27 2, Mv 28 4, Op 29 (Ca 172 [.t 27, .t 28]), Mv 26 29, Op 30 (.extract (.t 26) 0), Op 31 (.extract (.t 26) 1), Mv 14 30, Mv 15 31]
 (.seq (Rg [Mv 32 13, Op 33 (.bin (.neq) (.t 32) (Ci 0)), Mv 34 33, Mf 35 15 34, Of 36 (.bin (.neq) (.t 35) (Ci 0)) 34, Op 37 (.pick (.t 34) (.c (.bool true)) (.t 36)), Mv 38 37, Mf 39 0 38, Of 40 (.len (.slice) (.t 39)) 38, Of 41 (.bin (.gtr) (.t 40) (Ci 8)) 38, Op 42 (.pick (.t 38) (.c (.bool true)) (.t 41)), Mv 43 42, Mf 44 1 43, Of 45 (.bin (.lss) (.t 44) (Ci 0)) 43, Op 46 (.pick (.t 43) (.c (.bool true)) (.t 45)), Mv 47 46, Mf 48 1 47, Of 49 (.bin (.gtr) (.t 48) (Ci 16)) 47, Op 50 (.pick (.t 47) (.c (.bool true)) (.t 49))]
 (.cond (.t 50) (Rg [Op 10 (.move (.c (.nilPtr))), Op 11 (.move (Ci 1))]
 (.ret))
 (.skip)))
 (Rg [Mv 51 12, Mv 52 14, Mv 53 2, Op 54 (.len (.slice) (.t 53)), Op 55 (.build [.nilPtr, .nilPtr, .nilSlice, .nilSlice, .int (.i64) 0, .nilSlice] [(0, 1, .t 51), (1, 1, .t 52), (4, 1, .t 54)]), Op 56 (.box (.t 55)), Mv 16 56]
 (.seq (Rg [Mv 57 0, Op 58 (.len (.slice) (.t 57)), Op 59 (.move (Ci 0))]
 (.block 0 (.loop (Rg [Op 60 (.bin (.lss) (.t 59) (.t 58))]
 (.seq (.cond (.t 60) (.skip)
 (.exit 0))
 (.seq (.block 1 (Rg [Op 61 (.indexAddr 1 (.t 57) (.t 59)), Op 62 (.load false 1 (.t 61)), Mv 18 62]
 (Rg [Mv 64 18, Op 65 (Ca 173 [.t 64]), Mv 63 65, Op 66 (.extract (.t 63) 0), Op 67 (.extract (.t 63) 1), Mv 19 66, Mv 20 67]
 (.seq (Rg [Mv 68 20, Op 69 (.bin (.neq) (.t 68) (Ci 0))]
 (.cond (.t 69) (Rg [Op 10 (.move (.c (.nilPtr))), Op 11 (.move (Ci 1))]
 (.ret))
 (.skip)))
 (.region [Mv 70 16, Mv 71 16, Op 72 (.nilCheck (.t 71)), Op 73 (.fieldAddr 2 (.t 72)), Op 74 (.load false 1 (.t 73)), Mv 75 19, Op 76 (.buildSlice [.nilPtr] 1 [(0, 1, .t 75)]), Op 77 (.append 1 8 (.t 74) (.t 76)), Op 78 (.nilCheck (.t 70)), Op 79 (.fieldAddr 2 (.t 78)), On (.store 1 (.t 79) (.t 77))])))))
 (.region [Op 80 (.bin (.add) (.t 59) (Ci 1)), Mv 59 80])))))))
 (.seq (Rg [Mv 81 1, Op 82 (.move (Ci 0))]
 (.block 2 (.loop (Rg [Op 83 (.bin (.lss) (.t 82) (.t 81))]
 (.seq (.cond (.t 83) (.skip)
 (.exit 2))
 (.seq (.block 3 (.draw [⟨5, Op 89 (Ca 174 []), (.eff)⟩,
 ⟨6, Op 90 (.buildSlice [.nilPtr] 1 [(0, 1, .t 89)]), (.eff)⟩,
 ⟨1, Mv 85 16, (.quiet [0, 1, 2])⟩,
 ⟨2, Op 86 (.nilCheck (.t 85)), (.quiet [0, 1, 2])⟩,
 ⟨3, Op 87 (.fieldAddr 3 (.t 86)), (.quiet [0, 1, 2])⟩,
 ⟨4, Op 88 (.load false 1 (.t 87)), (.quiet [0, 1, 2])⟩,
 ⟨7, Op 91 (.append 1 8 (.t 88) (.t 90)), (.eff)⟩,
 ⟨0, Mv 84 16, (.quiet [0, 1, 2, 7])⟩,
 ⟨8, Op 92 (.nilCheck (.t 84)), (.quiet [7])⟩,
 ⟨9, Op 93 (.fieldAddr 3 (.t 92)), (.quiet [7])⟩,
 ⟨10, On (.store 1 (.t 93) (.t 91)), (.eff)⟩] 0))
 (.region [Op 94 (.bin (.add) (.t 82) (Ci 1)), Mv 82 94])))))))
 (Rg [Mv 95 16, Mv 10 95, Op 11 (.move (Ci 0))]
 (.ret))))))))⟩
theorem ok96 : compFunc prog glb 96 p96 = some c96 := by kernel_rfl
def p97 : List Plan := []
def c97 : CFunc := ⟨10, [.tmp 2],
 Rg [Op 2 (.move (.c (.nilSlice)))]
 (.seq (Rg [Mv 3 0, Op 4 (.eq (.ptr) false (.t 3) (.c (.nilPtr)))]
 (.cond (.t 4) (Rg [Op 2 (.move (.c (.nilSlice)))]
 (.ret))
 (.skip)))
 (Rg [Mv 5 0, Op 6 (.nilCheck (.t 5)), Op 7 (.fieldAddr 5 (.t 6)), Op 8 (.load false 1 (.t 7)), Op 9 (Ca 25 [.t 8]), Mv 2 9]
 (.ret)))⟩
theorem ok97 : compFunc prog glb 97 p97 = some c97 := by kernel_rfl
def p98 : List Plan := []
def c98 : CFunc := ⟨10, [.tmp 2],
 Rg [Op 2 (.move (Ci 0))]
 (.seq (Rg [Mv 3 0, Op 4 (.eq (.ptr) false (.t 3) (.c (.nilPtr)))]
 (.cond (.t 4) (Rg [Op 2 (.move (Ci 0))]
 (.ret))
 (.skip)))
 (Rg [Mv 5 0, Op 6 (.nilCheck (.t 5)), Op 7 (.fieldAddr 7 (.t 6)), Op 8 (.load false 1 (.t 7)), Op 9 (.len (.map) (.t 8)), Mv 2 9]
 (.ret)))⟩
theorem ok98 : compFunc prog glb 98 p98 = some c98 := by kernel_rfl
def p99 : List Plan := []
def c99 : CFunc := ⟨10, [.tmp 2],
 Rg [Op 2 (.move (.c (.nilSlice)))]
 (.seq (Rg [Mv 3 0, Op 4 (.eq (.ptr) false (.t 3) (.c (.nilPtr)))]
 (.cond (.t 4) (Rg [Op 2 (.move (.c (.nilSlice)))]
 (.ret))
 (.skip)))
 (Rg [Mv 5 0, Op 6 (.nilCheck (.t 5)), Op 7 (.fieldAddr 6 (.t 6)), Op 8 (.load false 1 (.t 7)), Op 9 (Ca 25 [.t 8]), Mv 2 9]
 (.ret)))⟩
theorem ok99 : compFunc prog glb 99 p99 = some c99 := by kernel_rfl
def p100 : List Plan := []
def c100 : CFunc := ⟨33, [.cell 4 false 1, .tmp 5],
 Rg [Op 2 (.box (.t 0)), Op 4 (.new [.nilSlice]), Op 5 (.move (Ci 0))]
 (.seq (.block 0 (Rg [Op 7 (.load false 1 (.t 2)), Op 8 (.eq (.ptr) false (.t 7) (.c (.nilPtr))), Mv 9 8, Of 10 (.load false 1 (.t 2)) 9, Of 11 (.nilCheck (.t 10)) 9, Of 12 (.fieldAddr 0 (.t 11)) 9, Of 13 (.load false 1 (.t 12)) 9, Of 14 (Ca 87 [.t 13]) 9, Of 15 (.bin (.gtr) (.t 14) (Ci 0)) 9, Op 16 (.pick (.t 9) (.c (.bool true)) (.t 15)), Mv 6 16]
 (.cond (.t 6) (Rg [On (.store 1 (.t 4) (.c (.nilSlice))), Op 5 (.move (Ci 4))]
 (.ret))
 (Rg [Mv 18 1, Op 19 (.load false 1 (.t 2)), Op 20 (.nilCheck (.t 19)), Op 21 (.fieldAddr 4 (.t 20)), Op 22 (.load false 1 (.t 21)), Op 23 (Ca 175 [.t 18, .t 22]), Op 24 (.un (.not) (.t 23)), Mv 17 24]
 (.cond (.t 17) (Rg [On (.store 1 (.t 4) (.c (.nilSlice))), Op 5 (.move (Ci 1))]
 (.ret))
 (.skip))))))
 (Rg [Op 25 (.func 176 [] [.t 2, .t 4]), On (.defer (.t 25) [])]
 (Rg [Op 27 (.load false 1 (.t 2)), Mv 28 1, Op 29 (Ca 177 [.t 27, Ci 0, .t 28]), Mv 26 29, Op 30 (.extract (.t 26) 0), Op 31 (.extract (.t 26) 1), Mv 5 31]
 (Rg [Mv 32 5, On (.store 1 (.t 4) (.c (.nilSlice))), Mv 5 32]
 (.ret)))))⟩
theorem ok100 : compFunc prog glb 100 p100 = some c100 := by kernel_rfl
def p101 : List Plan := [⟨[(4, .quiet [0]), (5, .quiet [0]), (0, .quiet [0]), (1, .quiet [0]), (2, .quiet [0]), (3, .quiet [0]), (6, .eff), (10, .alloc 0), (7, .quiet [7]), (8, .quiet [7]), (11, .eff), (9, .quiet [7, 11]), (12, .quiet [11])], 1, [0, 1, 3, 7, 0, 16, 63, 127, 255, 255, 0, 1535, 4095]⟩]
def c101 : CFunc := ⟨47, [.tmp 4],
 Rg [Op 4 (.move (.c (.nilSlice)))]
 (Rg [Mv 10 0, Op 11 (.nilCheck (.t 10)), Op 12 (.fieldAddr 5 (.t 11)), Op 13 (.load false 1 (.t 12)), Op 14 (Ca 99 [.t 13]), Op 15 (.len (.slice) (.t 14)), Op 16 (.makeSlice [.int (.i64) 0] 8 (.t 15) (.t 15)), Mv 5 16]
 (.seq (Rg [Mv 17 1, Op 18 (.len (.slice) (.t 17)), Op 19 (.move (Ci 0))]
 (.block 0 (.loop (Rg [Op 20 (.bin (.lss) (.t 19) (.t 18))]
 (.seq (.cond (.t 20) (.skip)
 (.exit 0))
 (.seq (.block 1 (Rg [Op 21 (.indexAddr 3 (.t 17) (.t 19)), Op 22 (.load true 3 (.t 21)), Op 7 (.new [.int (.i64) 0, .str [], .int (.i64) 0]), On (.store 3 (.t 7) (.t 22))]
 (.seq (.draw [⟨4, Op 28 (.fieldAddr 1 (.t 7)), (.quiet [0])⟩,
 ⟨5, Op 29 (.load false 1 (.t 28)), (.quiet [0])⟩,
 ⟨0, Mv 24 0, (.quiet [0])⟩,
 ⟨1, Op 25 (.nilCheck (.t 24)), (.quiet [0])⟩,
 ⟨2, Op 26 (.fieldAddr 5 (.t 25)), (.quiet [0])⟩,
 ⟨3, Op 27 (.load false 1 (.t 26)), (.quiet [0])⟩,
 ⟨6, Op 30 (Ca 112 [.t 27, .t 29]), (.eff)⟩,
 ⟨10, Op 8 (.new [.int (.i64) 0, .int (.i64) 0, .int (.i64) 0]), (.alloc 0)⟩,
 ⟨7, Mv 23 30, (.quiet [7])⟩,
 ⟨8, Op 31 (.extract (.t 23) 0), (.quiet [7])⟩,
 ⟨11, On (.store 3 (.t 8) (.t 31)), (.eff)⟩,
 ⟨9, Op 32 (.extract (.t 23) 1), (.quiet [7, 11])⟩,
 ⟨12, Mv 9 32, (.quiet [11])⟩] 1)
 (Rg [Mv 33 9, Mv 34 33, Ot 35 (.fieldAddr 0 (.t 8)) 34, Ot 36 (.load false 1 (.t 35)) 34, Ot 37 (.bin (.eql) (.t 36) (Ci 1)) 34, Op 38 (.pick (.t 34) (.t 37) (.c (.bool false)))]
 (.cond (.t 38) (.region [Mv 39 5, Op 40 (.fieldAddr 1 (.t 8)), Op 41 (.load false 1 (.t 40)), Op 42 (.fieldAddr 2 (.t 7)), Op 43 (.load false 1 (.t 42)), Op 44 (.indexAddr 1 (.t 39) (.t 41)), On (.store 1 (.t 44) (.t 43))])
 (.skip))))))
 (.region [Op 45 (.bin (.add) (.t 19) (Ci 1)), Mv 19 45])))))))
 (Rg [Mv 46 5, Mv 4 46]
 (.ret))))⟩
theorem ok101 : compFunc prog glb 101 p101 = some c101 := by kernel_rfl
def p102 : List Plan := []
def c102 : CFunc := ⟨51, [.tmp 2],
 Rg [Op 2 (.move (.c (.nilSlice)))]
 (Rg [Op 6 (.buildSlice [.int (.i64) 0, .int (.i64) 0] 0 []), Mv 3 6]
 (Rg [Op 4 (.move (Ci 0))]
 (.seq (Rg [Op 5 (.move (Ci 0))]
 (.block 0 (.loop (.seq (Rg [Mv 7 5, Mv 8 0, Op 9 (.nilCheck (.t 8)), Op 10 (.fieldAddr 1 (.t 9)), Op 11 (.load false 1 (.t 10)), Op 12 (.len (.slice) (.t 11)), Op 13 (.bin (.lss) (.t 7) (.t 12))]
 (.cond (.t 13) (.skip)
 (.exit 0)))
 (.seq (.block 1 (.seq (Rg [Mv 16 0, Op 17 (.nilCheck (.t 16)), Op 18 (.fieldAddr 1 (.t 17)), Op 19 (.load false 1 (.t 18)), Mv 20 5, Op 21 (.indexAddr 3 (.t 19) (.t 20)), Op 22 (.fieldAddr 0 (.t 21)), Op 23 (.load false 1 (.t 22)), Op 24 (Ca 165 [.t 23]), Op 25 (.bin (.neq) (.t 24) (Ci 3))]
 (.cond (.t 25) (.exit 1)
 (.skip)))
 (Rg [Mv 26 3, Mv 27 4, Mv 28 0, Op 29 (.nilCheck (.t 28)), Op 30 (.fieldAddr 1 (.t 29)), Op 31 (.load false 1 (.t 30)), Mv 32 5, Op 33 (.indexAddr 3 (.t 31) (.t 32)), Op 34 (.fieldAddr 2 (.t 33)), Op 35 (.load false 1 (.t 34)), Op 36 (.build [.int (.i64) 0, .int (.i64) 0] [(0, 1, .t 27), (1, 1, .t 35)]), Op 37 (.buildSlice [.int (.i64) 0, .int (.i64) 0] 1 [(0, 2, .t 36)]), Op 38 (.append 2 16 (.t 26) (.t 37)), Mv 3 38]
 (.region [Mv 39 4, Mv 40 0, Op 41 (.nilCheck (.t 40)), Op 42 (.fieldAddr 1 (.t 41)), Op 43 (.load false 1 (.t 42)), Mv 44 5, Op 45 (.indexAddr 3 (.t 43) (.t 44)), Op 46 (.fieldAddr 2 (.t 45)), Op 47 (.load false 1 (.t 46)), Op 48 (.maxmin true (.t 47) [Ci 1]), Op 49 (.bin (.add) (.t 39) (.t 48)), Mv 4 49]))))
 (.region [Mv 14 5, Op 15 (.bin (.add) (.t 14) (Ci 1)), Mv 5 15]))))))
 (Rg [Mv 50 3, Mv 2 50]
 (.ret)))))⟩
theorem ok102 : compFunc prog glb 102 p102 = some c102 := by kernel_rfl
def p103 : List Plan := []
def c103 : CFunc := ⟨7, [.tmp 2],
 Rg [Op 2 (.move (Ci 0))]
 (Rg [Mv 3 0, Op 4 (Ca 102 [.t 3]), Op 5 (.build [.nilSlice, .nilSlice, .nilSlice, .int (.i64) 0, .nilSlice, .nilSlice, .nilSlice, .nilSlice, .int (.i64) 0] [(2, 1, .t 4)]), Op 6 (Ca 178 [.t 5]), Mv 2 6]
 (.ret))⟩
theorem ok103 : compFunc prog glb 103 p103 = some c103 := by kernel_rfl
def p104 : List Plan := []
def c104 : CFunc := ⟨6, [.tmp 2],
 Rg [Op 2 (.move (.c (.nilSlice)))]
 (Rg [Op 3 (.buildSlice [.int (.i64) 0] 0 []), Mv 4 0, Op 5 (.append 1 8 (.t 3) (.t 4)), Mv 2 5]
 (.ret))⟩
theorem ok104 : compFunc prog glb 104 p104 = some c104 := by kernel_rfl
def p105 : List Plan := []
def c105 : CFunc := ⟨96, [.tmp 10, .tmp 11],
 Rg [Op 10 (.move (.c (.nilPtr))), Op 11 (.move (Ci 0))]
 (.seq (Rg [Mv 21 0, Op 22 (.len (.slice) (.t 21)), Op 23 (.bin (.gtr) (.t 22) (Ci 8)), Mv 24 23, Mf 25 1 24, Of 26 (.bin (.lss) (.t 25) (Ci 0)) 24, Op 27 (.pick (.t 24) (.c (.bool true)) (.t 26)), Mv 28 27, Mf 29 1 28, Of 30 (.bin (.gtr) (.t 29) (Ci 16)) 28, Op 31 (.pick (.t 28) (.c (.bool true)) (.t 30))]
 (.cond (.t 31) (Rg [Op 10 (.move (.c (.nilPtr))), Op 11 (.move (Ci 1))]
 (.ret))
 (.skip)))
 (Rg [Mv 33 3, Op 34 (Ca 179 [.t 33]), Mv 32 34, Op 35 (.extract (.t 32) 0), Op 36 (.extract (.t 32) 1), Mv 12 35, Mv 13 36]
 (Rg [Mv 38 2, Mv 39 4, Op 40 (Ca 180 [.t 38, .t 39]), Mv 37 40, Op 41 (.extract (.t 37) 0), Op 42 (.extract (.t 37) 1), Mv 14 41, Mv 15 42]
 (.seq (Rg [Mv 43 13, Op 44 (.bin (.neq) (.t 43) (Ci 0)), Mv 45 44, Mf 46 15 45, Of 47 (.bin (.neq) (.t 46) (Ci 0)) 45, Op 48 (.pick (.t 45) (.c (.bool true)) (.t 47))]
 (.cond (.t 48) (Rg [Op 10 (.move (.c (.nilPtr))), Op 11 (.move (Ci 1))]
 (.ret))
 (.skip)))
 (Rg [Mv 49 12, Mv 50 14, Op 51 (.build [.nilPtr, .nilPtr, .nilSlice, .nilSlice] [(0, 1, .t 49), (1, 1, .t 50)]), Op 52 (.box (.t 51)), Mv 16 52]
 (.seq (Rg [Op 17 (.move (Ci 0))]
 (.block 0 (.loop (.seq (Rg [Mv 53 17, Mv 54 0, Op 55 (.len (.slice) (.t 54)), Op 56 (.bin (.lss) (.t 53) (.t 55))]
 (.cond (.t 56) (.skip)
 (.exit 0)))
 (.seq (.block 1 (Rg [Mv 60 0, Mv 61 17, Op 62 (.indexAddr 1 (.t 60) (.t 61)), Op 63 (.load false 1 (.t 62)), Op 64 (Ca 181 [.t 63]), Mv 59 64, Op 65 (.extract (.t 59) 0), Op 66 (.extract (.t 59) 1), Mv 18 65, Mv 19 66]
 (.seq (Rg [Mv 67 19, Op 68 (.bin (.neq) (.t 67) (Ci 0))]
 (.cond (.t 68) (Rg [Op 10 (.move (.c (.nilPtr))), Op 11 (.move (Ci 1))]
 (.ret))
 (.skip)))
 (.region [Mv 69 16, Mv 70 16, Op 71 (.nilCheck (.t 70)), Op 72 (.fieldAddr 2 (.t 71)), Op 73 (.load false 1 (.t 72)), Mv 74 18, Op 75 (.buildSlice [.nilPtr] 1 [(0, 1, .t 74)]), Op 76 (.append 1 8 (.t 73) (.t 75)), Op 77 (.nilCheck (.t 69)), Op 78 (.fieldAddr 2 (.t 77)), On (.store 1 (.t 78) (.t 76))]))))
 (.region [Mv 57 17, Op 58 (.bin (.add) (.t 57) (Ci 1)), Mv 17 58]))))))
 (.seq (Rg [Op 20 (.move (Ci 0))]
 (.block 2 (.loop (.seq (Rg [Mv 79 20, Mv 80 1, Op 81 (.bin (.lss) (.t 79) (.t 80))]
 (.cond (.t 81) (.skip)
 (.exit 2)))
 (.seq (.block 3 (.region [Mv 84 16, Mv 85 16, Op 86 (.nilCheck (.t 85)), Op 87 (.fieldAddr 3 (.t 86)), Op 88 (.load false 1 (.t 87)), Op 89 (.build [.int (.i64) 0, .nilSlice, .nilSlice] []), Op 90 (.box (.t 89)), Op 91 (.buildSlice [.nilPtr] 1 [(0, 1, .t 90)]), Op 92 (.append 1 8 (.t 88) (.t 91)), Op 93 (.nilCheck (.t 84)), Op 94 (.fieldAddr 3 (.t 93)), On (.store 1 (.t 94) (.t 92))]))
 (.region [Mv 82 20, Op 83 (.bin (.add) (.t 82) (Ci 1)), Mv 20 83]))))))
 (Rg [Mv 95 16, Mv 10 95, Op 11 (.move (Ci 0))]
 (.ret)))))))))⟩
theorem ok105 : compFunc prog glb 105 p105 = some c105 := by kernel_rfl
def p106 : List Plan := []
def c106 : CFunc := ⟨38, [.tmp 4],
 Rg [Op 4 (.move (.c (.nilSlice)))]
 (Rg [Op 7 (.buildSlice [.int (.i64) 0] 0 []), Mv 5 7]
 (.seq (Rg [Op 6 (.move (Ci 0))]
 (.block 0 (.loop (.seq (Rg [Mv 8 6, Mv 9 0, Op 10 (.nilCheck (.t 9)), Op 11 (.fieldAddr 1 (.t 10)), Op 12 (.load false 1 (.t 11)), Op 13 (.len (.slice) (.t 12)), Op 14 (.bin (.lss) (.t 8) (.t 13))]
 (.cond (.t 14) (.skip)
 (.exit 0)))
 (.seq (.block 1 (Rg [Mv 17 0, Op 18 (.nilCheck (.t 17)), Op 19 (.fieldAddr 1 (.t 18)), Op 20 (.load false 1 (.t 19)), Mv 21 6, Op 22 (.indexAddr 3 (.t 20) (.t 21)), Op 23 (.fieldAddr 0 (.t 22)), Op 24 (.load false 1 (.t 23)), Mv 25 1, Op 26 (.bin (.eql) (.t 24) (.t 25))]
 (.cond (.t 26) (.region [Mv 27 5, Mv 28 0, Op 29 (.nilCheck (.t 28)), Op 30 (.fieldAddr 5 (.t 29)), Op 31 (.load false 1 (.t 30)), Mv 32 6, Op 33 (.indexAddr 1 (.t 31) (.t 32)), Op 34 (.load false 1 (.t 33)), Op 35 (.buildSlice [.int (.i64) 0] 1 [(0, 1, .t 34)]), Op 36 (.append 1 8 (.t 27) (.t 35)), Mv 5 36])
 (.skip))))
 (.region [Mv 15 6, Op 16 (.bin (.add) (.t 15) (Ci 1)), Mv 6 16]))))))
 (Rg [Mv 37 5, Mv 4 37]
 (.ret))))⟩
theorem ok106 : compFunc prog glb 106 p106 = some c106 := by kernel_rfl
def p107 : List Plan := []
def c107 : CFunc := ⟨40, [.tmp 4, .tmp 5],
 Rg [Op 4 (.move (.c (.nilSlice))), Op 5 (.move (Ci 0))]
 (.seq (Rg [Mv 8 0, Op 9 (.nilCheck (.t 8)), Op 10 (.fieldAddr 0 (.t 9)), Op 11 (.load false 1 (.t 10)), Op 12 (.nilCheck (.t 11)), Op 13 (.fieldAddr 1 (.t 12)), Op 14 (.load false 1 (.t 13)), Op 15 (.len (.slice) (.t 14)), Op 16 (.bin (.gtr) (.t 15) (Ci 0))]
 (.cond (.t 16) (Rg [Op 4 (.move (.c (.nilSlice))), Op 5 (.move (Ci 4))]
 (.ret))
 (.skip)))
 (.seq (Rg [Mv 17 1, Mv 18 0, Op 19 (.nilCheck (.t 18)), Op 20 (.fieldAddr 1 (.t 19)), Op 21 (.load false 1 (.t 20)), Op 22 (.nilCheck (.t 21)), Op 23 (.fieldAddr 0 (.t 22)), Op 24 (.load false 1 (.t 23)), Op 25 (.len (.slice) (.t 24)), Op 26 (Ca 182 [.t 17, .t 25]), Op 27 (.un (.not) (.t 26))]
 (.cond (.t 27) (Rg [Op 4 (.move (.c (.nilSlice))), Op 5 (.move (Ci 1))]
 (.ret))
 (.skip)))
 (Rg [Mv 29 0, Op 30 (.nilCheck (.t 29)), Op 31 (.fieldAddr 0 (.t 30)), Op 32 (.load false 1 (.t 31)), Op 33 (Ca 183 [.t 32, Ci 0]), Mv 28 33, Op 34 (.extract (.t 28) 0), Op 35 (.extract (.t 28) 1), Mv 6 34, Mv 7 35]
 (Rg [Mv 36 0, Mv 37 6, Mv 38 1, Op 39 (Ca 184 [.t 36, .t 37, .t 38]), Mv 4 39, Op 5 (.move (Ci 0))]
 (.ret)))))⟩
theorem ok107 : compFunc prog glb 107 p107 = some c107 := by kernel_rfl
def p108 : List Plan := [⟨[(4, .quiet [0]), (3, .quiet [0]), (5, .quiet [0]), (6, .quiet [0]), (7, .quiet [0]), (1, .quiet [0]), (2, .quiet [0]), (0, .quiet [0]), (8, .quiet [0]), (9, .eff)], 0, [0, 0, 2, 0, 0, 24, 56, 120, 255, 511]⟩]
def c108 : CFunc := ⟨39, [.tmp 4],
 Rg [Op 4 (.move (.c (.nilSlice)))]
 (Rg [Mv 9 0, Op 10 (Ca 106 [.t 9, Ci 1]), Op 11 (.len (.slice) (.t 10)), Op 12 (.makeSlice [.int (.i64) 0] 8 (.t 11) (.t 11)), Mv 5 12]
 (.seq (Rg [Op 6 (.move (Ci 0))]
 (.block 0 (.loop (.seq (Rg [Mv 13 6, Mv 14 1, Op 15 (.len (.slice) (.t 14)), Op 16 (.bin (.lss) (.t 13) (.t 15))]
 (.cond (.t 16) (.skip)
 (.exit 0)))
 (.seq (.block 1 (Rg [Mv 20 0, Mv 21 1, Mv 22 6, Op 23 (.indexAddr 3 (.t 21) (.t 22)), Op 24 (.fieldAddr 1 (.t 23)), Op 25 (.load false 1 (.t 24)), Op 26 (Ca 185 [.t 20, .t 25]), Mv 19 26, Op 27 (.extract (.t 19) 0), Op 28 (.extract (.t 19) 1), Op 7 (.new [.int (.i64) 0, .int (.i64) 0, .int (.i64) 0]), On (.store 3 (.t 7) (.t 27)), Mv 8 28]
 (.draw [⟨4, Mv 33 6, (.quiet [0])⟩,
 ⟨3, Mv 32 1, (.quiet [0])⟩,
 ⟨5, Op 34 (.indexAddr 3 (.t 32) (.t 33)), (.quiet [0])⟩,
 ⟨6, Op 35 (.fieldAddr 2 (.t 34)), (.quiet [0])⟩,
 ⟨7, Op 36 (.load false 1 (.t 35)), (.quiet [0])⟩,
 ⟨1, Op 30 (.fieldAddr 1 (.t 7)), (.quiet [0])⟩,
 ⟨2, Op 31 (.load false 1 (.t 30)), (.quiet [0])⟩,
 ⟨0, Mv 29 5, (.quiet [0])⟩,
 ⟨8, Op 37 (.indexAddr 1 (.t 29) (.t 31)), (.quiet [0])⟩,
 ⟨9, On (.store 1 (.t 37) (.t 36)), (.eff)⟩] 0)))
 (.region [Mv 17 6, Op 18 (.bin (.add) (.t 17) (Ci 1)), Mv 6 18]))))))
 (Rg [Mv 38 5, Mv 4 38]
 (.ret))))⟩
theorem ok108 : compFunc prog glb 108 p108 = some c108 := by kernel_rfl
def p109 : List Plan := [⟨[(5, .quiet [0]), (6, .eff), (1, .quiet [0, 2]), (2, .quiet [0, 2]), (3, .quiet [0, 2]), (4, .quiet [0, 2]), (7, .eff), (0, .quiet [0, 2, 7]), (8, .quiet [7]), (9, .quiet [7]), (10, .eff)], 0, [0, 0, 2, 6, 14, 0, 32, 126, 255, 511, 1023]⟩]
def c109 : CFunc := ⟨31, [],
 Rg [Op 4 (.move (Ci 0))]
 (.block 0 (.loop (.seq (Rg [Mv 6 4, Mv 7 1, Op 8 (.len (.slice) (.t 7)), Op 9 (.bin (.lss) (.t 6) (.t 8))]
 (.cond (.t 9) (.skip)
 (.exit 0)))
 (.seq (.block 1 (Rg [Mv 12 1, Mv 13 4, Op 14 (.indexAddr 5 (.t 12) (.t 13)), Op 15 (.load true 5 (.t 14)), Op 5 (.new [.int (.i64) 0, .int (.i64) 0, .int (.i64) 0, .int (.i64) 0, .int (.i64) 0]), On (.store 5 (.t 5) (.t 15))]
 (Rg [Mv 16 0, Op 17 (.nilCheck (.t 16)), Op 18 (.fieldAddr 12 (.t 17)), Op 19 (.load false 1 (.t 18)), Op 20 (.fieldAddr 0 (.t 5)), On (.store 1 (.t 20) (.t 19))]
 (.draw [⟨5, Op 26 (.load true 5 (.t 5)), (.quiet [0])⟩,
 ⟨6, Op 27 (.buildSlice [.int (.i64) 0, .int (.i64) 0, .int (.i64) 0, .int (.i64) 0, .int (.i64) 0] 1 [(0, 5, .t 26)]), (.eff)⟩,
 ⟨1, Mv 22 0, (.quiet [0, 2])⟩,
 ⟨2, Op 23 (.nilCheck (.t 22)), (.quiet [0, 2])⟩,
 ⟨3, Op 24 (.fieldAddr 11 (.t 23)), (.quiet [0, 2])⟩,
 ⟨4, Op 25 (.load false 1 (.t 24)), (.quiet [0, 2])⟩,
 ⟨7, Op 28 (.append 5 40 (.t 25) (.t 27)), (.eff)⟩,
 ⟨0, Mv 21 0, (.quiet [0, 2, 7])⟩,
 ⟨8, Op 29 (.nilCheck (.t 21)), (.quiet [7])⟩,
 ⟨9, Op 30 (.fieldAddr 11 (.t 29)), (.quiet [7])⟩,
 ⟨10, On (.store 1 (.t 30) (.t 28)), (.eff)⟩] 0))))
 (.region [Mv 10 4, Op 11 (.bin (.add) (.t 10) (Ci 1)), Mv 4 11])))))⟩
theorem ok109 : compFunc prog glb 109 p109 = some c109 := by kernel_rfl
def p110 : List Plan := []
def c110 : CFunc := ⟨25, [],
 Rg [Mv 2 0, Op 3 (.nilCheck (.t 2)), Op 4 (.fieldAddr 6 (.t 3)), Op 5 (.load false 1 (.t 4)), Op 6 (.nilCheck (.t 5)), Op 7 (.fieldAddr 0 (.t 6)), Op 8 (.load false 1 (.t 7)), Op 9 (Ca 186 [.t 8]), Op 10 (.bin (.eql) (.t 9) (Ci 0))]
 (.cond (.t 10) (.region [Mv 11 0, Op 12 (Ca 187 [.t 11, Ci 1])])
 (Rg [Mv 13 0, Op 14 (.nilCheck (.t 13)), Op 15 (.fieldAddr 6 (.t 14)), Op 16 (.load false 1 (.t 15)), Op 17 (.nilCheck (.t 16)), Op 18 (.fieldAddr 0 (.t 17)), Op 19 (.load false 1 (.t 18)), Op 20 (Ca 188 [.t 19, Ci 1]), Op 21 (.len (.slice) (.t 20)), Op 22 (.bin (.eql) (.t 21) (Ci 0))]
 (.cond (.t 22) (.region [Mv 23 0, Op 24 (Ca 187 [.t 23, Ci 3])])
 (.skip))))⟩
theorem ok110 : compFunc prog glb 110 p110 = some c110 := by kernel_rfl
def p111 : List Plan := []
def c111 : CFunc := ⟨39, [.tmp 6, .tmp 7],
 Rg [Op 6 (.move (Ci 0)), Op 7 (.move (.c (.bool false)))]
 (.seq (Rg [Mv 10 0, Op 11 (.eq (.ptr) false (.t 10) (.c (.nilPtr))), Mv 12 11, Mf 13 1 12, Of 14 (.bin (.lss) (.t 13) (Ci 0)) 12, Op 15 (.pick (.t 12) (.c (.bool true)) (.t 14)), Mv 16 15, Mf 17 1 16, Mf 18 0 16, Of 19 (.nilCheck (.t 18)) 16, Of 20 (.fieldAddr 2 (.t 19)) 16, Of 21 (.load false 1 (.t 20)) 16, Of 22 (.len (.slice) (.t 21)) 16, Of 23 (.bin (.geq) (.t 17) (.t 22)) 16, Op 24 (.pick (.t 16) (.c (.bool true)) (.t 23))]
 (.cond (.t 24) (Rg [Op 6 (.move (Ci 0)), Op 7 (.move (.c (.bool false)))]
 (.ret))
 (.skip)))
 (Rg [Mv 26 0, Op 27 (.nilCheck (.t 26)), Op 28 (.fieldAddr 2 (.t 27)), Op 29 (.load false 1 (.t 28)), Mv 30 1, Op 31 (.indexAddr 1 (.t 29) (.t 30)), Op 32 (.load false 1 (.t 31)), Mv 33 2, Op 34 (.lookup (.one (.str)) (.int (.i64) 0) true (.t 32) (.t 33)), Mv 25 34, Op 35 (.extract (.t 25) 0), Op 36 (.extract (.t 25) 1), Mv 8 35, Mv 9 36]
 (Rg [Mv 37 8, Mv 38 9, Mv 6 37, Mv 7 38]
 (.ret))))⟩
theorem ok111 : compFunc prog glb 111 p111 = some c111 := by kernel_rfl
def p112 : List Plan := []
def c112 : CFunc := ⟨22, [.cell 4 true 3, .tmp 5],
 Rg [Op 4 (.new [.int (.i64) 0, .int (.i64) 0, .int (.i64) 0]), Op 5 (.move (.c (.bool false)))]
 (.seq (Rg [Mv 8 0, Op 9 (.eq (.ptr) false (.t 8) (.c (.nilPtr)))]
 (.cond (.t 9) (Rg [Op 10 (.build [.int (.i64) 0, .int (.i64) 0, .int (.i64) 0] []), On (.store 3 (.t 4) (.t 10)), Op 5 (.move (.c (.bool false)))]
 (.ret))
 (.skip)))
 (Rg [Mv 12 0, Op 13 (.nilCheck (.t 12)), Op 14 (.fieldAddr 0 (.t 13)), Op 15 (.load false 1 (.t 14)), Mv 16 1, Op 17 (.lookup (.one (.str)) (.agg [.int (.i64) 0, .int (.i64) 0, .int (.i64) 0]) true (.t 15) (.t 16)), Mv 11 17, Op 18 (.extract (.t 11) 0), Op 19 (.extract (.t 11) 1), Op 6 (.new [.int (.i64) 0, .int (.i64) 0, .int (.i64) 0]), On (.store 3 (.t 6) (.t 18)), Mv 7 19]
 (Rg [Op 20 (.load true 3 (.t 6)), Mv 21 7, On (.store 3 (.t 4) (.t 20)), Mv 5 21]
 (.ret))))⟩
theorem ok112 : compFunc prog glb 112 p112 = some c112 := by kernel_rfl
def p113 : List Plan := []
def c113 : CFunc := ⟨17, [.tmp 4, .tmp 5],
 Rg [Op 4 (.move (Ci 0)), Op 5 (.move (Ci 0))]
 (Rg [Mv 7 0, Mv 8 1, Op 9 (.bin (.add) (.t 7) (.t 8)), Mv 6 9]
 (.seq (Rg [Mv 10 6, Mv 11 0, Op 12 (.bin (.lss) (.t 10) (.t 11)), Mv 13 1, Op 14 (.bin (.lss) (.t 13) (Ci 0)), Op 15 (.eq (.bool) true (.t 12) (.t 14))]
 (.cond (.t 15) (Rg [Op 4 (.move (Ci 0)), Op 5 (.move (Ci 31))]
 (.ret))
 (.skip)))
 (Rg [Mv 16 6, Mv 4 16, Op 5 (.move (Ci 0))]
 (.ret))))⟩
theorem ok113 : compFunc prog glb 113 p113 = some c113 := by kernel_rfl
def p114 : List Plan := []
def c114 : CFunc := ⟨17, [.tmp 4, .tmp 5],
 Rg [Op 4 (.move (Ci 0)), Op 5 (.move (Ci 0))]
 (Rg [Mv 7 0, Mv 8 1, Op 9 (.bin (.sub) (.t 7) (.t 8)), Mv 6 9]
 (.seq (Rg [Mv 10 6, Mv 11 0, Op 12 (.bin (.gtr) (.t 10) (.t 11)), Mv 13 1, Op 14 (.bin (.lss) (.t 13) (Ci 0)), Op 15 (.eq (.bool) true (.t 12) (.t 14))]
 (.cond (.t 15) (Rg [Op 4 (.move (Ci 0)), Op 5 (.move (Ci 31))]
 (.ret))
 (.skip)))
 (Rg [Mv 16 6, Mv 4 16, Op 5 (.move (Ci 0))]
 (.ret))))⟩
theorem ok114 : compFunc prog glb 114 p114 = some c114 := by kernel_rfl
def p115 : List Plan := []
def c115 : CFunc := ⟨34, [.tmp 4, .tmp 5],
 Rg [Op 4 (.move (Ci 0)), Op 5 (.move (Ci 0))]
 (.seq (Rg [Mv 7 0, Op 8 (.bin (.eql) (.t 7) (Ci 0)), Mv 9 8, Mf 10 1 9, Of 11 (.bin (.eql) (.t 10) (Ci 0)) 9, Op 12 (.pick (.t 9) (.c (.bool true)) (.t 11))]
 (.cond (.t 12) (Rg [Op 4 (.move (Ci 0)), Op 5 (.move (Ci 0))]
 (.ret))
 (.skip)))
 (.seq (Rg [Mv 13 0, Op 14 (.bin (.eql) (.t 13) (.c (.int (.i64) (-1))))]
 (.cond (.t 14) (Rg [Mv 15 1, Op 16 (Ca 118 [.t 15]), Op 17 (.extract (.t 16) 0), Op 18 (.extract (.t 16) 1), Mv 4 17, Mv 5 18]
 (.ret))
 (.skip)))
 (.seq (Rg [Mv 19 1, Op 20 (.bin (.eql) (.t 19) (.c (.int (.i64) (-1))))]
 (.cond (.t 20) (Rg [Mv 21 0, Op 22 (Ca 118 [.t 21]), Op 23 (.extract (.t 22) 0), Op 24 (.extract (.t 22) 1), Mv 4 23, Mv 5 24]
 (.ret))
 (.skip)))
 (Rg [Mv 25 0, Mv 26 1, Op 27 (.bin (.mul) (.t 25) (.t 26)), Mv 6 27]
 (.seq (Rg [Mv 28 6, Mv 29 1, Op 30 (.bin (.quo) (.t 28) (.t 29)), Mv 31 0, Op 32 (.bin (.neq) (.t 30) (.t 31))]
 (.cond (.t 32) (Rg [Op 4 (.move (Ci 0)), Op 5 (.move (Ci 31))]
 (.ret))
 (.skip)))
 (Rg [Mv 33 6, Mv 4 33, Op 5 (.move (Ci 0))]
 (.ret)))))))⟩
theorem ok115 : compFunc prog glb 115 p115 = some c115 := by kernel_rfl
def p116 : List Plan := []
def c116 : CFunc := ⟨18, [.tmp 4, .tmp 5],
 Rg [Op 4 (.move (Ci 0)), Op 5 (.move (Ci 0))]
 (.seq (Rg [Mv 6 1]
 (.block 0 (Rg [Op 8 (.bin (.eql) (.t 6) (Ci 0)), Mv 7 8]
 (.cond (.t 7) (Rg [Op 4 (.move (Ci 0)), Op 5 (.move (Ci 32))]
 (.ret))
 (Rg [Op 10 (.bin (.eql) (.t 6) (.c (.int (.i64) (-1)))), Mv 9 10]
 (.cond (.t 9) (Rg [Mv 11 0, Op 12 (Ca 118 [.t 11]), Op 13 (.extract (.t 12) 0), Op 14 (.extract (.t 12) 1), Mv 4 13, Mv 5 14]
 (.ret))
 (.skip)))))))
 (Rg [Mv 15 0, Mv 16 1, Op 17 (.bin (.quo) (.t 15) (.t 16)), Mv 4 17, Op 5 (.move (Ci 0))]
 (.ret)))⟩
theorem ok116 : compFunc prog glb 116 p116 = some c116 := by kernel_rfl
def p117 : List Plan := []
def c117 : CFunc := ⟨14, [.tmp 4, .tmp 5],
 Rg [Op 4 (.move (Ci 0)), Op 5 (.move (Ci 0))]
 (.seq (Rg [Mv 6 1]
 (.block 0 (Rg [Op 8 (.bin (.eql) (.t 6) (Ci 0)), Mv 7 8]
 (.cond (.t 7) (Rg [Op 4 (.move (Ci 0)), Op 5 (.move (Ci 32))]
 (.ret))
 (Rg [Op 10 (.bin (.eql) (.t 6) (.c (.int (.i64) (-1)))), Mv 9 10]
 (.cond (.t 9) (Rg [Op 4 (.move (Ci 0)), Op 5 (.move (Ci 0))]
 (.ret))
 (.skip)))))))
 (Rg [Mv 11 0, Mv 12 1, Op 13 (.bin (.rem) (.t 11) (.t 12)), Mv 4 13, Op 5 (.move (Ci 0))]
 (.ret)))⟩
theorem ok117 : compFunc prog glb 117 p117 = some c117 := by kernel_rfl
def p118 : List Plan := []
def c118 : CFunc := ⟨8, [.tmp 2, .tmp 3],
 Rg [Op 2 (.move (Ci 0)), Op 3 (.move (Ci 0))]
 (.seq (Rg [Mv 4 0, Op 5 (.bin (.eql) (.t 4) (.c (.int (.i64) (-9223372036854775808))))]
 (.cond (.t 5) (Rg [Op 2 (.move (Ci 0)), Op 3 (.move (Ci 31))]
 (.ret))
 (.skip)))
 (Rg [Mv 6 0, Op 7 (.un (.neg) (.t 6)), Mv 2 7, Op 3 (.move (Ci 0))]
 (.ret)))⟩
theorem ok118 : compFunc prog glb 118 p118 = some c118 := by kernel_rfl
def p119 : List Plan := []
def c119 : CFunc := ⟨64, [.tmp 6, .tmp 7],
 Rg [Op 6 (.move (Ci 0)), Op 7 (.move (Ci 0))]
 (.seq (Rg [Mv 8 0]
 (.block 0 (.seq (.block 9 (.seq (.block 8 (.seq (.block 7 (.seq (.block 6 (.seq (.block 5 (.seq (.block 4 (.seq (.block 3 (.seq (.block 2 (.seq (.block 1 (.seq (.seq (Rg [Op 10 (.bin (.eql) (.t 8) (Ci 15)), Mv 9 10]
 (.cond (.t 9) (.exit 1)
 (.skip)))
 (.seq (Rg [Op 12 (.bin (.eql) (.t 8) (Ci 16)), Mv 11 12]
 (.cond (.t 11) (.exit 2)
 (.skip)))
 (.seq (Rg [Op 14 (.bin (.eql) (.t 8) (Ci 19)), Mv 13 14]
 (.cond (.t 13) (.exit 3)
 (.skip)))
 (.seq (Rg [Op 16 (.bin (.eql) (.t 8) (Ci 17)), Mv 15 16]
 (.cond (.t 15) (.exit 4)
 (.skip)))
 (.seq (Rg [Op 18 (.bin (.eql) (.t 8) (Ci 20)), Mv 17 18]
 (.cond (.t 17) (.exit 5)
 (.skip)))
 (.seq (Rg [Op 20 (.bin (.eql) (.t 8) (Ci 18)), Mv 19 20]
 (.cond (.t 19) (.exit 6)
 (.skip)))
 (.seq (Rg [Op 22 (.bin (.eql) (.t 8) (Ci 21)), Mv 21 22]
 (.cond (.t 21) (.exit 7)
 (.skip)))
 (.seq (Rg [Op 24 (.bin (.eql) (.t 8) (Ci 22)), Mv 23 24]
 (.cond (.t 23) (.exit 8)
 (.skip)))
 (Rg [Op 26 (.bin (.eql) (.t 8) (Ci 23)), Mv 25 26]
 (.cond (.t 25) (.exit 9)
 (.skip)))))))))))
 (.exit 0)))
 (.seq (Rg [Mv 27 1, Mv 28 2, Op 29 (.bin (.eql) (.t 27) (.t 28)), Op 30 (Ca 189 [.t 29]), Mv 6 30, Op 7 (.move (Ci 0))]
 (.ret))
 (.exit 0))))
 (.seq (Rg [Mv 31 1, Mv 32 2, Op 33 (.bin (.neq) (.t 31) (.t 32)), Op 34 (Ca 189 [.t 33]), Mv 6 34, Op 7 (.move (Ci 0))]
 (.ret))
 (.exit 0))))
 (.region [Mv 35 2, Mv 36 1, Mv 1 35, Mv 2 36])))
 (.seq (Rg [Mv 37 1, Mv 38 2, Op 39 (.bin (.lss) (.t 37) (.t 38)), Op 40 (Ca 189 [.t 39]), Mv 6 40, Op 7 (.move (Ci 0))]
 (.ret))
 (.exit 0))))
 (.region [Mv 41 2, Mv 42 1, Mv 1 41, Mv 2 42])))
 (.seq (Rg [Mv 43 1, Mv 44 2, Op 45 (.bin (.leq) (.t 43) (.t 44)), Op 46 (Ca 189 [.t 45]), Mv 6 46, Op 7 (.move (Ci 0))]
 (.ret))
 (.exit 0))))
 (.seq (Rg [Mv 47 1, Op 48 (.bin (.neq) (.t 47) (Ci 0)), Mv 49 48, Mt 50 2 49, Ot 51 (.bin (.neq) (.t 50) (Ci 0)) 49, Op 52 (.pick (.t 49) (.t 51) (.c (.bool false))), Op 53 (Ca 189 [.t 52]), Mv 6 53, Op 7 (.move (Ci 0))]
 (.ret))
 (.exit 0))))
 (.seq (Rg [Mv 54 1, Op 55 (.bin (.neq) (.t 54) (Ci 0)), Mv 56 55, Mf 57 2 56, Of 58 (.bin (.neq) (.t 57) (Ci 0)) 56, Op 59 (.pick (.t 56) (.c (.bool true)) (.t 58)), Op 60 (Ca 189 [.t 59]), Mv 6 60, Op 7 (.move (Ci 0))]
 (.ret))
 (.exit 0))))
 (.seq (Rg [Mv 61 1, Op 62 (.bin (.eql) (.t 61) (Ci 0)), Op 63 (Ca 189 [.t 62]), Mv 6 63, Op 7 (.move (Ci 0))]
 (.ret))
 (.exit 0)))))
 (Rg [Op 6 (.move (Ci 0)), Op 7 (.move (Ci 1))]
 (.ret)))⟩
theorem ok119 : compFunc prog glb 119 p119 = some c119 := by kernel_rfl
def p120 : List Plan := []
def c120 : CFunc := ⟨29, [.tmp 4, .tmp 5],
 Rg [Op 4 (.move (.c (.nilSlice))), Op 5 (.move (Ci 0))]
 (Rg [Mv 10 0, Op 11 (Ca 54 [.t 10]), Mv 6 11, Op 7 (.move (Ci 0))]
 (.seq (Rg [Op 12 (.load false 1 (.t 1))]
 (.cond (.t 12) (.region [Mv 13 0, Op 14 (Ca 54 [.t 13]), Mv 7 14])
 (.skip)))
 (Rg [Mv 16 0, Op 17 (.fieldAddr 2 (.t 2)), Op 18 (.load false 1 (.t 17)), Mv 19 7, Op 20 (Ca 55 [.t 16, .t 18, .t 19]), Mv 15 20, Op 21 (.extract (.t 15) 0), Op 22 (.extract (.t 15) 1), Mv 8 21, Mv 9 22]
 (.seq (Rg [Mv 23 9, Op 24 (.bin (.eql) (.t 23) (Ci 0))]
 (.cond (.t 24) (.region [Mv 25 8, Mv 26 6, Op 27 (.nilCheck (.t 25)), On (.store 1 (.t 27) (.t 26))])
 (.skip)))
 (Rg [Mv 28 9, Op 4 (.move (.c (.nilSlice))), Mv 5 28]
 (.ret))))))⟩
theorem ok120 : compFunc prog glb 120 p120 = some c120 := by kernel_rfl
def p121 : List Plan := []
def c121 : CFunc := ⟨4, [.tmp 2],
 Rg [Op 1 (.box (.t 0)), Op 2 (.move (.c (.nilFunc)))]
 (Rg [Op 3 (.func 190 [] [.t 1]), Mv 2 3]
 (.ret))⟩
theorem ok121 : compFunc prog glb 121 p121 = some c121 := by kernel_rfl
def p122 : List Plan := []
def c122 : CFunc := ⟨6, [.tmp 4],
 Rg [Op 2 (.box (.t 0)), Op 3 (.box (.t 1)), Op 4 (.move (.c (.nilFunc)))]
 (Rg [Op 5 (.func 191 [] [.t 2, .t 3]), Mv 4 5]
 (.ret))⟩
theorem ok122 : compFunc prog glb 122 p122 = some c122 := by kernel_rfl
def p123 : List Plan := [⟨[(4, .quiet [0]), (5, .quiet [0]), (0, .quiet [0]), (1, .quiet [0]), (2, .quiet [0]), (3, .quiet [0]), (6, .eff), (7, .quiet [7]), (8, .quiet [7]), (10, .quiet [7]), (9, .quiet [7]), (11, .quiet [7])], 0, [0, 1, 3, 7, 0, 16, 63, 127, 255, 255, 511, 2047]⟩, ⟨[(17, .quiet [0]), (10, .quiet [0]), (11, .quiet [0]), (12, .quiet [0]), (13, .quiet [0]), (14, .quiet [0]), (15, .quiet [0]), (16, .quiet [0]), (18, .eff), (7, .quiet [0, 9]), (8, .quiet [0, 9]), (9, .quiet [0, 9]), (6, .quiet [0, 9]), (19, .eff), (5, .quiet [0, 9, 14]), (20, .quiet [14]), (21, .eff), (1, .quiet [0, 9, 14, 17]), (2, .quiet [0, 9, 14, 17]), (3, .quiet [0, 9, 14, 17]), (4, .quiet [0, 9, 14, 17]), (22, .eff), (0, .quiet [0, 9, 14, 17, 22]), (23, .quiet [22]), (24, .quiet [22]), (25, .eff)], 0, [0, 0, 2, 6, 14, 0, 0, 0, 128, 384, 0, 1024, 3072, 7168, 15360, 31744, 64512, 0, 261120, 524224, 1048544, 2097120, 4194302, 8388607, 16777215, 33554431]⟩]
def c123 : CFunc := ⟨48, [.tmp 3, .tmp 4],
 Rg [Op 3 (.move (.c (.nilSlice))), Op 4 (.move (Ci 0))]
 (.seq (.draw [⟨4, Op 12 (.fieldAddr 2 (.t 1)), (.quiet [0])⟩,
 ⟨5, Op 13 (.load false 1 (.t 12)), (.quiet [0])⟩,
 ⟨0, Mv 8 0, (.quiet [0])⟩,
 ⟨1, Op 9 (.nilCheck (.t 8)), (.quiet [0])⟩,
 ⟨2, Op 10 (.fieldAddr 0 (.t 9)), (.quiet [0])⟩,
 ⟨3, Op 11 (.load false 1 (.t 10)), (.quiet [0])⟩,
 ⟨6, Op 14 (Ca 124 [.t 11, .t 13]), (.eff)⟩,
 ⟨7, Mv 7 14, (.quiet [7])⟩,
 ⟨8, Op 15 (.extract (.t 7) 0), (.quiet [7])⟩,
 ⟨10, Mv 5 15, (.quiet [7])⟩,
 ⟨9, Op 16 (.extract (.t 7) 1), (.quiet [7])⟩,
 ⟨11, Mv 6 16, (.quiet [7])⟩] 0)
 (.seq (.draw [⟨17, Mv 34 5, (.quiet [0])⟩,
 ⟨10, Mv 27 0, (.quiet [0])⟩,
 ⟨11, Op 28 (.nilCheck (.t 27)), (.quiet [0])⟩,
 ⟨12, Op 29 (.fieldAddr 0 (.t 28)), (.quiet [0])⟩,
 ⟨13, Op 30 (.load false 1 (.t 29)), (.quiet [0])⟩,
 ⟨14, Op 31 (.nilCheck (.t 30)), (.quiet [0])⟩,
 ⟨15, Op 32 (.fieldAddr 5 (.t 31)), (.quiet [0])⟩,
 ⟨16, Op 33 (.load false 1 (.t 32)), (.quiet [0])⟩,
 ⟨18, Op 35 (Ca 126 [.t 33, .t 34]), (.eff)⟩,
 ⟨7, Op 24 (.fieldAddr 3 (.t 1)), (.quiet [0, 9])⟩,
 ⟨8, Op 25 (.load false 1 (.t 24)), (.quiet [0, 9])⟩,
 ⟨9, Op 26 (.len (.slice) (.t 25)), (.quiet [0, 9])⟩,
 ⟨6, Mv 23 0, (.quiet [0, 9])⟩,
 ⟨19, Op 36 (Ca 125 [.t 23, .t 26, .t 35]), (.eff)⟩,
 ⟨5, Mv 22 5, (.quiet [0, 9, 14])⟩,
 ⟨20, Op 37 (.build [.int (.i64) 0, .nilSlice] [(0, 1, .t 22), (1, 1, .t 36)]), (.quiet [14])⟩,
 ⟨21, Op 38 (.buildSlice [.int (.i64) 0, .nilSlice] 1 [(0, 2, .t 37)]), (.eff)⟩,
 ⟨1, Mv 18 0, (.quiet [0, 9, 14, 17])⟩,
 ⟨2, Op 19 (.nilCheck (.t 18)), (.quiet [0, 9, 14, 17])⟩,
 ⟨3, Op 20 (.fieldAddr 3 (.t 19)), (.quiet [0, 9, 14, 17])⟩,
 ⟨4, Op 21 (.load false 1 (.t 20)), (.quiet [0, 9, 14, 17])⟩,
 ⟨22, Op 39 (.append 2 32 (.t 21) (.t 38)), (.eff)⟩,
 ⟨0, Mv 17 0, (.quiet [0, 9, 14, 17, 22])⟩,
 ⟨23, Op 40 (.nilCheck (.t 17)), (.quiet [22])⟩,
 ⟨24, Op 41 (.fieldAddr 3 (.t 40)), (.quiet [22])⟩,
 ⟨25, On (.store 1 (.t 41) (.t 39)), (.eff)⟩] 0)
 (Rg [Mv 42 0, Mv 43 6, Op 44 (.iface 86 (.t 43)), Op 45 (.iface 78 (.c (.func 127 [] []))), Op 46 (.buildSlice [.nilIface] 2 [(0, 1, .t 44), (1, 1, .t 45)]), Op 47 (Ca 30 [.t 42, .t 46])]
 (Rg [Op 3 (.move (.c (.nilSlice))), Op 4 (.move (Ci 0))]
 (.ret)))))⟩
theorem ok123 : compFunc prog glb 123 p123 = some c123 := by kernel_rfl
def p124 : List Plan := [⟨[(0, .quiet [0]), (11, .quiet [0]), (6, .quiet [0]), (7, .quiet [0]), (1, .quiet [0]), (2, .quiet [0]), (3, .quiet [0]), (4, .quiet [0]), (5, .quiet [0]), (8, .quiet [0]), (9, .quiet [0]), (10, .quiet [0]), (12, .quiet [0])], 0, [0, 0, 2, 6, 14, 30, 0, 64, 254, 510, 1022, 1, 4095]⟩]
def c124 : CFunc := ⟨40, [.tmp 4, .tmp 5],
 Rg [Op 4 (.move (Ci 0)), Op 5 (.move (.c (.nilSlice)))]
 (Rg [Mv 9 0, Op 10 (.nilCheck (.t 9)), Op 11 (.fieldAddr 5 (.t 10)), Op 12 (.load false 1 (.t 11)), Mv 13 1, Op 14 (Ca 192 [.t 12, .t 13]), Mv 8 14, Op 15 (.extract (.t 8) 0), Op 16 (.extract (.t 8) 1), Mv 6 15, Mv 7 16]
 (.seq (Rg [Mv 17 7, Op 18 (.un (.not) (.t 17)), Mv 19 18, Mf 20 6 19, Mf 21 0 19, Of 22 (.nilCheck (.t 21)) 19, Of 23 (.fieldAddr 0 (.t 22)) 19, Of 24 (.fieldAddr 2 (.t 23)) 19, Of 25 (.load false 1 (.t 24)) 19, Of 26 (.len (.slice) (.t 25)) 19, Of 27 (.bin (.gtr) (.t 20) (.t 26)) 19, Op 28 (.pick (.t 19) (.c (.bool true)) (.t 27))]
 (.cond (.t 28) (Rg [Op 4 (.move (Ci 0)), Op 5 (.move (.c (.nilSlice)))]
 (.ret))
 (.skip)))
 (.seq (.draw [⟨0, Mv 29 6, (.quiet [0])⟩,
 ⟨11, Mv 4 29, (.quiet [0])⟩,
 ⟨6, Mv 35 6, (.quiet [0])⟩,
 ⟨7, Op 36 (.bin (.sub) (.t 35) (Ci 1)), (.quiet [0])⟩,
 ⟨1, Mv 30 0, (.quiet [0])⟩,
 ⟨2, Op 31 (.nilCheck (.t 30)), (.quiet [0])⟩,
 ⟨3, Op 32 (.fieldAddr 0 (.t 31)), (.quiet [0])⟩,
 ⟨4, Op 33 (.fieldAddr 2 (.t 32)), (.quiet [0])⟩,
 ⟨5, Op 34 (.load false 1 (.t 33)), (.quiet [0])⟩,
 ⟨8, Op 37 (.indexAddr 5 (.t 34) (.t 36)), (.quiet [0])⟩,
 ⟨9, Op 38 (.fieldAddr 4 (.t 37)), (.quiet [0])⟩,
 ⟨10, Op 39 (.load false 1 (.t 38)), (.quiet [0])⟩,
 ⟨12, Mv 5 39, (.quiet [0])⟩] 0)
 (.ret))))⟩
theorem ok124 : compFunc prog glb 124 p124 = some c124 := by kernel_rfl
def p125 : List Plan := []
def c125 : CFunc := ⟨25, [.tmp 6],
 Rg [Op 6 (.move (.c (.nilSlice)))]
 (Rg [Mv 9 1, Mv 10 2, Op 11 (.maxmin true (.t 9) [.t 10]), Op 12 (.makeSlice [.int (.i64) 0] 8 (.t 11) (.t 11)), Mv 7 12]
 (.seq (Rg [Mv 13 1, Op 14 (.bin (.sub) (.t 13) (Ci 1)), Mv 8 14]
 (.block 0 (.loop (.seq (Rg [Mv 15 8, Op 16 (.bin (.geq) (.t 15) (Ci 0))]
 (.cond (.t 16) (.skip)
 (.exit 0)))
 (.seq (.block 1 (.region [Mv 19 7, Mv 20 8, Mv 21 0, Op 22 (Ca 54 [.t 21]), Op 23 (.indexAddr 1 (.t 19) (.t 20)), On (.store 1 (.t 23) (.t 22))]))
 (.region [Mv 17 8, Op 18 (.bin (.sub) (.t 17) (Ci 1)), Mv 8 18]))))))
 (Rg [Mv 24 7, Mv 6 24]
 (.ret))))⟩
theorem ok125 : compFunc prog glb 125 p125 = some c125 := by kernel_rfl
def p126 : List Plan := []
def c126 : CFunc := ⟨28, [.tmp 4],
 Rg [Op 4 (.move (Ci 0))]
 (.seq (Rg [Mv 5 0, Op 6 (.eq (.ptr) false (.t 5) (.c (.nilPtr))), Mv 7 6, Mf 8 1 7, Of 9 (.bin (.lss) (.t 8) (Ci 0)) 7, Op 10 (.pick (.t 7) (.c (.bool true)) (.t 9)), Mv 11 10, Mf 12 1 11, Mf 13 0 11, Of 14 (.nilCheck (.t 13)) 11, Of 15 (.fieldAddr 2 (.t 14)) 11, Of 16 (.load false 1 (.t 15)) 11, Of 17 (.len (.slice) (.t 16)) 11, Of 18 (.bin (.geq) (.t 12) (.t 17)) 11, Op 19 (.pick (.t 11) (.c (.bool true)) (.t 18))]
 (.cond (.t 19) (Rg [Op 4 (.move (Ci 0))]
 (.ret))
 (.skip)))
 (Rg [Mv 20 0, Op 21 (.nilCheck (.t 20)), Op 22 (.fieldAddr 2 (.t 21)), Op 23 (.load false 1 (.t 22)), Mv 24 1, Op 25 (.indexAddr 1 (.t 23) (.t 24)), Op 26 (.load false 1 (.t 25)), Op 27 (.len (.map) (.t 26)), Mv 4 27]
 (.ret)))⟩
theorem ok126 : compFunc prog glb 126 p126 = some c126 := by kernel_rfl
def p127 : List Plan := [⟨[(5, .quiet [0]), (6, .quiet [0]), (7, .quiet [0]), (8, .quiet [0]), (9, .quiet [0]), (10, .quiet [0]), (1, .quiet [0]), (2, .quiet [0]), (3, .quiet [0]), (4, .quiet [0]), (11, .quiet [0]), (0, .quiet [0]), (12, .quiet [0]), (13, .quiet [0]), (14, .eff)], 0, [0, 0, 2, 6, 14, 0, 32, 96, 224, 480, 992, 2046, 4095, 8191, 16383]⟩]
def c127 : CFunc := ⟨18, [.tmp 2, .tmp 3],
 Rg [Op 2 (.move (.c (.nilSlice))), Op 3 (.move (Ci 0))]
 (.seq (.draw [⟨5, Mv 9 0, (.quiet [0])⟩,
 ⟨6, Op 10 (.nilCheck (.t 9)), (.quiet [0])⟩,
 ⟨7, Op 11 (.fieldAddr 3 (.t 10)), (.quiet [0])⟩,
 ⟨8, Op 12 (.load false 1 (.t 11)), (.quiet [0])⟩,
 ⟨9, Op 13 (.len (.slice) (.t 12)), (.quiet [0])⟩,
 ⟨10, Op 14 (.bin (.sub) (.t 13) (Ci 1)), (.quiet [0])⟩,
 ⟨1, Mv 5 0, (.quiet [0])⟩,
 ⟨2, Op 6 (.nilCheck (.t 5)), (.quiet [0])⟩,
 ⟨3, Op 7 (.fieldAddr 3 (.t 6)), (.quiet [0])⟩,
 ⟨4, Op 8 (.load false 1 (.t 7)), (.quiet [0])⟩,
 ⟨11, Op 15 (.slice 2 (.t 8) none (some (.t 14)) none), (.quiet [0])⟩,
 ⟨0, Mv 4 0, (.quiet [0])⟩,
 ⟨12, Op 16 (.nilCheck (.t 4)), (.quiet [0])⟩,
 ⟨13, Op 17 (.fieldAddr 3 (.t 16)), (.quiet [0])⟩,
 ⟨14, On (.store 1 (.t 17) (.t 15)), (.eff)⟩] 0)
 (Rg [Op 2 (.move (.c (.nilSlice))), Op 3 (.move (Ci 0))]
 (.ret)))⟩
theorem ok127 : compFunc prog glb 127 p127 = some c127 := by kernel_rfl
def p128 : List Plan := [⟨[(4, .quiet [0]), (5, .quiet [0]), (0, .quiet [0]), (1, .quiet [0]), (2, .quiet [0]), (3, .quiet [0]), (6, .eff), (7, .quiet [7]), (8, .quiet [7]), (10, .quiet [7]), (9, .quiet [7]), (11, .quiet [7])], 0, [0, 1, 3, 7, 0, 16, 63, 127, 255, 255, 511, 2047]⟩, ⟨[(11, .quiet [0]), (4, .quiet [0]), (5, .quiet [0]), (6, .quiet [0]), (7, .quiet [0]), (8, .quiet [0]), (9, .quiet [0]), (10, .quiet [0]), (12, .eff), (1, .quiet [0, 9]), (2, .quiet [0, 9]), (3, .quiet [0, 9]), (0, .quiet [0, 9]), (13, .eff), (14, .quiet [14])], 0, [0, 0, 2, 6, 0, 16, 48, 112, 240, 496, 1008, 0, 4080, 8191, 16383]⟩, ⟨[(15, .quiet [0]), (16, .quiet [0]), (11, .quiet [0]), (12, .quiet [0]), (13, .quiet [0]), (14, .quiet [0]), (17, .eff), (7, .quiet [0, 7]), (8, .quiet [0, 7]), (9, .quiet [0, 7]), (10, .quiet [0, 7]), (0, .quiet [0, 7]), (1, .quiet [0, 7]), (2, .quiet [0, 7]), (3, .quiet [0, 7]), (4, .quiet [0, 7]), (5, .quiet [0, 7]), (6, .quiet [0, 7]), (18, .eff), (19, .quiet [19]), (20, .quiet [19]), (23, .quiet [19]), (21, .quiet [19]), (24, .quiet [19]), (22, .quiet [19]), (25, .quiet [19])], 0, [0, 1, 3, 7, 15, 31, 63, 0, 128, 384, 896, 0, 2048, 6144, 14336, 0, 32768, 129024, 262143, 524287, 1048575, 1048575, 1048575, 2097151, 12582911, 33554431]⟩, ⟨[(14, .quiet [0]), (13, .quiet [0]), (15, .quiet [0]), (16, .eff), (17, .quiet [0, 4]), (18, .quiet [0, 4]), (19, .alloc 0), (12, .quiet [0, 4]), (8, .quiet [0, 4]), (9, .quiet [0, 4]), (10, .quiet [0, 4]), (11, .quiet [0, 4]), (20, .quiet [4]), (21, .eff), (7, .quiet [0, 4, 14]), (0, .quiet [0, 4, 14]), (1, .quiet [0, 4, 14]), (2, .quiet [0, 4, 14]), (3, .quiet [0, 4, 14]), (4, .quiet [0, 4, 14]), (5, .quiet [0, 4, 14]), (6, .quiet [0, 4, 14]), (22, .eff)], 1, [0, 1, 3, 7, 15, 31, 63, 0, 0, 256, 768, 1792, 0, 0, 0, 24576, 57344, 0, 131072, 393216, 1048320, 2096896, 4194303]⟩]
def c128 : CFunc := ⟨84, [.tmp 3, .tmp 4],
 Rg [Op 3 (.move (.c (.nilSlice))), Op 4 (.move (Ci 0))]
 (.seq (.draw [⟨4, Op 16 (.fieldAddr 1 (.t 1)), (.quiet [0])⟩,
 ⟨5, Op 17 (.load false 1 (.t 16)), (.quiet [0])⟩,
 ⟨0, Mv 12 0, (.quiet [0])⟩,
 ⟨1, Op 13 (.nilCheck (.t 12)), (.quiet [0])⟩,
 ⟨2, Op 14 (.fieldAddr 0 (.t 13)), (.quiet [0])⟩,
 ⟨3, Op 15 (.load false 1 (.t 14)), (.quiet [0])⟩,
 ⟨6, Op 18 (Ca 124 [.t 15, .t 17]), (.eff)⟩,
 ⟨7, Mv 11 18, (.quiet [7])⟩,
 ⟨8, Op 19 (.extract (.t 11) 0), (.quiet [7])⟩,
 ⟨10, Mv 5 19, (.quiet [7])⟩,
 ⟨9, Op 20 (.extract (.t 11) 1), (.quiet [7])⟩,
 ⟨11, Mv 6 20, (.quiet [7])⟩] 0)
 (.seq (.draw [⟨11, Mv 32 5, (.quiet [0])⟩,
 ⟨4, Mv 25 0, (.quiet [0])⟩,
 ⟨5, Op 26 (.nilCheck (.t 25)), (.quiet [0])⟩,
 ⟨6, Op 27 (.fieldAddr 0 (.t 26)), (.quiet [0])⟩,
 ⟨7, Op 28 (.load false 1 (.t 27)), (.quiet [0])⟩,
 ⟨8, Op 29 (.nilCheck (.t 28)), (.quiet [0])⟩,
 ⟨9, Op 30 (.fieldAddr 5 (.t 29)), (.quiet [0])⟩,
 ⟨10, Op 31 (.load false 1 (.t 30)), (.quiet [0])⟩,
 ⟨12, Op 33 (Ca 126 [.t 31, .t 32]), (.eff)⟩,
 ⟨1, Op 22 (.fieldAddr 2 (.t 1)), (.quiet [0, 9])⟩,
 ⟨2, Op 23 (.load false 1 (.t 22)), (.quiet [0, 9])⟩,
 ⟨3, Op 24 (.len (.slice) (.t 23)), (.quiet [0, 9])⟩,
 ⟨0, Mv 21 0, (.quiet [0, 9])⟩,
 ⟨13, Op 34 (Ca 125 [.t 21, .t 24, .t 33]), (.eff)⟩,
 ⟨14, Mv 7 34, (.quiet [14])⟩] 0)
 (.seq (.draw [⟨15, Op 51 (.fieldAddr 3 (.t 1)), (.quiet [0])⟩,
 ⟨16, Op 52 (.load false 1 (.t 51)), (.quiet [0])⟩,
 ⟨11, Mv 47 0, (.quiet [0])⟩,
 ⟨12, Op 48 (.nilCheck (.t 47)), (.quiet [0])⟩,
 ⟨13, Op 49 (.fieldAddr 0 (.t 48)), (.quiet [0])⟩,
 ⟨14, Op 50 (.load false 1 (.t 49)), (.quiet [0])⟩,
 ⟨17, Op 53 (Ca 101 [.t 50, .t 52]), (.eff)⟩,
 ⟨7, Mv 43 0, (.quiet [0, 7])⟩,
 ⟨8, Op 44 (.nilCheck (.t 43)), (.quiet [0, 7])⟩,
 ⟨9, Op 45 (.fieldAddr 1 (.t 44)), (.quiet [0, 7])⟩,
 ⟨10, Op 46 (.load false 1 (.t 45)), (.quiet [0, 7])⟩,
 ⟨0, Mv 36 0, (.quiet [0, 7])⟩,
 ⟨1, Op 37 (.nilCheck (.t 36)), (.quiet [0, 7])⟩,
 ⟨2, Op 38 (.fieldAddr 0 (.t 37)), (.quiet [0, 7])⟩,
 ⟨3, Op 39 (.load false 1 (.t 38)), (.quiet [0, 7])⟩,
 ⟨4, Op 40 (.nilCheck (.t 39)), (.quiet [0, 7])⟩,
 ⟨5, Op 41 (.fieldAddr 9 (.t 40)), (.quiet [0, 7])⟩,
 ⟨6, Op 42 (.load false 1 (.t 41)), (.quiet [0, 7])⟩,
 ⟨18, Op 54 (Ca 129 [.t 42, .t 46, .t 53]), (.eff)⟩,
 ⟨19, Mv 35 54, (.quiet [19])⟩,
 ⟨20, Op 55 (.extract (.t 35) 0), (.quiet [19])⟩,
 ⟨23, Mv 8 55, (.quiet [19])⟩,
 ⟨21, Op 56 (.extract (.t 35) 1), (.quiet [19])⟩,
 ⟨24, Mv 9 56, (.quiet [19])⟩,
 ⟨22, Op 57 (.extract (.t 35) 2), (.quiet [19])⟩,
 ⟨25, Mv 10 57, (.quiet [19])⟩] 0)
 (.seq (Rg [Mv 58 10, Op 59 (.bin (.eql) (.t 58) (Ci 0))]
 (.cond (.t 59) (.draw [⟨14, Mv 74 7, (.quiet [0])⟩,
 ⟨13, Mv 73 5, (.quiet [0])⟩,
 ⟨15, Op 75 (.build [.int (.i64) 0, .nilSlice] [(0, 1, .t 73), (1, 1, .t 74)]), (.quiet [0])⟩,
 ⟨16, Op 76 (.buildSlice [.int (.i64) 0, .nilSlice] 1 [(0, 2, .t 75)]), (.eff)⟩,
 ⟨17, Mv 77 6, (.quiet [0, 4])⟩,
 ⟨18, Op 78 (.iface 86 (.t 77)), (.quiet [0, 4])⟩,
 ⟨19, Op 79 (.buildSlice [.nilIface] 1 [(0, 1, .t 78)]), (.alloc 0)⟩,
 ⟨12, Mv 72 8, (.quiet [0, 4])⟩,
 ⟨8, Mv 68 0, (.quiet [0, 4])⟩,
 ⟨9, Op 69 (.nilCheck (.t 68)), (.quiet [0, 4])⟩,
 ⟨10, Op 70 (.fieldAddr 0 (.t 69)), (.quiet [0, 4])⟩,
 ⟨11, Op 71 (.load false 1 (.t 70)), (.quiet [0, 4])⟩,
 ⟨20, Op 80 (.build [.nilPtr, .int (.i64) 0, .nilSlice, .nilSlice, .nilSlice] [(0, 1, .t 71), (1, 1, .t 72), (3, 1, .t 76), (4, 1, .t 79)]), (.quiet [4])⟩,
 ⟨21, Op 81 (.box (.t 80)), (.eff)⟩,
 ⟨7, Mv 67 8, (.quiet [0, 4, 14])⟩,
 ⟨0, Mv 60 0, (.quiet [0, 4, 14])⟩,
 ⟨1, Op 61 (.nilCheck (.t 60)), (.quiet [0, 4, 14])⟩,
 ⟨2, Op 62 (.fieldAddr 0 (.t 61)), (.quiet [0, 4, 14])⟩,
 ⟨3, Op 63 (.load false 1 (.t 62)), (.quiet [0, 4, 14])⟩,
 ⟨4, Op 64 (.nilCheck (.t 63)), (.quiet [0, 4, 14])⟩,
 ⟨5, Op 65 (.fieldAddr 10 (.t 64)), (.quiet [0, 4, 14])⟩,
 ⟨6, Op 66 (.load false 1 (.t 65)), (.quiet [0, 4, 14])⟩,
 ⟨22, On (.mapUpdate (.one (.int)) (.t 66) (.t 67) (.t 81)), (.eff)⟩] 1)
 (.skip)))
 (Rg [Mv 82 9, Mv 83 10, Mv 3 82, Mv 4 83]
 (.ret))))))⟩
theorem ok128 : compFunc prog glb 128 p128 = some c128 := by kernel_rfl
def p129 : List Plan := []
def c129 : CFunc := ⟨41, [.tmp 6, .cell 7 false 1, .tmp 8],
 Rg [Op 3 (.box (.t 0)), Op 6 (.move (Ci 0)), Op 7 (.new [.nilSlice]), Op 8 (.move (Ci 0))]
 (.seq (.block 0 (Rg [Op 10 (.load false 1 (.t 3)), Mv 11 1, Op 12 (Ca 35 [.t 10, .t 11]), Op 13 (.un (.not) (.t 12)), Mv 9 13]
 (.cond (.t 9) (Rg [Op 6 (.move (Ci 0)), On (.store 1 (.t 7) (.c (.nilSlice))), Op 8 (.move (Ci 4))]
 (.ret))
 (Rg [Mv 15 2, Op 16 (.load false 1 (.t 3)), Op 17 (.nilCheck (.t 16)), Op 18 (.fieldAddr 4 (.t 17)), Op 19 (.load false 1 (.t 18)), Op 20 (Ca 175 [.t 15, .t 19]), Op 21 (.un (.not) (.t 20)), Mv 14 21]
 (.cond (.t 14) (Rg [Op 6 (.move (Ci 0)), On (.store 1 (.t 7) (.c (.nilSlice))), Op 8 (.move (Ci 1))]
 (.ret))
 (Rg [Op 23 (.load false 1 (.t 3)), Op 24 (.nilCheck (.t 23)), Op 25 (.fieldAddr 1 (.t 24)), Op 26 (.load false 1 (.t 25)), Mv 27 1, Op 28 (Ca 73 [.t 26, .t 27]), Op 29 (Ca 193 [.t 28]), Op 30 (.un (.not) (.t 29)), Mv 22 30]
 (.cond (.t 22) (Rg [Op 6 (.move (Ci 0)), On (.store 1 (.t 7) (.c (.nilSlice))), Op 8 (.move (Ci 37))]
 (.ret))
 (.skip))))))))
 (Rg [Op 31 (.func 194 [] [.t 3, .t 7]), On (.defer (.t 31) [])]
 (Rg [Op 33 (.load false 1 (.t 3)), Mv 34 1, Mv 35 2, Op 36 (Ca 177 [.t 33, .t 34, .t 35]), Mv 32 36, Op 37 (.extract (.t 32) 0), Op 38 (.extract (.t 32) 1), Mv 6 37, Mv 8 38]
 (Rg [Mv 39 6, Mv 40 8, Mv 6 39, On (.store 1 (.t 7) (.c (.nilSlice))), Mv 8 40]
 (.ret)))))⟩
theorem ok129 : compFunc prog glb 129 p129 = some c129 := by kernel_rfl
def p130 : List Plan := [⟨[(7, .quiet [0]), (8, .quiet [0]), (0, .quiet [0]), (1, .quiet [0]), (2, .quiet [0]), (3, .quiet [0]), (4, .quiet [0]), (5, .quiet [0]), (6, .quiet [0]), (9, .eff), (13, .alloc 0), (10, .quiet [10]), (11, .quiet [10]), (14, .eff), (12, .quiet [10, 14]), (15, .quiet [14])], 1, [0, 1, 3, 7, 15, 31, 63, 0, 128, 511, 1023, 2047, 2047, 0, 12287, 32767]⟩, ⟨[(5, .quiet [0]), (6, .quiet [0]), (1, .quiet [0]), (2, .quiet [0]), (3, .quiet [0]), (4, .quiet [0]), (0, .quiet [0]), (7, .eff), (8, .quiet [8]), (10, .quiet [8]), (9, .quiet [8]), (12, .quiet [8]), (11, .quiet [8]), (13, .quiet [8])], 0, [0, 0, 2, 6, 14, 0, 32, 127, 255, 511, 511, 511, 2047, 8191]⟩, ⟨[(5, .quiet [0]), (6, .quiet [0]), (1, .quiet [0]), (2, .quiet [0]), (3, .quiet [0]), (4, .quiet [0]), (0, .quiet [0]), (7, .eff), (8, .quiet [8])], 0, [0, 0, 2, 6, 14, 0, 32, 127, 255]⟩, ⟨[(9, .quiet [0]), (10, .quiet [0]), (5, .quiet [0]), (6, .quiet [0]), (7, .quiet [0]), (8, .quiet [0]), (11, .eff), (1, .quiet [0, 7]), (2, .quiet [0, 7]), (3, .quiet [0, 7]), (4, .quiet [0, 7]), (0, .quiet [0, 7]), (12, .eff), (13, .quiet [13]), (15, .quiet [13]), (14, .quiet [13]), (17, .quiet [13]), (16, .quiet [13]), (18, .quiet [13])], 0, [0, 0, 2, 6, 14, 0, 32, 96, 224, 0, 512, 2016, 4095, 8191, 16383, 16383, 16383, 65535, 262143]⟩, ⟨[(9, .quiet [0]), (10, .quiet [0]), (5, .quiet [0]), (6, .quiet [0]), (7, .quiet [0]), (8, .quiet [0]), (11, .eff), (1, .quiet [0, 7]), (2, .quiet [0, 7]), (3, .quiet [0, 7]), (4, .quiet [0, 7]), (0, .quiet [0, 7]), (12, .eff), (13, .quiet [13]), (14, .quiet [13]), (16, .quiet [13]), (15, .quiet [13]), (17, .quiet [13])], 0, [0, 0, 2, 6, 14, 0, 32, 96, 224, 0, 512, 2016, 4095, 8191, 16383, 16383, 32767, 131071]⟩]
def c130 : CFunc := ⟨105, [.tmp 3, .tmp 4],
 Rg [Op 3 (.move (.c (.nilSlice))), Op 4 (.move (Ci 0))]
 (Rg [Mv 8 0, Op 9 (.nilCheck (.t 8)), Op 10 (.fieldAddr 0 (.t 9)), Op 11 (.load false 1 (.t 10)), Op 12 (.nilCheck (.t 11)), Op 13 (.fieldAddr 9 (.t 12)), Op 14 (.load false 1 (.t 13)), Mv 5 14]
 (.seq (.draw [⟨7, Op 23 (.fieldAddr 2 (.t 1)), (.quiet [0])⟩,
 ⟨8, Op 24 (.load false 1 (.t 23)), (.quiet [0])⟩,
 ⟨0, Mv 16 0, (.quiet [0])⟩,
 ⟨1, Op 17 (.nilCheck (.t 16)), (.quiet [0])⟩,
 ⟨2, Op 18 (.fieldAddr 0 (.t 17)), (.quiet [0])⟩,
 ⟨3, Op 19 (.load false 1 (.t 18)), (.quiet [0])⟩,
 ⟨4, Op 20 (.nilCheck (.t 19)), (.quiet [0])⟩,
 ⟨5, Op 21 (.fieldAddr 5 (.t 20)), (.quiet [0])⟩,
 ⟨6, Op 22 (.load false 1 (.t 21)), (.quiet [0])⟩,
 ⟨9, Op 25 (Ca 112 [.t 22, .t 24]), (.eff)⟩,
 ⟨13, Op 6 (.new [.int (.i64) 0, .int (.i64) 0, .int (.i64) 0]), (.alloc 0)⟩,
 ⟨10, Mv 15 25, (.quiet [10])⟩,
 ⟨11, Op 26 (.extract (.t 15) 0), (.quiet [10])⟩,
 ⟨14, On (.store 3 (.t 6) (.t 26)), (.eff)⟩,
 ⟨12, Op 27 (.extract (.t 15) 1), (.quiet [10, 14])⟩,
 ⟨15, Mv 7 27, (.quiet [14])⟩] 1)
 (.seq (Rg [Op 28 (.fieldAddr 0 (.t 1)), Op 29 (.load false 1 (.t 28))]
 (.block 0 (Rg [Op 31 (.bin (.eql) (.t 29) (Ci 7)), Mv 30 31]
 (.cond (.t 30) (.region [Mv 33 5, Mv 34 0, Op 35 (.nilCheck (.t 34)), Op 36 (.fieldAddr 1 (.t 35)), Op 37 (.load false 1 (.t 36)), Op 38 (Ca 131 [.t 33, .t 37]), Mv 32 38, Op 39 (.extract (.t 32) 0), Op 40 (.extract (.t 32) 1), Op 41 (.extract (.t 32) 2), Mv 3 40, Mv 4 41])
 (Rg [Op 43 (.bin (.eql) (.t 29) (Ci 8)), Mv 42 43]
 (.cond (.t 42) (.draw [⟨5, Op 50 (.fieldAddr 1 (.t 6)), (.quiet [0])⟩,
 ⟨6, Op 51 (.load false 1 (.t 50)), (.quiet [0])⟩,
 ⟨1, Mv 46 0, (.quiet [0])⟩,
 ⟨2, Op 47 (.nilCheck (.t 46)), (.quiet [0])⟩,
 ⟨3, Op 48 (.fieldAddr 1 (.t 47)), (.quiet [0])⟩,
 ⟨4, Op 49 (.load false 1 (.t 48)), (.quiet [0])⟩,
 ⟨0, Mv 45 5, (.quiet [0])⟩,
 ⟨7, Op 52 (Ca 132 [.t 45, .t 49, .t 51]), (.eff)⟩,
 ⟨8, Mv 44 52, (.quiet [8])⟩,
 ⟨10, Op 54 (.extract (.t 44) 1), (.quiet [8])⟩,
 ⟨9, Op 53 (.extract (.t 44) 0), (.quiet [8])⟩,
 ⟨12, Mv 3 54, (.quiet [8])⟩,
 ⟨11, Op 55 (.extract (.t 44) 2), (.quiet [8])⟩,
 ⟨13, Mv 4 55, (.quiet [8])⟩] 0)
 (Rg [Op 57 (.bin (.eql) (.t 29) (Ci 9)), Mv 56 57]
 (.cond (.t 56) (.draw [⟨5, Op 63 (.fieldAddr 1 (.t 6)), (.quiet [0])⟩,
 ⟨6, Op 64 (.load false 1 (.t 63)), (.quiet [0])⟩,
 ⟨1, Mv 59 0, (.quiet [0])⟩,
 ⟨2, Op 60 (.nilCheck (.t 59)), (.quiet [0])⟩,
 ⟨3, Op 61 (.fieldAddr 1 (.t 60)), (.quiet [0])⟩,
 ⟨4, Op 62 (.load false 1 (.t 61)), (.quiet [0])⟩,
 ⟨0, Mv 58 5, (.quiet [0])⟩,
 ⟨7, Op 65 (Ca 133 [.t 58, .t 62, .t 64]), (.eff)⟩,
 ⟨8, Mv 4 65, (.quiet [8])⟩] 0)
 (Rg [Op 67 (.bin (.eql) (.t 29) (Ci 11)), Mv 66 67]
 (.cond (.t 66) (.draw [⟨9, Op 78 (.fieldAddr 7 (.t 1)), (.quiet [0])⟩,
 ⟨10, Op 79 (.load false 1 (.t 78)), (.quiet [0])⟩,
 ⟨5, Mv 74 0, (.quiet [0])⟩,
 ⟨6, Op 75 (.nilCheck (.t 74)), (.quiet [0])⟩,
 ⟨7, Op 76 (.fieldAddr 0 (.t 75)), (.quiet [0])⟩,
 ⟨8, Op 77 (.load false 1 (.t 76)), (.quiet [0])⟩,
 ⟨11, Op 80 (Ca 101 [.t 77, .t 79]), (.eff)⟩,
 ⟨1, Mv 70 0, (.quiet [0, 7])⟩,
 ⟨2, Op 71 (.nilCheck (.t 70)), (.quiet [0, 7])⟩,
 ⟨3, Op 72 (.fieldAddr 1 (.t 71)), (.quiet [0, 7])⟩,
 ⟨4, Op 73 (.load false 1 (.t 72)), (.quiet [0, 7])⟩,
 ⟨0, Mv 69 5, (.quiet [0, 7])⟩,
 ⟨12, Op 81 (Ca 134 [.t 69, .t 73, .t 80]), (.eff)⟩,
 ⟨13, Mv 68 81, (.quiet [13])⟩,
 ⟨15, Op 83 (.extract (.t 68) 1), (.quiet [13])⟩,
 ⟨14, Op 82 (.extract (.t 68) 0), (.quiet [13])⟩,
 ⟨17, Mv 3 83, (.quiet [13])⟩,
 ⟨16, Op 84 (.extract (.t 68) 2), (.quiet [13])⟩,
 ⟨18, Mv 4 84, (.quiet [13])⟩] 0)
 (Rg [Op 86 (.bin (.eql) (.t 29) (Ci 12)), Mv 85 86]
 (.cond (.t 85) (.draw [⟨9, Op 97 (.fieldAddr 7 (.t 1)), (.quiet [0])⟩,
 ⟨10, Op 98 (.load false 1 (.t 97)), (.quiet [0])⟩,
 ⟨5, Mv 93 0, (.quiet [0])⟩,
 ⟨6, Op 94 (.nilCheck (.t 93)), (.quiet [0])⟩,
 ⟨7, Op 95 (.fieldAddr 0 (.t 94)), (.quiet [0])⟩,
 ⟨8, Op 96 (.load false 1 (.t 95)), (.quiet [0])⟩,
 ⟨11, Op 99 (Ca 101 [.t 96, .t 98]), (.eff)⟩,
 ⟨1, Mv 89 0, (.quiet [0, 7])⟩,
 ⟨2, Op 90 (.nilCheck (.t 89)), (.quiet [0, 7])⟩,
 ⟨3, Op 91 (.fieldAddr 1 (.t 90)), (.quiet [0, 7])⟩,
 ⟨4, Op 92 (.load false 1 (.t 91)), (.quiet [0, 7])⟩,
 ⟨0, Mv 88 5, (.quiet [0, 7])⟩,
 ⟨12, Op 100 (Ca 135 [.t 88, .t 92, .t 99]), (.eff)⟩,
 ⟨13, Mv 87 100, (.quiet [13])⟩,
 ⟨14, Op 101 (.extract (.t 87) 0), (.quiet [13])⟩,
 ⟨16, Mv 3 101, (.quiet [13])⟩,
 ⟨15, Op 102 (.extract (.t 87) 1), (.quiet [13])⟩,
 ⟨17, Mv 4 102, (.quiet [13])⟩] 0)
 (.skip)))))))))))))
 (Rg [Mv 103 3, Mv 104 4, Mv 3 103, Mv 4 104]
 (.ret)))))⟩
theorem ok130 : compFunc prog glb 130 p130 = some c130 := by kernel_rfl
def p131 : List Plan := []
def c131 : CFunc := ⟨22, [.tmp 4, .cell 5 false 1, .tmp 6],
 Rg [Op 2 (.box (.t 0)), Op 4 (.move (.c (.bool false))), Op 5 (.new [.nilSlice]), Op 6 (.move (Ci 0))]
 (.seq (Rg [Op 7 (.load false 1 (.t 2)), Mv 8 1, Op 9 (Ca 35 [.t 7, .t 8]), Op 10 (.un (.not) (.t 9))]
 (.cond (.t 10) (Rg [Op 4 (.move (.c (.bool false))), On (.store 1 (.t 5) (.c (.nilSlice))), Op 6 (.move (Ci 4))]
 (.ret))
 (.skip)))
 (Rg [Op 11 (.func 195 [] [.t 2, .t 5]), On (.defer (.t 11) [])]
 (.seq (Rg [Op 12 (.load false 1 (.t 2)), Op 13 (.nilCheck (.t 12)), Op 14 (.fieldAddr 0 (.t 13)), Op 15 (.load false 1 (.t 14)), Mv 16 1, Op 17 (Ca 196 [.t 15, .t 16]), Op 18 (.un (.not) (.t 17))]
 (.cond (.t 18) (Rg [Op 19 (.load false 1 (.t 2)), Mv 20 1, Op 21 (Ca 38 [.t 19, Ci 2, .t 20, Ci 5, Ci 0])]
 (Rg [Op 4 (.move (.c (.bool false))), On (.store 1 (.t 5) (.c (.nilSlice))), Op 6 (.move (Ci 0))]
 (.ret)))
 (.skip)))
 (Rg [Op 4 (.move (.c (.bool true))), On (.store 1 (.t 5) (.c (.nilSlice))), Op 6 (.move (Ci 0))]
 (.ret)))))⟩
theorem ok131 : compFunc prog glb 131 p131 = some c131 := by kernel_rfl
def p132 : List Plan := []
def c132 : CFunc := ⟨34, [.tmp 6, .cell 7 false 1, .tmp 8],
 Rg [Op 3 (.box (.t 0)), Op 6 (.move (.c (.bool false))), Op 7 (.new [.nilSlice]), Op 8 (.move (Ci 0))]
 (.seq (.block 0 (Rg [Op 10 (.load false 1 (.t 3)), Mv 11 1, Op 12 (Ca 35 [.t 10, .t 11]), Op 13 (.un (.not) (.t 12)), Mv 9 13]
 (.cond (.t 9) (Rg [Op 6 (.move (.c (.bool false))), On (.store 1 (.t 7) (.c (.nilSlice))), Op 8 (.move (Ci 4))]
 (.ret))
 (Rg [Op 15 (.load false 1 (.t 3)), Mv 16 2, Op 17 (Ca 197 [.t 15, .t 16]), Op 18 (.eq (.ptr) false (.t 17) (.c (.nilPtr))), Mv 14 18]
 (.cond (.t 14) (Rg [Op 6 (.move (.c (.bool false))), On (.store 1 (.t 7) (.c (.nilSlice))), Op 8 (.move (Ci 3))]
 (.ret))
 (.skip))))))
 (Rg [Op 19 (.func 198 [] [.t 3, .t 7]), On (.defer (.t 19) [])]
 (.seq (Rg [Op 20 (.load false 1 (.t 3)), Op 21 (.nilCheck (.t 20)), Op 22 (.fieldAddr 2 (.t 21)), Op 23 (.load false 1 (.t 22)), Mv 24 2, Op 25 (.indexAddr 1 (.t 23) (.t 24)), Op 26 (.load false 1 (.t 25)), Mv 27 1, Op 28 (Ca 199 [.t 26, .t 27]), Op 29 (.un (.not) (.t 28))]
 (.cond (.t 29) (Rg [Op 30 (.load false 1 (.t 3)), Mv 31 1, Mv 32 2, Op 33 (Ca 200 [.t 30, .t 31, Ci 1, .t 32])]
 (Rg [Op 6 (.move (.c (.bool false))), On (.store 1 (.t 7) (.c (.nilSlice))), Op 8 (.move (Ci 0))]
 (.ret)))
 (.skip)))
 (Rg [Op 6 (.move (.c (.bool true))), On (.store 1 (.t 7) (.c (.nilSlice))), Op 8 (.move (Ci 0))]
 (.ret)))))⟩
theorem ok132 : compFunc prog glb 132 p132 = some c132 := by kernel_rfl
def p133 : List Plan := [⟨[(8, .quiet [0]), (4, .quiet [0]), (5, .quiet [0]), (6, .quiet [0]), (7, .quiet [0]), (9, .quiet [0]), (10, .quiet [0]), (11, .eff), (0, .quiet [0, 8]), (1, .quiet [0, 8]), (2, .quiet [0, 8]), (3, .quiet [0, 8]), (12, .eff)], 0, [0, 1, 3, 7, 0, 16, 48, 112, 0, 496, 1008, 2032, 4095]⟩]
def c133 : CFunc := ⟨30, [.tmp 6],
 Rg [Op 6 (.move (Ci 0))]
 (.seq (.block 0 (Rg [Mv 8 0, Mv 9 1, Op 10 (Ca 35 [.t 8, .t 9]), Op 11 (.un (.not) (.t 10)), Mv 7 11]
 (.cond (.t 7) (Rg [Op 6 (.move (Ci 4))]
 (.ret))
 (Rg [Mv 13 0, Mv 14 2, Op 15 (Ca 197 [.t 13, .t 14]), Op 16 (.eq (.ptr) false (.t 15) (.c (.nilPtr))), Mv 12 16]
 (.cond (.t 12) (Rg [Op 6 (.move (Ci 3))]
 (.ret))
 (.skip))))))
 (.seq (.draw [⟨8, Mv 25 2, (.quiet [0])⟩,
 ⟨4, Mv 21 0, (.quiet [0])⟩,
 ⟨5, Op 22 (.nilCheck (.t 21)), (.quiet [0])⟩,
 ⟨6, Op 23 (.fieldAddr 2 (.t 22)), (.quiet [0])⟩,
 ⟨7, Op 24 (.load false 1 (.t 23)), (.quiet [0])⟩,
 ⟨9, Op 26 (.indexAddr 1 (.t 24) (.t 25)), (.quiet [0])⟩,
 ⟨10, Op 27 (.load false 1 (.t 26)), (.quiet [0])⟩,
 ⟨11, Op 28 (Ca 201 [.t 27]), (.eff)⟩,
 ⟨0, Mv 17 0, (.quiet [0, 8])⟩,
 ⟨1, Op 18 (.nilCheck (.t 17)), (.quiet [0, 8])⟩,
 ⟨2, Op 19 (.fieldAddr 0 (.t 18)), (.quiet [0, 8])⟩,
 ⟨3, Op 20 (.load false 1 (.t 19)), (.quiet [0, 8])⟩,
 ⟨12, Op 29 (Ca 40 [.t 20, .t 28]), (.eff)⟩] 0)
 (Rg [Op 6 (.move (Ci 0))]
 (.ret))))⟩
theorem ok133 : compFunc prog glb 133 p133 = some c133 := by kernel_rfl
def p134 : List Plan := [⟨[(2, .quiet [0]), (3, .eff), (1, .quiet [0, 2]), (0, .quiet [0, 2]), (4, .eff)], 0, [0, 0, 0, 4, 15]⟩, ⟨[(2, .quiet [0]), (3, .eff), (1, .quiet [0, 2]), (0, .quiet [0, 2]), (4, .eff)], 0, [0, 0, 0, 4, 15]⟩]
def c134 : CFunc := ⟨42, [.tmp 6, .cell 7 false 1, .tmp 8],
 Rg [Op 3 (.box (.t 0)), Op 6 (.move (.c (.bool false))), Op 7 (.new [.nilSlice]), Op 8 (.move (Ci 0))]
 (.seq (Rg [Op 10 (.load false 1 (.t 3)), Mv 11 1, Op 12 (Ca 35 [.t 10, .t 11]), Op 13 (.un (.not) (.t 12))]
 (.cond (.t 13) (Rg [Op 6 (.move (.c (.bool false))), On (.store 1 (.t 7) (.c (.nilSlice))), Op 8 (.move (Ci 4))]
 (.ret))
 (.skip)))
 (Rg [Op 15 (.load false 1 (.t 3)), Op 16 (.nilCheck (.t 15)), Op 17 (.fieldAddr 1 (.t 16)), Op 18 (.load false 1 (.t 17)), Mv 19 1, Mv 20 2, Op 21 (Ca 202 [.t 18, .t 19, .t 20]), Mv 14 21, Op 22 (.extract (.t 14) 0), Op 23 (.extract (.t 14) 1), Mv 9 22, Mv 8 23]
 (.seq (Rg [Mv 24 8, Op 25 (.bin (.neq) (.t 24) (Ci 0))]
 (.cond (.t 25) (Rg [Mv 26 8, Op 6 (.move (.c (.bool false))), On (.store 1 (.t 7) (.c (.nilSlice))), Mv 8 26]
 (.ret))
 (.skip)))
 (Rg [Op 27 (.func 203 [] [.t 3, .t 7]), On (.defer (.t 27) [])]
 (.seq (Rg [Mv 28 9, Mv 29 1, Op 30 (Ca 204 [.t 28, .t 29]), Op 31 (.un (.not) (.t 30))]
 (.cond (.t 31) (.seq (.draw [⟨2, Mv 34 2, (.quiet [0])⟩,
 ⟨3, Op 35 (Ca 81 [.t 34]), (.eff)⟩,
 ⟨1, Mv 33 1, (.quiet [0, 2])⟩,
 ⟨0, Op 32 (.load false 1 (.t 3)), (.quiet [0, 2])⟩,
 ⟨4, Op 36 (Ca 200 [.t 32, .t 33, Ci 4, .t 35]), (.eff)⟩] 0)
 (Rg [Op 6 (.move (.c (.bool false))), On (.store 1 (.t 7) (.c (.nilSlice))), Op 8 (.move (Ci 0))]
 (.ret)))
 (.skip)))
 (.seq (.draw [⟨2, Mv 39 2, (.quiet [0])⟩,
 ⟨3, Op 40 (Ca 81 [.t 39]), (.eff)⟩,
 ⟨1, Mv 38 1, (.quiet [0, 2])⟩,
 ⟨0, Op 37 (.load false 1 (.t 3)), (.quiet [0, 2])⟩,
 ⟨4, Op 41 (Ca 38 [.t 37, Ci 3, .t 38, .t 40, Ci 0]), (.eff)⟩] 0)
 (Rg [Op 6 (.move (.c (.bool true))), On (.store 1 (.t 7) (.c (.nilSlice))), Op 8 (.move (Ci 0))]
 (.ret))))))))⟩
theorem ok134 : compFunc prog glb 134 p134 = some c134 := by kernel_rfl
def p135 : List Plan := [⟨[(1, .eff), (0, .quiet [0, 1]), (2, .eff)], 0, [0, 0, 3]⟩]
def c135 : CFunc := ⟨35, [.cell 6 false 1, .cell 7 false 1],
 Rg [Op 3 (.box (.t 0)), Op 6 (.new [.nilSlice]), Op 7 (.new [.int (.i64) 0])]
 (.seq (Rg [Op 10 (.load false 1 (.t 3)), Mv 11 1, Op 12 (Ca 35 [.t 10, .t 11]), Op 13 (.un (.not) (.t 12))]
 (.cond (.t 13) (Rg [On (.store 1 (.t 6) (.c (.nilSlice))), On (.store 1 (.t 7) (Ci 4))]
 (.ret))
 (.skip)))
 (Rg [Op 14 (.func 205 [] [.t 7, .t 3, .t 6]), On (.defer (.t 14) [])]
 (Rg [Op 15 (.load false 1 (.t 3)), Op 16 (.nilCheck (.t 15)), Op 17 (.fieldAddr 1 (.t 16)), Op 18 (.load false 1 (.t 17)), Op 19 (Ca 41 [.t 18]), Mv 8 19]
 (Rg [Op 21 (.load false 1 (.t 3)), Op 22 (.nilCheck (.t 21)), Op 23 (.fieldAddr 1 (.t 22)), Op 24 (.load false 1 (.t 23)), Mv 25 1, Mv 26 2, Op 27 (Ca 206 [.t 24, .t 25, .t 26]), Mv 20 27, Op 28 (.extract (.t 20) 0), Op 29 (.extract (.t 20) 1), Mv 9 28, On (.store 1 (.t 7) (.t 29))]
 (Rg [Op 30 (.load false 1 (.t 3)), Mv 31 8, Mv 32 9, Op 33 (Ca 43 [.t 30, .t 31, .t 32])]
 (.seq (.draw [⟨1, On (.store 1 (.t 6) (.c (.nilSlice))), (.eff)⟩,
 ⟨0, Op 34 (.load false 1 (.t 7)), (.quiet [0, 1])⟩,
 ⟨2, On (.store 1 (.t 7) (.t 34)), (.eff)⟩] 0)
 (.ret)))))))⟩
theorem ok135 : compFunc prog glb 135 p135 = some c135 := by kernel_rfl
def p136 : List Plan := []
def c136 : CFunc := ⟨21, [.tmp 4, .tmp 5],
 Rg [Op 4 (.move (Ci 0)), Op 5 (.move (.c (.bool false)))]
 (.seq (Rg [Mv 8 0, Op 9 (.eq (.ptr) false (.t 8) (.c (.nilPtr)))]
 (.cond (.t 9) (Rg [Op 4 (.move (Ci 0)), Op 5 (.move (.c (.bool false)))]
 (.ret))
 (.skip)))
 (Rg [Mv 11 0, Op 12 (.nilCheck (.t 11)), Op 13 (.fieldAddr 7 (.t 12)), Op 14 (.load false 1 (.t 13)), Mv 15 1, Op 16 (.lookup (.one (.str)) (.int (.i64) 0) true (.t 14) (.t 15)), Mv 10 16, Op 17 (.extract (.t 10) 0), Op 18 (.extract (.t 10) 1), Mv 6 17, Mv 7 18]
 (Rg [Mv 19 6, Mv 20 7, Mv 4 19, Mv 5 20]
 (.ret))))⟩
theorem ok136 : compFunc prog glb 136 p136 = some c136 := by kernel_rfl
def p137 : List Plan := [⟨[(11, .quiet [0]), (7, .quiet [0]), (8, .quiet [0]), (9, .quiet [0]), (10, .quiet [0]), (0, .quiet [0]), (1, .quiet [0]), (2, .quiet [0]), (3, .quiet [0]), (4, .quiet [0]), (5, .quiet [0]), (6, .quiet [0]), (12, .eff), (13, .quiet [13]), (14, .quiet [13]), (17, .quiet [13]), (15, .quiet [13]), (18, .quiet [13]), (16, .quiet [13]), (19, .quiet [13])], 0, [0, 1, 3, 7, 15, 31, 63, 0, 128, 384, 896, 0, 4095, 8191, 16383, 16383, 16383, 32767, 196607, 524287]⟩]
def c137 : CFunc := ⟨27, [.tmp 3, .tmp 4],
 Rg [Op 3 (.move (.c (.nilSlice))), Op 4 (.move (Ci 0))]
 (.seq (.draw [⟨11, Op 20 (.load false 1 (.t 1)), (.quiet [0])⟩,
 ⟨7, Mv 16 0, (.quiet [0])⟩,
 ⟨8, Op 17 (.nilCheck (.t 16)), (.quiet [0])⟩,
 ⟨9, Op 18 (.fieldAddr 1 (.t 17)), (.quiet [0])⟩,
 ⟨10, Op 19 (.load false 1 (.t 18)), (.quiet [0])⟩,
 ⟨0, Mv 9 0, (.quiet [0])⟩,
 ⟨1, Op 10 (.nilCheck (.t 9)), (.quiet [0])⟩,
 ⟨2, Op 11 (.fieldAddr 0 (.t 10)), (.quiet [0])⟩,
 ⟨3, Op 12 (.load false 1 (.t 11)), (.quiet [0])⟩,
 ⟨4, Op 13 (.nilCheck (.t 12)), (.quiet [0])⟩,
 ⟨5, Op 14 (.fieldAddr 9 (.t 13)), (.quiet [0])⟩,
 ⟨6, Op 15 (.load false 1 (.t 14)), (.quiet [0])⟩,
 ⟨12, Op 21 (Ca 138 [.t 15, .t 19, .t 20]), (.eff)⟩,
 ⟨13, Mv 8 21, (.quiet [13])⟩,
 ⟨14, Op 22 (.extract (.t 8) 0), (.quiet [13])⟩,
 ⟨17, Mv 5 22, (.quiet [13])⟩,
 ⟨15, Op 23 (.extract (.t 8) 1), (.quiet [13])⟩,
 ⟨18, Mv 6 23, (.quiet [13])⟩,
 ⟨16, Op 24 (.extract (.t 8) 2), (.quiet [13])⟩,
 ⟨19, Mv 7 24, (.quiet [13])⟩] 0)
 (Rg [Mv 25 6, Mv 26 7, Mv 3 25, Mv 4 26]
 (.ret)))⟩
theorem ok137 : compFunc prog glb 137 p137 = some c137 := by kernel_rfl
def p138 : List Plan := []
def c138 : CFunc := ⟨45, [.tmp 6, .cell 7 false 1, .tmp 8],
 Rg [Op 3 (.box (.t 0)), Op 6 (.move (.c (.bool false))), Op 7 (.new [.nilSlice]), Op 8 (.move (Ci 0))]
 (.seq (.block 0 (Rg [Op 10 (.load false 1 (.t 3)), Mv 11 1, Op 12 (Ca 35 [.t 10, .t 11]), Op 13 (.un (.not) (.t 12)), Mv 9 13]
 (.cond (.t 9) (Rg [Op 6 (.move (.c (.bool false))), On (.store 1 (.t 7) (.c (.nilSlice))), Op 8 (.move (Ci 4))]
 (.ret))
 (Rg [Op 15 (.load false 1 (.t 3)), Mv 16 2, Op 17 (Ca 207 [.t 15, .t 16]), Op 18 (.eq (.ptr) false (.t 17) (.c (.nilPtr))), Mv 14 18]
 (.cond (.t 14) (Rg [Op 6 (.move (.c (.bool false))), On (.store 1 (.t 7) (.c (.nilSlice))), Op 8 (.move (Ci 3))]
 (.ret))
 (Rg [Op 20 (.load false 1 (.t 3)), Op 21 (.nilCheck (.t 20)), Op 22 (.fieldAddr 3 (.t 21)), Op 23 (.load false 1 (.t 22)), Mv 24 2, Op 25 (.indexAddr 1 (.t 23) (.t 24)), Op 26 (.load false 1 (.t 25)), Op 27 (Ca 142 [.t 26]), Mv 28 1, Op 29 (.bin (.eql) (.t 27) (.t 28)), Mv 19 29]
 (.cond (.t 19) (Rg [Op 6 (.move (.c (.bool false))), On (.store 1 (.t 7) (.c (.nilSlice))), Op 8 (.move (Ci 38))]
 (.ret))
 (.skip))))))))
 (Rg [Op 30 (.func 208 [] [.t 3, .t 7]), On (.defer (.t 30) [])]
 (.seq (Rg [Op 31 (.load false 1 (.t 3)), Op 32 (.nilCheck (.t 31)), Op 33 (.fieldAddr 3 (.t 32)), Op 34 (.load false 1 (.t 33)), Mv 35 2, Op 36 (.indexAddr 1 (.t 34) (.t 35)), Op 37 (.load false 1 (.t 36)), Mv 38 1, Op 39 (Ca 209 [.t 37, .t 38]), Op 40 (.un (.not) (.t 39))]
 (.cond (.t 40) (Rg [Op 41 (.load false 1 (.t 3)), Mv 42 1, Mv 43 2, Op 44 (Ca 200 [.t 41, .t 42, Ci 2, .t 43])]
 (Rg [Op 6 (.move (.c (.bool false))), On (.store 1 (.t 7) (.c (.nilSlice))), Op 8 (.move (Ci 0))]
 (.ret)))
 (.skip)))
 (Rg [Op 6 (.move (.c (.bool true))), On (.store 1 (.t 7) (.c (.nilSlice))), Op 8 (.move (Ci 0))]
 (.ret)))))⟩
theorem ok138 : compFunc prog glb 138 p138 = some c138 := by kernel_rfl
def p139 : List Plan := [⟨[(11, .quiet [0]), (7, .quiet [0]), (8, .quiet [0]), (9, .quiet [0]), (10, .quiet [0]), (0, .quiet [0]), (1, .quiet [0]), (2, .quiet [0]), (3, .quiet [0]), (4, .quiet [0]), (5, .quiet [0]), (6, .quiet [0]), (12, .eff), (13, .quiet [13]), (14, .quiet [13])], 0, [0, 1, 3, 7, 15, 31, 63, 0, 128, 384, 896, 0, 4095, 8191, 16383]⟩]
def c139 : CFunc := ⟨18, [.tmp 3, .tmp 4],
 Rg [Op 3 (.move (.c (.nilSlice))), Op 4 (.move (Ci 0))]
 (.seq (.draw [⟨11, Op 16 (.load false 1 (.t 1)), (.quiet [0])⟩,
 ⟨7, Mv 12 0, (.quiet [0])⟩,
 ⟨8, Op 13 (.nilCheck (.t 12)), (.quiet [0])⟩,
 ⟨9, Op 14 (.fieldAddr 1 (.t 13)), (.quiet [0])⟩,
 ⟨10, Op 15 (.load false 1 (.t 14)), (.quiet [0])⟩,
 ⟨0, Mv 5 0, (.quiet [0])⟩,
 ⟨1, Op 6 (.nilCheck (.t 5)), (.quiet [0])⟩,
 ⟨2, Op 7 (.fieldAddr 0 (.t 6)), (.quiet [0])⟩,
 ⟨3, Op 8 (.load false 1 (.t 7)), (.quiet [0])⟩,
 ⟨4, Op 9 (.nilCheck (.t 8)), (.quiet [0])⟩,
 ⟨5, Op 10 (.fieldAddr 9 (.t 9)), (.quiet [0])⟩,
 ⟨6, Op 11 (.load false 1 (.t 10)), (.quiet [0])⟩,
 ⟨12, Op 17 (Ca 140 [.t 11, .t 15, .t 16]), (.eff)⟩,
 ⟨13, Op 3 (.move (.c (.nilSlice))), (.quiet [13])⟩,
 ⟨14, Mv 4 17, (.quiet [13])⟩] 0)
 (.ret))⟩
theorem ok139 : compFunc prog glb 139 p139 = some c139 := by kernel_rfl
def p140 : List Plan := []
def c140 : CFunc := ⟨35, [.tmp 6],
 Rg [Op 6 (.move (Ci 0))]
 (Rg [Mv 10 0, Mv 11 1, Mv 12 2, Op 13 (Ca 210 [.t 10, .t 11, .t 12]), Mv 7 13]
 (.seq (Rg [Mv 14 7, Op 15 (.bin (.eql) (.t 14) (Ci 0))]
 (.cond (.t 15) (Rg [Mv 17 0, Op 18 (.nilCheck (.t 17)), Op 19 (.fieldAddr 3 (.t 18)), Op 20 (.load false 1 (.t 19)), Mv 21 2, Op 22 (.indexAddr 1 (.t 20) (.t 21)), Op 23 (.load false 1 (.t 22)), Mv 24 1, Op 25 (Ca 39 [.t 23, .t 24]), Mv 16 25, Op 26 (.extract (.t 16) 0), Op 27 (.extract (.t 16) 1), Mv 8 26, Mv 9 27]
 (.region [Mv 28 0, Op 29 (.nilCheck (.t 28)), Op 30 (.fieldAddr 0 (.t 29)), Op 31 (.load false 1 (.t 30)), Mv 32 8, Op 33 (Ca 40 [.t 31, .t 32])]))
 (.skip)))
 (Rg [Mv 34 7, Mv 6 34]
 (.ret))))⟩
theorem ok140 : compFunc prog glb 140 p140 = some c140 := by kernel_rfl
def p141 : List Plan := []
def c141 : CFunc := ⟨6, [.tmp 4],
 Rg [Op 2 (.box (.t 0)), Op 3 (.box (.t 1)), Op 4 (.move (.c (.nilFunc)))]
 (Rg [Op 5 (.func 211 [] [.t 2, .t 3]), Mv 4 5]
 (.ret))⟩
theorem ok141 : compFunc prog glb 141 p141 = some c141 := by kernel_rfl
def p142 : List Plan := []
def c142 : CFunc := ⟨9, [.tmp 2],
 Rg [Op 2 (.move (Ci 0))]
 (.seq (Rg [Mv 3 0, Op 4 (.eq (.ptr) false (.t 3) (.c (.nilPtr)))]
 (.cond (.t 4) (Rg [Op 2 (.move (Ci 0))]
 (.ret))
 (.skip)))
 (Rg [Mv 5 0, Op 6 (.nilCheck (.t 5)), Op 7 (.fieldAddr 0 (.t 6)), Op 8 (.load false 1 (.t 7)), Mv 2 8]
 (.ret)))⟩
theorem ok142 : compFunc prog glb 142 p142 = some c142 := by kernel_rfl
def p143 : List Plan := []
def c143 : CFunc := ⟨27, [.tmp 4],
 Rg [Op 4 (.move (.c (.nilSlice)))]
 (.seq (Rg [Mv 5 1, Op 6 (.bin (.lss) (.t 5) (Ci 0))]
 (.cond (.t 6) (.region [Op 7 (.iface 9 (.c (.str [99, 97, 110, 110, 111, 116, 32, 98, 101, 32, 110, 101, 103, 97, 116, 105, 118, 101]))), On (.dead)])
 (.skip)))
 (.seq (Rg [Mv 8 1, Mv 9 0, Op 10 (.dead), Mv 11 0, Op 12 (.len (.slice) (.t 11)), Op 13 (.bin (.sub) (.t 10) (.t 12)), Op 14 (.bin (.sub) (.t 8) (.t 13)), Mv 1 14]
 (Rg [Mv 15 1, Op 16 (.bin (.gtr) (.t 15) (Ci 0))]
 (.cond (.t 16) (.region [Mv 17 0, Mv 18 0, Op 19 (.dead), Op 20 (.slice 1 (.t 17) none (some (.t 19)) none), Mv 21 1, Op 22 (.appendN 1 8 [.int (.i64) 0] (.t 20) (.t 21)), Mv 23 0, Op 24 (.len (.slice) (.t 23)), Op 25 (.slice 1 (.t 22) none (some (.t 24)) none), Mv 0 25])
 (.skip))))
 (Rg [Mv 26 0, Mv 4 26]
 (.ret))))⟩
theorem ok143 : compFunc prog glb 143 p143 = some c143 := by kernel_rfl
def p144 : List Plan := [⟨[(1, .quiet [0]), (2, .quiet [0]), (3, .quiet [0]), (4, .quiet [0]), (5, .quiet [0]), (6, .quiet [0]), (12, .quiet [0]), (7, .quiet [0]), (8, .quiet [0]), (9, .quiet [0]), (10, .quiet [0]), (11, .quiet [0]), (0, .quiet [0]), (13, .quiet [0]), (14, .quiet [0]), (15, .eff)], 0, [0, 0, 2, 6, 14, 30, 62, 0, 128, 384, 896, 1920, 126, 8191, 16383, 32767]⟩]
def c144 : CFunc := ⟨26, [.tmp 2, .tmp 3],
 Rg [Op 2 (.move (Ci 0)), Op 3 (.move (.c (.bool false)))]
 (.seq (Rg [Mv 4 0, Op 5 (.nilCheck (.t 4)), Op 6 (.fieldAddr 0 (.t 5)), Op 7 (.load false 1 (.t 6)), Op 8 (.len (.slice) (.t 7)), Op 9 (.bin (.eql) (.t 8) (Ci 0))]
 (.cond (.t 9) (Rg [Mv 10 2, Mv 2 10, Op 3 (.move (.c (.bool false)))]
 (.ret))
 (.skip)))
 (.seq (.draw [⟨1, Mv 12 0, (.quiet [0])⟩,
 ⟨2, Op 13 (.nilCheck (.t 12)), (.quiet [0])⟩,
 ⟨3, Op 14 (.fieldAddr 0 (.t 13)), (.quiet [0])⟩,
 ⟨4, Op 15 (.load false 1 (.t 14)), (.quiet [0])⟩,
 ⟨5, Op 16 (.indexAddr 1 (.t 15) (Ci 0)), (.quiet [0])⟩,
 ⟨6, Op 17 (.load false 1 (.t 16)), (.quiet [0])⟩,
 ⟨12, Mv 2 17, (.quiet [0])⟩,
 ⟨7, Mv 18 0, (.quiet [0])⟩,
 ⟨8, Op 19 (.nilCheck (.t 18)), (.quiet [0])⟩,
 ⟨9, Op 20 (.fieldAddr 0 (.t 19)), (.quiet [0])⟩,
 ⟨10, Op 21 (.load false 1 (.t 20)), (.quiet [0])⟩,
 ⟨11, Op 22 (.slice 1 (.t 21) (some (Ci 1)) none none), (.quiet [0])⟩,
 ⟨0, Mv 11 0, (.quiet [0])⟩,
 ⟨13, Op 23 (.nilCheck (.t 11)), (.quiet [0])⟩,
 ⟨14, Op 24 (.fieldAddr 0 (.t 23)), (.quiet [0])⟩,
 ⟨15, On (.store 1 (.t 24) (.t 22)), (.eff)⟩] 0)
 (Rg [Mv 25 2, Mv 2 25, Op 3 (.move (.c (.bool true)))]
 (.ret))))⟩
theorem ok144 : compFunc prog glb 144 p144 = some c144 := by kernel_rfl
def p145 : List Plan := []
def c145 : CFunc := ⟨7, [],
 Rg [Op 1 (.box (.t 0))]
 (.region [Op 2 (.load false 1 (.t 1)), Op 3 (.nilCheck (.t 2)), Op 4 (.fieldAddr 2 (.t 3)), Op 5 (.func 214 [] [.t 1]), Op 6 (Ca 213 [.t 4, .t 5])])⟩
theorem ok145 : compFunc prog glb 145 p145 = some c145 := by kernel_rfl
def p146 : List Plan := []
def c146 : CFunc := ⟨8, [.tmp 3],
 Rg [Op 2 (.box (.t 0)), Op 3 (.move (.c (.bool false)))]
 (Rg [Op 4 (.fieldAddr 0 (.t 2)), Op 5 (.load false 1 (.t 4)), Op 6 (.load false 1 (.t 1)), Op 7 (.bin (.eql) (.t 5) (.t 6)), Mv 3 7]
 (.ret))⟩
theorem ok146 : compFunc prog glb 146 p146 = some c146 := by kernel_rfl
def p147 : List Plan := [⟨[(2, .quiet [0]), (3, .quiet [0]), (4, .quiet [0]), (5, .quiet [0]), (0, .quiet [0]), (1, .quiet [0]), (6, .eff), (7, .quiet [7])], 0, [0, 1, 0, 4, 12, 28, 63, 127]⟩]
def c147 : CFunc := ⟨41, [.tmp 6],
 Rg [Op 4 (.box (.t 1)), Op 6 (.move (.c (.bool false)))]
 (.seq (.seq (.draw [⟨2, Mv 9 0, (.quiet [0])⟩,
 ⟨3, Op 10 (.nilCheck (.t 9)), (.quiet [0])⟩,
 ⟨4, Op 11 (.fieldAddr 5 (.t 10)), (.quiet [0])⟩,
 ⟨5, Op 12 (.load false 1 (.t 11)), (.quiet [0])⟩,
 ⟨0, Op 7 (.fieldAddr 1 (.t 4)), (.quiet [0])⟩,
 ⟨1, Op 8 (.load false 1 (.t 7)), (.quiet [0])⟩,
 ⟨6, Op 13 (Ca 215 [.t 8, .t 12]), (.eff)⟩,
 ⟨7, Op 14 (.un (.not) (.t 13)), (.quiet [7])⟩] 0)
 (.cond (.t 14) (Rg [Op 6 (.move (.c (.bool false)))]
 (.ret))
 (.skip)))
 (.seq (Rg [Mv 15 0, Op 16 (.nilCheck (.t 15)), Op 17 (.fieldAddr 1 (.t 16)), Op 18 (.load false 1 (.t 17)), Op 19 (.un (.not) (.t 18))]
 (.cond (.t 19) (Rg [Op 6 (.move (.c (.bool true)))]
 (.ret))
 (.skip)))
 (.seq (Rg [Mv 20 2, Mv 21 20, Mt 22 0 21, Ot 23 (.fieldAddr 0 (.t 4)) 21, Ot 24 (.load false 1 (.t 23)) 21, Ot 25 (Ca 73 [.t 22, .t 24]) 21, Ot 26 (Ca 193 [.t 25]) 21, Op 27 (.pick (.t 21) (.t 26) (.c (.bool false)))]
 (.cond (.t 27) (Rg [Op 6 (.move (.c (.bool false)))]
 (.ret))
 (.skip)))
 (Rg [Mv 28 0, Op 29 (.fieldAddr 0 (.t 4)), Op 30 (.load false 1 (.t 29)), Op 31 (.fieldAddr 1 (.t 4)), Op 32 (.load false 1 (.t 31)), Op 33 (Ca 72 [.t 28, .t 30, .t 32, Ci 1])]
 (Rg [Mv 34 0, Op 35 (.fieldAddr 0 (.t 4)), Op 36 (.load false 1 (.t 35)), Op 37 (.fieldAddr 1 (.t 4)), Op 38 (.load false 1 (.t 37)), On (.defer (.c (.func 72 [] [])) [.t 34, .t 36, .t 38, .c (.int (.i64) (-1))])]
 (Rg [Mv 39 0, Op 40 (Ca 216 [.t 39]), Mv 6 40]
 (.ret)))))))⟩
theorem ok147 : compFunc prog glb 147 p147 = some c147 := by kernel_rfl
def p148 : List Plan := []
def c148 : CFunc := ⟨18, [.tmp 2],
 Rg [Op 2 (.move (.c (.bool false)))]
 (.seq (Rg [Mv 5 0, Op 6 (.len (.slice) (.t 5)), Op 7 (.move (Ci 0))]
 (.block 0 (.loop (Rg [Op 8 (.bin (.lss) (.t 7) (.t 6))]
 (.seq (.cond (.t 8) (.skip)
 (.exit 0))
 (.seq (.block 1 (Rg [Op 9 (.indexAddr 1 (.t 5) (.t 7)), Op 10 (.load false 1 (.t 9)), Mv 4 10]
 (Rg [Mv 11 4, Op 12 (.bin (.lss) (.t 11) (Ci 0)), Mv 13 12, Mf 14 4 13, Of 15 (.bin (.gtr) (.t 14) (Ci 1000)) 13, Op 16 (.pick (.t 13) (.c (.bool true)) (.t 15))]
 (.cond (.t 16) (Rg [Op 2 (.move (.c (.bool false)))]
 (.ret))
 (.skip)))))
 (.region [Op 17 (.bin (.add) (.t 7) (Ci 1)), Mv 7 17])))))))
 (Rg [Op 2 (.move (.c (.bool true)))]
 (.ret)))⟩
theorem ok148 : compFunc prog glb 148 p148 = some c148 := by kernel_rfl
def p149 : List Plan := []
def c149 : CFunc := ⟨16, [.tmp 2],
 Rg [Op 2 (.move (Ci 0))]
 (.seq (Rg [Mv 5 0, Op 6 (.len (.slice) (.t 5)), Op 7 (.move (Ci 0))]
 (.block 0 (.loop (Rg [Op 8 (.bin (.lss) (.t 7) (.t 6))]
 (.seq (.cond (.t 8) (.skip)
 (.exit 0))
 (.seq (.block 1 (Rg [Op 9 (.indexAddr 1 (.t 5) (.t 7)), Op 10 (.load false 1 (.t 9)), Mv 4 10]
 (.region [Mv 11 2, Mv 12 4, Op 13 (.bin (.add) (.t 11) (.t 12)), Mv 2 13])))
 (.region [Op 14 (.bin (.add) (.t 7) (Ci 1)), Mv 7 14])))))))
 (Rg [Mv 15 2, Mv 2 15]
 (.ret)))⟩
theorem ok149 : compFunc prog glb 149 p149 = some c149 := by kernel_rfl
def p150 : List Plan := []
def c150 : CFunc := ⟨16, [.tmp 3],
 Rg [Op 2 (.box (.t 0)), Op 3 (.move (.c (.bool false)))]
 (Rg [Op 4 (.load false 1 (.t 1)), Op 5 (.bin (.gtr) (.t 4) (Ci 0)), Mv 6 5, Ot 7 (.load true 5 (.t 2)) 6, Ot 8 (Ca 86 [.t 7]) 6, Op 9 (.pick (.t 6) (.t 8) (.c (.bool false))), Mv 10 9, Ot 11 (.fieldAddr 1 (.t 2)) 10, Ot 12 (.load false 1 (.t 11)) 10, Ot 13 (.load false 1 (.t 1)) 10, Ot 14 (.bin (.eql) (.t 12) (.t 13)) 10, Op 15 (.pick (.t 10) (.t 14) (.c (.bool false))), Mv 3 15]
 (.ret))⟩
theorem ok150 : compFunc prog glb 150 p150 = some c150 := by kernel_rfl
def p151 : List Plan := []
def c151 : CFunc := ⟨7, [.tmp 2],
 Rg [Op 2 (.move (Ci 0))]
 (Rg [Mv 3 0, Op 4 (.nilCheck (.t 3)), Op 5 (.fieldAddr 0 (.t 4)), Op 6 (.ext (Ext.atomicLoad (.i64)) [.t 5]), Mv 2 6]
 (.ret))⟩
theorem ok151 : compFunc prog glb 151 p151 = some c151 := by kernel_rfl
def p152 : List Plan := []
def c152 : CFunc := ⟨193, [.tmp 2, .cell 3 true 2],
 Rg [Op 2 (.move (.c (.nilSlice))), Op 3 (.new [.int (.i64) 0, .int (.i64) 0])]
 (.seq (Rg [Mv 12 0, Op 13 (.len (.slice) (.t 12)), Op 14 (.bin (.gtr) (.t 13) (Ci 4096))]
 (.cond (.t 14) (Rg [Op 15 (.build [.int (.i64) 0, .int (.i64) 0] [(0, 1, Ci 16), (1, 1, Ci 4096)]), Op 2 (.move (.c (.nilSlice))), On (.store 2 (.t 3) (.t 15))]
 (.ret))
 (.skip)))
 (Rg [Op 16 (.buildSlice [.int (.i64) 0, .int (.i64) 0, .int (.i64) 0, .str []] 0 []), Mv 4 16]
 (Rg [Op 5 (.move (Ci 0))]
 (.seq (.block 0 (.loop (.seq (Rg [Mv 17 5, Mv 18 0, Op 19 (.len (.slice) (.t 18)), Op 20 (.bin (.lss) (.t 17) (.t 19))]
 (.cond (.t 20) (.skip)
 (.exit 0)))
 (.block 1 (Rg [Mv 21 0, Mv 22 5, Op 23 (.indexAddr 1 (.t 21) (.t 22)), Op 24 (.load false 1 (.t 23)), Mv 6 24]
 (Rg [Mv 25 5, Op 26 (.bin (.add) (.t 25) (Ci 1)), Mv 7 26]
 (.seq (.block 2 (Rg [Mv 49 6, Op 50 (.bin (.eql) (.t 49) (.c (.int (.u8) 32))), Mv 51 50, Mf 52 6 51, Of 53 (.bin (.eql) (.t 52) (.c (.int (.u8) 9))) 51, Op 54 (.pick (.t 51) (.c (.bool true)) (.t 53)), Mv 55 54, Mf 56 6 55, Of 57 (.bin (.eql) (.t 56) (.c (.int (.u8) 10))) 55, Op 58 (.pick (.t 55) (.c (.bool true)) (.t 57)), Mv 59 58, Mf 60 6 59, Of 61 (.bin (.eql) (.t 60) (.c (.int (.u8) 13))) 59, Op 62 (.pick (.t 59) (.c (.bool true)) (.t 61)), Mv 48 62]
 (.cond (.t 48) (.skip)
 (Rg [Mv 64 6, Op 65 (.bin (.eql) (.t 64) (.c (.int (.u8) 123))), Mv 63 65]
 (.cond (.t 63) (.seq (.block 3 (.loop (.seq (Rg [Mv 66 7, Mv 67 0, Op 68 (.len (.slice) (.t 67)), Op 69 (.bin (.lss) (.t 66) (.t 68)), Mv 70 69, Mt 71 0 70, Mt 72 7 70, Ot 73 (.indexAddr 1 (.t 71) (.t 72)) 70, Ot 74 (.load false 1 (.t 73)) 70, Ot 75 (.bin (.neq) (.t 74) (.c (.int (.u8) 125))) 70, Op 76 (.pick (.t 70) (.t 75) (.c (.bool false)))]
 (.cond (.t 76) (.skip)
 (.exit 3)))
 (.block 4 (.region [Mv 77 7, Op 78 (.bin (.add) (.t 77) (Ci 1)), Mv 7 78])))))
 (.seq (Rg [Mv 79 7, Mv 80 0, Op 81 (.len (.slice) (.t 80)), Op 82 (.bin (.eql) (.t 79) (.t 81))]
 (.cond (.t 82) (Rg [Mv 83 5, Op 84 (.build [.int (.i64) 0, .int (.i64) 0] [(0, 1, Ci 11), (1, 1, .t 83)]), Op 2 (.move (.c (.nilSlice))), On (.store 2 (.t 3) (.t 84))]
 (.ret))
 (.skip)))
 (.region [Mv 85 7, Op 86 (.bin (.add) (.t 85) (Ci 1)), Mv 7 86])))
 (Rg [Mv 88 6, Op 89 (.bin (.eql) (.t 88) (.c (.int (.u8) 80))), Mv 90 89, Mf 91 6 90, Of 92 (.bin (.eql) (.t 91) (.c (.int (.u8) 86))) 90, Op 93 (.pick (.t 90) (.c (.bool true)) (.t 92)), Mv 87 93]
 (.cond (.t 87) (.region [Mv 94 4, Mv 95 5, Mv 96 0, Mv 97 5, Mv 98 7, Op 99 (.slice 1 (.t 96) (some (.t 97)) (some (.t 98)) none), Op 100 (.strOf (.t 99)), Op 101 (.build [.int (.i64) 0, .int (.i64) 0, .int (.i64) 0, .str []] [(0, 1, Ci 3), (1, 1, .t 95), (3, 1, .t 100)]), Op 102 (.buildSlice [.int (.i64) 0, .int (.i64) 0, .int (.i64) 0, .str []] 1 [(0, 4, .t 101)]), Op 103 (.append 4 40 (.t 94) (.t 102)), Mv 4 103])
 (Rg [Mv 105 6, Op 106 (Ca 218 [.t 105]), Mv 104 106]
 (.cond (.t 104) (.seq (.block 5 (.loop (.seq (Rg [Mv 107 7, Mv 108 0, Op 109 (.len (.slice) (.t 108)), Op 110 (.bin (.lss) (.t 107) (.t 109)), Mv 111 110, Mt 112 0 111, Mt 113 7 111, Ot 114 (.indexAddr 1 (.t 112) (.t 113)) 111, Ot 115 (.load false 1 (.t 114)) 111, Ot 116 (Ca 218 [.t 115]) 111, Mt 117 116 111, Mf 118 0 117, Mf 119 7 117, Of 120 (.indexAddr 1 (.t 118) (.t 119)) 117, Of 121 (.load false 1 (.t 120)) 117, Of 122 (Ca 219 [.t 121]) 117, Ot 123 (.pick (.t 117) (.c (.bool true)) (.t 122)) 111, Op 124 (.pick (.t 111) (.t 123) (.c (.bool false)))]
 (.cond (.t 124) (.skip)
 (.exit 5)))
 (.block 6 (.region [Mv 125 7, Op 126 (.bin (.add) (.t 125) (Ci 1)), Mv 7 126])))))
 (Rg [Mv 127 0, Mv 128 5, Mv 129 7, Op 130 (.slice 1 (.t 127) (some (.t 128)) (some (.t 129)) none), Op 131 (.strOf (.t 130)), Mv 8 131]
 (Rg [Mv 132 8, Op 133 (Ca 220 [.t 132])]
 (.cond (.t 133) (.region [Mv 134 4, Mv 135 5, Mv 136 8, Op 137 (.build [.int (.i64) 0, .int (.i64) 0, .int (.i64) 0, .str []] [(0, 1, Ci 3), (1, 1, .t 135), (3, 1, .t 136)]), Op 138 (.buildSlice [.int (.i64) 0, .int (.i64) 0, .int (.i64) 0, .str []] 1 [(0, 4, .t 137)]), Op 139 (.append 4 40 (.t 134) (.t 138)), Mv 4 139])
 (Rg [Mv 140 8, Op 141 (.len (.str) (.t 140)), Op 142 (.bin (.gtr) (.t 141) (Ci 12))]
 (.cond (.t 142) (Rg [Mv 143 5, Op 144 (.build [.int (.i64) 0, .int (.i64) 0] [(0, 1, Ci 12), (1, 1, .t 143)]), Op 2 (.move (.c (.nilSlice))), On (.store 2 (.t 3) (.t 144))]
 (.ret))
 (.region [Mv 145 4, Mv 146 5, Mv 147 8, Op 148 (.build [.int (.i64) 0, .int (.i64) 0, .int (.i64) 0, .str []] [(0, 1, Ci 1), (1, 1, .t 146), (3, 1, .t 147)]), Op 149 (.buildSlice [.int (.i64) 0, .int (.i64) 0, .int (.i64) 0, .str []] 1 [(0, 4, .t 148)]), Op 150 (.append 4 40 (.t 145) (.t 149)), Mv 4 150])))))))
 (Rg [Mv 152 6, Op 153 (Ca 219 [.t 152]), Mv 151 153]
 (.cond (.t 151) (.seq (.block 7 (.loop (.seq (Rg [Mv 154 7, Mv 155 0, Op 156 (.len (.slice) (.t 155)), Op 157 (.bin (.lss) (.t 154) (.t 156)), Mv 158 157, Mt 159 0 158, Mt 160 7 158, Ot 161 (.indexAddr 1 (.t 159) (.t 160)) 158, Ot 162 (.load false 1 (.t 161)) 158, Ot 163 (Ca 219 [.t 162]) 158, Op 164 (.pick (.t 158) (.t 163) (.c (.bool false)))]
 (.cond (.t 164) (.skip)
 (.exit 7)))
 (.block 8 (.region [Mv 165 7, Op 166 (.bin (.add) (.t 165) (Ci 1)), Mv 7 166])))))
 (Rg [Mv 168 0, Mv 169 5, Mv 170 7, Op 171 (.slice 1 (.t 168) (some (.t 169)) (some (.t 170)) none), Op 172 (Ca 221 [.t 171]), Mv 167 172, Op 173 (.extract (.t 167) 0), Op 174 (.extract (.t 167) 1), Mv 9 173, Mv 10 174]
 (.seq (Rg [Mv 175 10, Op 176 (.un (.not) (.t 175))]
 (.cond (.t 176) (Rg [Mv 177 5, Op 178 (.build [.int (.i64) 0, .int (.i64) 0] [(0, 1, Ci 13), (1, 1, .t 177)]), Op 2 (.move (.c (.nilSlice))), On (.store 2 (.t 3) (.t 178))]
 (.ret))
 (.skip)))
 (.region [Mv 179 4, Mv 180 5, Mv 181 9, Op 182 (.build [.int (.i64) 0, .int (.i64) 0, .int (.i64) 0, .str []] [(0, 1, Ci 2), (1, 1, .t 180), (2, 1, .t 181)]), Op 183 (.buildSlice [.int (.i64) 0, .int (.i64) 0, .int (.i64) 0, .str []] 1 [(0, 4, .t 182)]), Op 184 (.append 4 40 (.t 179) (.t 183)), Mv 4 184]))))
 (Rg [Mv 27 0, Mv 28 5, Op 29 (.slice 1 (.t 27) (some (.t 28)) none none), Op 30 (Ca 222 [.t 29]), Mv 11 30]
 (.seq (Rg [Mv 31 11, Op 32 (.bin (.eql) (.t 31) (Ci 0))]
 (.cond (.t 32) (Rg [Mv 33 5, Op 34 (.build [.int (.i64) 0, .int (.i64) 0] [(0, 1, Ci 11), (1, 1, .t 33)]), Op 2 (.move (.c (.nilSlice))), On (.store 2 (.t 3) (.t 34))]
 (.ret))
 (.skip)))
 (Rg [Mv 35 5, Mv 36 11, Op 37 (.bin (.add) (.t 35) (.t 36)), Mv 7 37]
 (.region [Mv 38 4, Mv 39 5, Mv 40 0, Mv 41 5, Mv 42 7, Op 43 (.slice 1 (.t 40) (some (.t 41)) (some (.t 42)) none), Op 44 (.strOf (.t 43)), Op 45 (.build [.int (.i64) 0, .int (.i64) 0, .int (.i64) 0, .str []] [(0, 1, Ci 4), (1, 1, .t 39), (3, 1, .t 44)]), Op 46 (.buildSlice [.int (.i64) 0, .int (.i64) 0, .int (.i64) 0, .str []] 1 [(0, 4, .t 45)]), Op 47 (.append 4 40 (.t 38) (.t 46)), Mv 4 47])))))))))))))))
 (.region [Mv 185 7, Mv 5 185]))))))))
 (Rg [Mv 186 4, Mv 187 0, Op 188 (.len (.slice) (.t 187)), Op 189 (.build [.int (.i64) 0, .int (.i64) 0, .int (.i64) 0, .str []] [(0, 1, Ci 5), (1, 1, .t 188)]), Op 190 (.buildSlice [.int (.i64) 0, .int (.i64) 0, .int (.i64) 0, .str []] 1 [(0, 4, .t 189)]), Op 191 (.append 4 40 (.t 186) (.t 190)), Op 192 (.build [.int (.i64) 0, .int (.i64) 0] []), Mv 2 191, On (.store 2 (.t 3) (.t 192))]
 (.ret))))))⟩
theorem ok152 : compFunc prog glb 152 p152 = some c152 := by kernel_rfl
def p153 : List Plan := []
def c153 : CFunc := ⟨10, [],
 Rg [Mv 4 0, Mv 5 1, Op 6 (Ca 156 [.t 4, .t 5]), Op 7 (.un (.not) (.t 6))]
 (.cond (.t 7) (.region [Mv 8 0, Op 9 (Ca 161 [.t 8, Ci 14])])
 (.skip))⟩
theorem ok153 : compFunc prog glb 153 p153 = some c153 := by kernel_rfl
def p154 : List Plan := []
def c154 : CFunc := ⟨28, [.cell 2 true 2],
 Rg [Op 2 (.new [.int (.i64) 0, .str []])]
 (Rg [Mv 4 0, Op 5 (Ca 160 [.t 4]), Op 3 (.new [.int (.i64) 0, .int (.i64) 0, .int (.i64) 0, .str []]), On (.store 4 (.t 3) (.t 5))]
 (.seq (Rg [Mv 6 0, Op 7 (Ca 162 [.t 6]), Mv 8 7, Of 9 (.fieldAddr 0 (.t 3)) 8, Of 10 (.load false 1 (.t 9)) 8, Of 11 (.bin (.neq) (.t 10) (Ci 1)) 8, Op 12 (.pick (.t 8) (.c (.bool true)) (.t 11))]
 (.cond (.t 12) (Rg [Mv 13 0, Op 14 (Ca 161 [.t 13, Ci 14])]
 (Rg [Op 15 (.build [.int (.i64) 0, .str []] []), On (.store 2 (.t 2) (.t 15))]
 (.ret)))
 (.skip)))
 (Rg [Mv 16 0, Op 17 (.nilCheck (.t 16)), Op 18 (.fieldAddr 1 (.t 17)), Op 19 (.load false 1 (.t 18)), Op 20 (.bin (.add) (.t 19) (Ci 1)), Op 21 (.nilCheck (.t 16)), Op 22 (.fieldAddr 1 (.t 21)), On (.store 1 (.t 22) (.t 20))]
 (Rg [Op 23 (.fieldAddr 1 (.t 3)), Op 24 (.load false 1 (.t 23)), Op 25 (.fieldAddr 3 (.t 3)), Op 26 (.load false 1 (.t 25)), Op 27 (.build [.int (.i64) 0, .str []] [(0, 1, .t 24), (1, 1, .t 26)]), On (.store 2 (.t 2) (.t 27))]
 (.ret)))))⟩
theorem ok154 : compFunc prog glb 154 p154 = some c154 := by kernel_rfl
def p155 : List Plan := [⟨[(0, .quiet [0]), (1, .quiet [0]), (4, .quiet [0]), (5, .eff), (2, .quiet [0, 4]), (3, .quiet [0, 4]), (6, .quiet [4]), (7, .eff)], 0, [0, 1, 0, 4, 3, 19, 63, 127]⟩]
def c155 : CFunc := ⟨60, [.tmp 2],
 Rg [Op 2 (.move (.c (.nilSlice)))]
 (Rg [Op 6 (.buildSlice [.int (.i64) 0, .int (.i64) 0, .str [], .int (.i64) 0] 0 []), Mv 3 6]
 (.seq (.block 0 (.loop (.seq (Rg [Mv 7 0, Op 8 (Ca 162 [.t 7]), Op 9 (.un (.not) (.t 8))]
 (.cond (.t 9) (.skip)
 (.exit 0)))
 (.block 1 (Rg [Op 10 (.build [.int (.i64) 0, .int (.i64) 0, .str [], .int (.i64) 0] []), Op 4 (.new [.int (.i64) 0, .int (.i64) 0, .str [], .int (.i64) 0]), On (.store 4 (.t 4) (.t 10))]
 (.seq (.block 2 (Rg [Mv 13 0, Op 14 (Ca 156 [.t 13, .c (.str [114, 101, 115, 111, 117, 114, 99, 101])]), Mv 12 14]
 (.cond (.t 12) (.region [Op 15 (.fieldAddr 0 (.t 4)), On (.store 1 (.t 15) (Ci 1))])
 (Rg [Mv 17 0, Op 18 (Ca 156 [.t 17, .c (.str [115, 101, 109, 97, 112, 104, 111, 114, 101])]), Mv 16 18]
 (.cond (.t 16) (.region [Op 19 (.fieldAddr 0 (.t 4)), On (.store 1 (.t 19) (Ci 2))])
 (Rg [Mv 21 0, Op 22 (Ca 156 [.t 21, .c (.str [115, 104, 97, 114, 101, 100])]), Mv 20 22]
 (.cond (.t 20) (.region [Op 23 (.fieldAddr 0 (.t 4)), On (.store 1 (.t 23) (Ci 3))])
 (Rg [Mv 25 0, Op 26 (Ca 156 [.t 25, .c (.str [118, 97, 114])]), Mv 24 26]
 (.cond (.t 24) (.region [Op 27 (.fieldAddr 0 (.t 4)), On (.store 1 (.t 27) (Ci 4))])
 (Rg [Mv 11 3, Mv 2 11]
 (.ret)))))))))))
 (Rg [Mv 28 0, Op 29 (Ca 154 [.t 28]), Op 5 (.new [.int (.i64) 0, .str []]), On (.store 2 (.t 5) (.t 29))]
 (.seq (.draw [⟨0, Op 30 (.fieldAddr 0 (.t 5)), (.quiet [0])⟩,
 ⟨1, Op 31 (.load false 1 (.t 30)), (.quiet [0])⟩,
 ⟨4, Op 34 (.fieldAddr 1 (.t 4)), (.quiet [0])⟩,
 ⟨5, On (.store 1 (.t 34) (.t 31)), (.eff)⟩,
 ⟨2, Op 32 (.fieldAddr 1 (.t 5)), (.quiet [0, 4])⟩,
 ⟨3, Op 33 (.load false 1 (.t 32)), (.quiet [0, 4])⟩,
 ⟨6, Op 35 (.fieldAddr 2 (.t 4)), (.quiet [4])⟩,
 ⟨7, On (.store 1 (.t 35) (.t 33)), (.eff)⟩] 0)
 (.seq (Rg [Op 36 (.fieldAddr 0 (.t 4)), Op 37 (.load false 1 (.t 36)), Op 38 (.bin (.eql) (.t 37) (Ci 1)), Mv 39 38, Of 40 (.fieldAddr 0 (.t 4)) 39, Of 41 (.load false 1 (.t 40)) 39, Of 42 (.bin (.eql) (.t 41) (Ci 2)) 39, Op 43 (.pick (.t 39) (.c (.bool true)) (.t 42))]
 (.cond (.t 43) (.region [Mv 45 0, Op 46 (Ca 223 [.t 45]), Mv 44 46, Op 47 (.extract (.t 44) 0), Op 48 (.extract (.t 44) 1), Op 49 (.fieldAddr 3 (.t 4)), On (.store 1 (.t 49) (.t 47))])
 (.region [Mv 50 0, Op 51 (Ca 224 [.t 50]), Op 52 (.fieldAddr 3 (.t 4)), On (.store 1 (.t 52) (.t 51))])))
 (Rg [Mv 53 0, Op 54 (Ca 153 [.t 53, .c (.str [59])])]
 (.region [Mv 55 3, Op 56 (.load true 4 (.t 4)), Op 57 (.buildSlice [.int (.i64) 0, .int (.i64) 0, .str [], .int (.i64) 0] 1 [(0, 4, .t 56)]), Op 58 (.append 4 40 (.t 55) (.t 57)), Mv 3 58])))))))))))
 (Rg [Mv 59 3, Mv 2 59]
 (.ret))))⟩
theorem ok155 : compFunc prog glb 155 p155 = some c155 := by kernel_rfl
def p156 : List Plan := []
def c156 : CFunc := ⟨16, [.tmp 4],
 Rg [Op 4 (.move (.c (.bool false)))]
 (.seq (Rg [Mv 5 0, Mv 6 1, Op 7 (Ca 225 [.t 5, .t 6]), Op 8 (.un (.not) (.t 7))]
 (.cond (.t 8) (Rg [Op 4 (.move (.c (.bool false)))]
 (.ret))
 (.skip)))
 (Rg [Mv 9 0, Op 10 (.nilCheck (.t 9)), Op 11 (.fieldAddr 1 (.t 10)), Op 12 (.load false 1 (.t 11)), Op 13 (.bin (.add) (.t 12) (Ci 1)), Op 14 (.nilCheck (.t 9)), Op 15 (.fieldAddr 1 (.t 14)), On (.store 1 (.t 15) (.t 13))]
 (Rg [Op 4 (.move (.c (.bool true)))]
 (.ret))))⟩
theorem ok156 : compFunc prog glb 156 p156 = some c156 := by kernel_rfl
def p157 : List Plan := [⟨[(2, .quiet [0]), (3, .eff), (4, .eff), (0, .quiet [0, 2, 3]), (1, .quiet [0, 2, 3]), (5, .eff), (6, .quiet [6]), (7, .eff)], 0, [0, 1, 0, 4, 12, 31, 63, 127]⟩, ⟨[(2, .quiet [0]), (3, .eff), (4, .eff), (0, .quiet [0, 2, 3]), (1, .quiet [0, 2, 3]), (5, .eff), (6, .quiet [6]), (7, .eff)], 0, [0, 1, 0, 4, 12, 31, 63, 127]⟩]
def c157 : CFunc := ⟨58, [.cell 2 true 5],
 Rg [Op 2 (.new [.int (.i64) 0, .str [], .nilSlice, .nilSlice, .nilSlice])]
 (Rg [Mv 6 0, Op 7 (Ca 154 [.t 6]), Op 3 (.new [.int (.i64) 0, .str []]), On (.store 2 (.t 3) (.t 7))]
 (Rg [Op 8 (.fieldAddr 0 (.t 3)), Op 9 (.load false 1 (.t 8)), Op 10 (.fieldAddr 1 (.t 3)), Op 11 (.load false 1 (.t 10)), Op 12 (.build [.int (.i64) 0, .str [], .nilSlice, .nilSlice, .nilSlice] [(0, 1, .t 9), (1, 1, .t 11)]), Op 4 (.new [.int (.i64) 0, .str [], .nilSlice, .nilSlice, .nilSlice]), On (.store 5 (.t 4) (.t 12))]
 (Rg [Mv 13 0, Op 14 (Ca 153 [.t 13, .c (.str [40])])]
 (.seq (Rg [Mv 15 0, Op 16 (Ca 225 [.t 15, .c (.str [41])]), Op 17 (.un (.not) (.t 16))]
 (.cond (.t 17) (Rg [Op 5 (.move (.c (.bool true)))]
 (.block 0 (.loop (.seq (Rg [Mv 18 5, Mv 19 18, Mt 20 0 19, Ot 21 (Ca 162 [.t 20]) 19, Ot 22 (.un (.not) (.t 21)) 19, Op 23 (.pick (.t 19) (.t 22) (.c (.bool false)))]
 (.cond (.t 23) (.skip)
 (.exit 0)))
 (.seq (.block 1 (.draw [⟨2, Mv 28 0, (.quiet [0])⟩,
 ⟨3, Op 29 (Ca 154 [.t 28]), (.eff)⟩,
 ⟨4, Op 30 (.buildSlice [.int (.i64) 0, .str []] 1 [(0, 2, .t 29)]), (.eff)⟩,
 ⟨0, Op 26 (.fieldAddr 2 (.t 4)), (.quiet [0, 2, 3])⟩,
 ⟨1, Op 27 (.load false 1 (.t 26)), (.quiet [0, 2, 3])⟩,
 ⟨5, Op 31 (.append 2 24 (.t 27) (.t 30)), (.eff)⟩,
 ⟨6, Op 32 (.fieldAddr 2 (.t 4)), (.quiet [6])⟩,
 ⟨7, On (.store 1 (.t 32) (.t 31)), (.eff)⟩] 0))
 (.region [Mv 24 0, Op 25 (Ca 156 [.t 24, .c (.str [44])]), Mv 5 25]))))))
 (.skip)))
 (Rg [Mv 33 0, Op 34 (Ca 153 [.t 33, .c (.str [41])])]
 (Rg [Mv 35 0, Op 36 (Ca 153 [.t 35, .c (.str [59])])]
 (.seq (.block 2 (.loop (.seq (Rg [Mv 37 0, Op 38 (Ca 156 [.t 37, .c (.str [118, 97, 114])])]
 (.cond (.t 38) (.skip)
 (.exit 2)))
 (.block 3 (.seq (.draw [⟨2, Mv 41 0, (.quiet [0])⟩,
 ⟨3, Op 42 (Ca 154 [.t 41]), (.eff)⟩,
 ⟨4, Op 43 (.buildSlice [.int (.i64) 0, .str []] 1 [(0, 2, .t 42)]), (.eff)⟩,
 ⟨0, Op 39 (.fieldAddr 3 (.t 4)), (.quiet [0, 2, 3])⟩,
 ⟨1, Op 40 (.load false 1 (.t 39)), (.quiet [0, 2, 3])⟩,
 ⟨5, Op 44 (.append 2 24 (.t 40) (.t 43)), (.eff)⟩,
 ⟨6, Op 45 (.fieldAddr 3 (.t 4)), (.quiet [6])⟩,
 ⟨7, On (.store 1 (.t 45) (.t 44)), (.eff)⟩] 0)
 (.region [Mv 46 0, Op 47 (Ca 153 [.t 46, .c (.str [59])])]))))))
 (Rg [Mv 48 0, Op 49 (Ca 153 [.t 48, .c (.str [98, 101, 103, 105, 110])])]
 (Rg [Mv 50 0, Op 51 (Ca 159 [.t 50, Ci 1]), Op 52 (.fieldAddr 4 (.t 4)), On (.store 1 (.t 52) (.t 51))]
 (Rg [Mv 53 0, Op 54 (Ca 153 [.t 53, .c (.str [101, 110, 100])])]
 (Rg [Mv 55 0, Op 56 (Ca 153 [.t 55, .c (.str [59])])]
 (Rg [Op 57 (.load true 5 (.t 4)), On (.store 5 (.t 2) (.t 57))]
 (.ret)))))))))))))⟩
theorem ok157 : compFunc prog glb 157 p157 = some c157 := by kernel_rfl
def p158 : List Plan := []
def c158 : CFunc := ⟨34, [.tmp 2],
 Rg [Op 2 (.move (.c (.nilSlice)))]
 (Rg [Op 8 (.buildSlice [.int (.i64) 0, .str [], .int (.i64) 0] 0 []), Mv 3 8]
 (.seq (Rg [Op 4 (.move (.c (.bool true)))]
 (.block 0 (.loop (.seq (Rg [Mv 9 4, Mv 10 9, Mt 11 0 10, Ot 12 (Ca 162 [.t 11]) 10, Ot 13 (.un (.not) (.t 12)) 10, Op 14 (.pick (.t 10) (.t 13) (.c (.bool false)))]
 (.cond (.t 14) (.skip)
 (.exit 0)))
 (.seq (.block 1 (Rg [Mv 17 0, Op 18 (Ca 154 [.t 17]), Op 5 (.new [.int (.i64) 0, .str []]), On (.store 2 (.t 5) (.t 18))]
 (Rg [Mv 20 0, Op 21 (Ca 223 [.t 20]), Mv 19 21, Op 22 (.extract (.t 19) 0), Op 23 (.extract (.t 19) 1), Mv 6 22, Mv 7 23]
 (.region [Mv 24 3, Op 25 (.fieldAddr 0 (.t 5)), Op 26 (.load false 1 (.t 25)), Op 27 (.fieldAddr 1 (.t 5)), Op 28 (.load false 1 (.t 27)), Mv 29 6, Op 30 (.build [.int (.i64) 0, .str [], .int (.i64) 0] [(0, 1, .t 26), (1, 1, .t 28), (2, 1, .t 29)]), Op 31 (.buildSlice [.int (.i64) 0, .str [], .int (.i64) 0] 1 [(0, 3, .t 30)]), Op 32 (.append 3 32 (.t 24) (.t 31)), Mv 3 32]))))
 (.region [Mv 15 0, Op 16 (Ca 156 [.t 15, .c (.str [44])]), Mv 4 16]))))))
 (Rg [Mv 33 3, Mv 2 33]
 (.ret))))⟩
theorem ok158 : compFunc prog glb 158 p158 = some c158 := by kernel_rfl
def p159 : List Plan := []
def c159 : CFunc := ⟨23, [.tmp 4],
 Rg [Op 4 (.move (.c (.nilSlice)))]
 (Rg [Op 7 (.buildSlice [.int (.i64) 0, .int (.i64) 0, .str [], .nilSlice, .nilSlice, .nilSlice, .nilSlice, .nilSlice] 0 []), Mv 5 7]
 (.seq (Rg [Op 6 (.move (.c (.bool true)))]
 (.block 0 (.loop (.seq (Rg [Mv 8 6, Mv 9 8, Mt 10 0 9, Ot 11 (Ca 162 [.t 10]) 9, Ot 12 (.un (.not) (.t 11)) 9, Op 13 (.pick (.t 9) (.t 12) (.c (.bool false)))]
 (.cond (.t 13) (.skip)
 (.exit 0)))
 (.seq (.block 1 (.region [Mv 16 5, Mv 17 0, Mv 18 1, Op 19 (Ca 226 [.t 17, .t 18]), Op 20 (.buildSlice [.int (.i64) 0, .int (.i64) 0, .str [], .nilSlice, .nilSlice, .nilSlice, .nilSlice, .nilSlice] 1 [(0, 8, .t 19)]), Op 21 (.append 8 152 (.t 16) (.t 20)), Mv 5 21]))
 (.region [Mv 14 0, Op 15 (Ca 156 [.t 14, .c (.str [59])]), Mv 6 15]))))))
 (Rg [Mv 22 5, Mv 4 22]
 (.ret))))⟩
theorem ok159 : compFunc prog glb 159 p159 = some c159 := by kernel_rfl
def p160 : List Plan := [⟨[(0, .quiet [0]), (1, .quiet [0]), (2, .quiet [0]), (3, .quiet [0]), (4, .quiet [0]), (5, .quiet [0]), (10, .quiet [0]), (11, .quiet [0]), (12, .quiet [0]), (13, .quiet [0]), (14, .quiet [0]), (6, .quiet [0]), (7, .quiet [0]), (8, .quiet [0]), (9, .quiet [0]), (15, .quiet [0]), (16, .quiet [0])], 0, [0, 1, 3, 7, 15, 31, 63, 127, 255, 511, 63, 1087, 3135, 7231, 15423, 32767, 65535]⟩, ⟨[(4, .quiet [0]), (5, .quiet [0]), (6, .quiet [0]), (7, .quiet [0]), (0, .quiet [0]), (1, .quiet [0]), (2, .quiet [0]), (3, .quiet [0]), (8, .quiet [0]), (9, .quiet [0]), (10, .eff)], 0, [0, 1, 3, 7, 0, 16, 48, 112, 255, 511, 1023]⟩]
def c160 : CFunc := ⟨31, [.cell 2 true 4],
 Rg [Op 2 (.new [.int (.i64) 0, .int (.i64) 0, .int (.i64) 0, .str []])]
 (.seq (.seq (.draw [⟨0, Mv 3 0, (.quiet [0])⟩,
 ⟨1, Op 4 (.nilCheck (.t 3)), (.quiet [0])⟩,
 ⟨2, Op 5 (.fieldAddr 1 (.t 4)), (.quiet [0])⟩,
 ⟨3, Op 6 (.load false 1 (.t 5)), (.quiet [0])⟩,
 ⟨4, Op 7 (.bin (.lss) (.t 6) (Ci 0)), (.quiet [0])⟩,
 ⟨5, Mv 8 7, (.quiet [0])⟩,
 ⟨10, Mf 13 0 8, (.quiet [0])⟩,
 ⟨11, Of 14 (.nilCheck (.t 13)) 8, (.quiet [0])⟩,
 ⟨12, Of 15 (.fieldAddr 0 (.t 14)) 8, (.quiet [0])⟩,
 ⟨13, Of 16 (.load false 1 (.t 15)) 8, (.quiet [0])⟩,
 ⟨14, Of 17 (.len (.slice) (.t 16)) 8, (.quiet [0])⟩,
 ⟨6, Mf 9 0 8, (.quiet [0])⟩,
 ⟨7, Of 10 (.nilCheck (.t 9)) 8, (.quiet [0])⟩,
 ⟨8, Of 11 (.fieldAddr 1 (.t 10)) 8, (.quiet [0])⟩,
 ⟨9, Of 12 (.load false 1 (.t 11)) 8, (.quiet [0])⟩,
 ⟨15, Of 18 (.bin (.geq) (.t 12) (.t 17)) 8, (.quiet [0])⟩,
 ⟨16, Op 19 (.pick (.t 8) (.c (.bool true)) (.t 18)), (.quiet [0])⟩] 0)
 (.cond (.t 19) (Rg [Op 20 (.build [.int (.i64) 0, .int (.i64) 0, .int (.i64) 0, .str []] [(0, 1, Ci 5)]), On (.store 4 (.t 2) (.t 20))]
 (.ret))
 (.skip)))
 (.seq (.draw [⟨4, Mv 25 0, (.quiet [0])⟩,
 ⟨5, Op 26 (.nilCheck (.t 25)), (.quiet [0])⟩,
 ⟨6, Op 27 (.fieldAddr 1 (.t 26)), (.quiet [0])⟩,
 ⟨7, Op 28 (.load false 1 (.t 27)), (.quiet [0])⟩,
 ⟨0, Mv 21 0, (.quiet [0])⟩,
 ⟨1, Op 22 (.nilCheck (.t 21)), (.quiet [0])⟩,
 ⟨2, Op 23 (.fieldAddr 0 (.t 22)), (.quiet [0])⟩,
 ⟨3, Op 24 (.load false 1 (.t 23)), (.quiet [0])⟩,
 ⟨8, Op 29 (.indexAddr 4 (.t 24) (.t 28)), (.quiet [0])⟩,
 ⟨9, Op 30 (.load true 4 (.t 29)), (.quiet [0])⟩,
 ⟨10, On (.store 4 (.t 2) (.t 30)), (.eff)⟩] 0)
 (.ret)))⟩
theorem ok160 : compFunc prog glb 160 p160 = some c160 := by kernel_rfl
def p161 : List Plan := []
def c161 : CFunc := ⟨15, [],
 Rg [Mv 4 0, Op 5 (Ca 162 [.t 4]), Op 6 (.un (.not) (.t 5))]
 (.cond (.t 6) (.region [Mv 7 0, Mv 8 1, Mv 9 0, Op 10 (Ca 160 [.t 9]), Op 11 (.part false 1 1 (.t 10)), Op 12 (.build [.int (.i64) 0, .int (.i64) 0] [(0, 1, .t 8), (1, 1, .t 11)]), Op 13 (.nilCheck (.t 7)), Op 14 (.fieldAddr 2 (.t 13)), On (.store 2 (.t 14) (.t 12))])
 (.skip))⟩
theorem ok161 : compFunc prog glb 161 p161 = some c161 := by kernel_rfl
def p162 : List Plan := []
def c162 : CFunc := ⟨9, [.tmp 2],
 Rg [Op 2 (.move (.c (.bool false)))]
 (Rg [Mv 3 0, Op 4 (.nilCheck (.t 3)), Op 5 (.fieldAddr 2 (.t 4)), Op 6 (.fieldAddr 0 (.t 5)), Op 7 (.load false 1 (.t 6)), Op 8 (.bin (.neq) (.t 7) (Ci 0)), Mv 2 8]
 (.ret))⟩
theorem ok162 : compFunc prog glb 162 p162 = some c162 := by kernel_rfl
def p163 : List Plan := []
def c163 : CFunc := ⟨18, [.tmp 4],
 Rg [Op 4 (.move (.c (.bool false)))]
 (.seq (Rg [Op 5 (.move (Ci 0))]
 (.block 0 (.loop (.seq (Rg [Mv 6 5, Mv 7 0, Op 8 (.len (.slice) (.t 7)), Op 9 (.bin (.lss) (.t 6) (.t 8))]
 (.cond (.t 9) (.skip)
 (.exit 0)))
 (.seq (.block 1 (Rg [Mv 12 0, Mv 13 5, Op 14 (.indexAddr 1 (.t 12) (.t 13)), Op 15 (.load false 1 (.t 14)), Mv 16 1, Op 17 (.bin (.eql) (.t 15) (.t 16))]
 (.cond (.t 17) (Rg [Op 4 (.move (.c (.bool true)))]
 (.ret))
 (.skip))))
 (.region [Mv 10 5, Op 11 (.bin (.add) (.t 10) (Ci 1)), Mv 5 11]))))))
 (Rg [Op 4 (.move (.c (.bool false)))]
 (.ret)))⟩
theorem ok163 : compFunc prog glb 163 p163 = some c163 := by kernel_rfl
def p164 : List Plan := []
def c164 : CFunc := ⟨8, [.cell 4 true 2],
 Rg [Op 4 (.new [.int (.i64) 0, .int (.i64) 0])]
 (Rg [Mv 5 0, Mv 6 1, Op 7 (.build [.int (.i64) 0, .int (.i64) 0] [(0, 1, .t 5), (1, 1, .t 6)]), On (.store 2 (.t 4) (.t 7))]
 (.ret))⟩
theorem ok164 : compFunc prog glb 164 p164 = some c164 := by kernel_rfl
def p165 : List Plan := []
def c165 : CFunc := ⟨6, [.tmp 2],
 Rg [Op 2 (.move (Ci 0))]
 (.seq (Rg [Mv 3 0, Op 4 (.bin (.eql) (.t 3) (Ci 4))]
 (.cond (.t 4) (Rg [Op 2 (.move (Ci 3))]
 (.ret))
 (.skip)))
 (Rg [Mv 5 0, Mv 2 5]
 (.ret)))⟩
theorem ok165 : compFunc prog glb 165 p165 = some c165 := by kernel_rfl
def p166 : List Plan := []
def c166 : CFunc := ⟨9, [.tmp 2],
 Rg [Op 2 (.move (.c (.bool false)))]
 (Rg [Mv 3 0, Op 4 (.nilCheck (.t 3)), Op 5 (.fieldAddr 4 (.t 4)), Op 6 (.fieldAddr 0 (.t 5)), Op 7 (.load false 1 (.t 6)), Op 8 (.bin (.neq) (.t 7) (Ci 0)), Mv 2 8]
 (.ret))⟩
theorem ok166 : compFunc prog glb 166 p166 = some c166 := by kernel_rfl
def p167 : List Plan := []
def c167 : CFunc := ⟨22, [],
 Rg [Op 4 (.move (Ci 0))]
 (.block 0 (.loop (.seq (Rg [Mv 5 4, Mv 6 1, Op 7 (.len (.slice) (.t 6)), Op 8 (.bin (.lss) (.t 5) (.t 7)), Mv 9 8, Mt 10 0 9, Ot 11 (Ca 166 [.t 10]) 9, Ot 12 (.un (.not) (.t 11)) 9, Op 13 (.pick (.t 9) (.t 12) (.c (.bool false)))]
 (.cond (.t 13) (.skip)
 (.exit 0)))
 (.seq (.block 1 (.region [Mv 16 0, Mv 17 1, Mv 18 4, Op 19 (.indexAddr 8 (.t 17) (.t 18)), Op 20 (.load true 8 (.t 19)), Op 21 (Ca 227 [.t 16, .t 20])]))
 (.region [Mv 14 4, Op 15 (.bin (.add) (.t 14) (Ci 1)), Mv 4 15])))))⟩
theorem ok167 : compFunc prog glb 167 p167 = some c167 := by kernel_rfl
def p168 : List Plan := [⟨[(7, .quiet [0]), (6, .quiet [0]), (8, .quiet [0]), (9, .quiet [0]), (10, .quiet [0]), (2, .quiet [0]), (1, .quiet [0]), (3, .quiet [0]), (4, .quiet [0]), (5, .quiet [0]), (0, .quiet [0]), (11, .eff)], 0, [0, 0, 0, 6, 14, 30, 0, 0, 192, 448, 960, 2047]⟩, ⟨[(6, .quiet [0]), (5, .quiet [0]), (7, .quiet [0]), (8, .quiet [0]), (9, .quiet [0]), (1, .quiet [0]), (0, .quiet [0]), (2, .quiet [0]), (3, .quiet [0]), (4, .quiet [0]), (10, .quiet [0])], 0, [0, 0, 3, 7, 15, 0, 0, 96, 224, 480, 1023]⟩]
def c168 : CFunc := ⟨82, [],
 Rg [Op 4 (.move (Ci 0))]
 (.block 0 (.loop (.seq (Rg [Mv 6 4, Mv 7 1, Op 8 (.len (.slice) (.t 7)), Op 9 (.bin (.lss) (.t 6) (.t 8)), Mv 10 9, Mt 11 0 10, Ot 12 (Ca 166 [.t 11]) 10, Ot 13 (.un (.not) (.t 12)) 10, Op 14 (.pick (.t 10) (.t 13) (.c (.bool false)))]
 (.cond (.t 14) (.skip)
 (.exit 0)))
 (.seq (.block 1 (.seq (Rg [Mv 17 4, Op 18 (.bin (.geq) (.t 17) (Ci 6))]
 (.cond (.t 18) (.region [Mv 19 0, Mv 20 1, Mv 21 4, Op 22 (.indexAddr 3 (.t 20) (.t 21)), Op 23 (.fieldAddr 0 (.t 22)), Op 24 (.load false 1 (.t 23)), Op 25 (Ca 228 [.t 19, Ci 16, .t 24])])
 (.skip)))
 (.seq (.draw [⟨7, Mv 33 4, (.quiet [0])⟩,
 ⟨6, Mv 32 1, (.quiet [0])⟩,
 ⟨8, Op 34 (.indexAddr 3 (.t 32) (.t 33)), (.quiet [0])⟩,
 ⟨9, Op 35 (.fieldAddr 0 (.t 34)), (.quiet [0])⟩,
 ⟨10, Op 36 (.load false 1 (.t 35)), (.quiet [0])⟩,
 ⟨2, Mv 28 4, (.quiet [0])⟩,
 ⟨1, Mv 27 1, (.quiet [0])⟩,
 ⟨3, Op 29 (.indexAddr 3 (.t 27) (.t 28)), (.quiet [0])⟩,
 ⟨4, Op 30 (.fieldAddr 1 (.t 29)), (.quiet [0])⟩,
 ⟨5, Op 31 (.load false 1 (.t 30)), (.quiet [0])⟩,
 ⟨0, Mv 26 0, (.quiet [0])⟩,
 ⟨11, Op 37 (Ca 229 [.t 26, .t 31, .t 36, Ci 1]), (.eff)⟩] 0)
 (.seq (Rg [Op 5 (.move (Ci 0))]
 (.block 2 (.loop (.seq (Rg [Mv 38 5, Mv 39 4, Op 40 (.bin (.lss) (.t 38) (.t 39))]
 (.cond (.t 40) (.skip)
 (.exit 2)))
 (.seq (.block 3 (.seq (.draw [⟨6, Mv 49 4, (.quiet [0])⟩,
 ⟨5, Mv 48 1, (.quiet [0])⟩,
 ⟨7, Op 50 (.indexAddr 3 (.t 48) (.t 49)), (.quiet [0])⟩,
 ⟨8, Op 51 (.fieldAddr 1 (.t 50)), (.quiet [0])⟩,
 ⟨9, Op 52 (.load false 1 (.t 51)), (.quiet [0])⟩,
 ⟨1, Mv 44 5, (.quiet [0])⟩,
 ⟨0, Mv 43 1, (.quiet [0])⟩,
 ⟨2, Op 45 (.indexAddr 3 (.t 43) (.t 44)), (.quiet [0])⟩,
 ⟨3, Op 46 (.fieldAddr 1 (.t 45)), (.quiet [0])⟩,
 ⟨4, Op 47 (.load false 1 (.t 46)), (.quiet [0])⟩,
 ⟨10, Op 53 (.bin (.eql) (.t 47) (.t 52)), (.quiet [0])⟩] 0)
 (.cond (.t 53) (.region [Mv 54 0, Mv 55 1, Mv 56 4, Op 57 (.indexAddr 3 (.t 55) (.t 56)), Op 58 (.fieldAddr 0 (.t 57)), Op 59 (.load false 1 (.t 58)), Op 60 (Ca 228 [.t 54, Ci 17, .t 59])])
 (.skip))))
 (.region [Mv 41 5, Op 42 (.bin (.add) (.t 41) (Ci 1)), Mv 5 42]))))))
 (Rg [Mv 61 1, Mv 62 4, Op 63 (.indexAddr 3 (.t 61) (.t 62)), Op 64 (.fieldAddr 2 (.t 63)), Op 65 (.load false 1 (.t 64)), Op 66 (.bin (.lss) (.t 65) (Ci 1)), Mv 67 66, Mf 68 1 67, Mf 69 4 67, Of 70 (.indexAddr 3 (.t 68) (.t 69)) 67, Of 71 (.fieldAddr 2 (.t 70)) 67, Of 72 (.load false 1 (.t 71)) 67, Of 73 (.bin (.gtr) (.t 72) (Ci 1000)) 67, Op 74 (.pick (.t 67) (.c (.bool true)) (.t 73))]
 (.cond (.t 74) (.region [Mv 75 0, Mv 76 1, Mv 77 4, Op 78 (.indexAddr 3 (.t 76) (.t 77)), Op 79 (.fieldAddr 0 (.t 78)), Op 80 (.load false 1 (.t 79)), Op 81 (Ca 228 [.t 75, Ci 24, .t 80])])
 (.skip)))))))
 (.region [Mv 15 4, Op 16 (.bin (.add) (.t 15) (Ci 1)), Mv 4 16])))))⟩
theorem ok168 : compFunc prog glb 168 p168 = some c168 := by kernel_rfl
def p169 : List Plan := []
def c169 : CFunc := ⟨36, [.tmp 2],
 Rg [Op 2 (.move (.c (.nilSlice)))]
 (Rg [Op 3 (.move (Ci 0))]
 (.seq (Rg [Mv 9 0, Op 10 (.len (.slice) (.t 9)), Op 11 (.move (Ci 0))]
 (.block 0 (.loop (Rg [Op 12 (.bin (.lss) (.t 11) (.t 10))]
 (.seq (.cond (.t 12) (.skip)
 (.exit 0))
 (.seq (.block 1 (Rg [Op 13 (.indexAddr 1 (.t 9) (.t 11)), Op 14 (.load false 1 (.t 13)), Mv 5 14]
 (Rg [Mv 15 3, Mv 16 5, Op 17 (.len (.slice) (.t 16)), Op 18 (.bin (.add) (.t 15) (.t 17)), Mv 3 18]
 (Rg [Mv 19 3, Op 20 (.bin (.lss) (.t 19) (Ci 0))]
 (.cond (.t 20) (.region [Op 21 (.iface 9 (.c (.str [108, 101, 110, 32, 111, 117, 116, 32, 111, 102, 32, 114, 97, 110, 103, 101]))), On (.dead)])
 (.skip))))))
 (.region [Op 22 (.bin (.add) (.t 11) (Ci 1)), Mv 11 22])))))))
 (Rg [Mv 23 3, Op 24 (Ca 230 [.c (.nilSlice), .t 23]), Mv 6 24]
 (.seq (Rg [Mv 25 0, Op 26 (.len (.slice) (.t 25)), Op 27 (.move (Ci 0))]
 (.block 2 (.loop (Rg [Op 28 (.bin (.lss) (.t 27) (.t 26))]
 (.seq (.cond (.t 28) (.skip)
 (.exit 2))
 (.seq (.block 3 (Rg [Op 29 (.indexAddr 1 (.t 25) (.t 27)), Op 30 (.load false 1 (.t 29)), Mv 8 30]
 (.region [Mv 31 6, Mv 32 8, Op 33 (.append 2 24 (.t 31) (.t 32)), Mv 6 33])))
 (.region [Op 34 (.bin (.add) (.t 27) (Ci 1)), Mv 27 34])))))))
 (Rg [Mv 35 6, Mv 2 35]
 (.ret))))))⟩
theorem ok169 : compFunc prog glb 169 p169 = some c169 := by kernel_rfl
def p170 : List Plan := []
def c170 : CFunc := ⟨8, [.tmp 2],
 Rg [Op 2 (.move (.c (.nilSlice)))]
 (.seq (Rg [Mv 3 0, Op 4 (.eq (.slice) false (.t 3) (.c (.nilSlice)))]
 (.cond (.t 4) (Rg [Op 2 (.move (.c (.nilSlice)))]
 (.ret))
 (.skip)))
 (Rg [Op 5 (.buildSlice [.int (.i64) 0, .int (.i64) 0] 0 []), Mv 6 0, Op 7 (.append 2 16 (.t 5) (.t 6)), Mv 2 7]
 (.ret)))⟩
theorem ok170 : compFunc prog glb 170 p170 = some c170 := by kernel_rfl
def p171 : List Plan := []
def c171 : CFunc := ⟨13, [.tmp 2, .tmp 3],
 Rg [Op 2 (.move (.c (.nilPtr))), Op 3 (.move (Ci 0))]
 (.seq (Rg [Mv 4 0, Op 5 (.bin (.lss) (.t 4) (Ci 1)), Mv 6 5, Mf 7 0 6, Of 8 (.bin (.gtr) (.t 7) (Ci 32)) 6, Op 9 (.pick (.t 6) (.c (.bool true)) (.t 8))]
 (.cond (.t 9) (Rg [Op 2 (.move (.c (.nilPtr))), Op 3 (.move (Ci 1))]
 (.ret))
 (.skip)))
 (Rg [Mv 10 0, Op 11 (.build [.int (.i64) 0, .int (.i64) 0, .nilSlice] [(0, 1, .t 10)]), Op 12 (.box (.t 11)), Mv 2 12, Op 3 (.move (Ci 0))]
 (.ret)))⟩
theorem ok171 : compFunc prog glb 171 p171 = some c171 := by kernel_rfl
def p172 : List Plan := []
def c172 : CFunc := ⟨25, [.tmp 4, .tmp 5],
 Rg [Op 4 (.move (.c (.nilPtr))), Op 5 (.move (Ci 0))]
 (.seq (Rg [Mv 6 0, Op 7 (.len (.slice) (.t 6)), Op 8 (.bin (.gtr) (.t 7) (Ci 6)), Mv 9 8, Mf 10 0 9, Mf 11 0 9, Of 12 (.len (.slice) (.t 11)) 9, Of 13 (Ca 175 [.t 10, .t 12]) 9, Of 14 (.un (.not) (.t 13)) 9, Op 15 (.pick (.t 9) (.c (.bool true)) (.t 14)), Mv 16 15, Mf 17 0 16, Of 18 (Ca 204 [.t 17, Ci 0]) 16, Op 19 (.pick (.t 16) (.c (.bool true)) (.t 18))]
 (.cond (.t 19) (Rg [Op 4 (.move (.c (.nilPtr))), Op 5 (.move (Ci 1))]
 (.ret))
 (.skip)))
 (Rg [Mv 20 0, Op 21 (Ca 25 [.t 20]), Mv 22 1, Op 23 (.build [.nilSlice, .bool false, .int (.u32) 0, .int (.i32) 0, .int (.u32) 0, .nilSlice, .nilMap, .nilMap, .nilSlice] [(0, 1, .t 21), (1, 1, .t 22)]), Op 24 (.box (.t 23)), Mv 4 24, Op 5 (.move (Ci 0))]
 (.ret)))⟩
theorem ok172 : compFunc prog glb 172 p172 = some c172 := by kernel_rfl
def p173 : List Plan := []
def c173 : CFunc := ⟨20, [.tmp 2, .tmp 3],
 Rg [Op 2 (.move (.c (.nilPtr))), Op 3 (.move (Ci 0))]
 (.seq (Rg [Mv 5 0, Op 6 (.bin (.lss) (.t 5) (Ci 0)), Mv 7 6, Mf 8 0 7, Of 9 (.bin (.gtr) (.t 8) (Ci 1000)) 7, Op 10 (.pick (.t 7) (.c (.bool true)) (.t 9))]
 (.cond (.t 10) (Rg [Op 2 (.move (.c (.nilPtr))), Op 3 (.move (Ci 1))]
 (.ret))
 (.skip)))
 (Rg [Mv 11 0, Op 12 (.build [.int (.i64) 0, .int (.i64) 0, .int (.i64) 0, .int (.i64) 0, .nilSlice] [(1, 1, .t 11)]), Op 13 (.box (.t 12)), Mv 4 13]
 (Rg [Mv 14 4, Op 15 (.nilCheck (.t 14)), Op 16 (.fieldAddr 0 (.t 15)), Mv 17 0, Op 18 (Ca 231 [.t 16, .t 17])]
 (Rg [Mv 19 4, Mv 2 19, Op 3 (.move (Ci 0))]
 (.ret)))))⟩
theorem ok173 : compFunc prog glb 173 p173 = some c173 := by kernel_rfl
end Go.Proofs.YtkjdgdkkepmciaaGreat.Cm
