/-
  The clean machine, and what the law's functions do in it: part G of this claim's own texts. No conditions.
-/
import Derived.Test.YtncmoaggkdlkhaaGreatCmC
import Derived.Test.YtncmoaggkdlkhaaGreatProg
import Derived.KernelRfl
import Derived.Lib.LaidTab
import Derived.Lib.ItoaNum
namespace Go.Proofs.YtncmoaggkdlkhaaGreat.Cm
noncomputable abbrev prog := Go.Proofs.Tryz.prog
def facts (_ : World) : Prop := True
noncomputable abbrev glb : Gl := ⟨0, facts, modOf prog⟩
theorem mixed : prog.follows .mixedOrders = true := by kernel_rfl
abbrev Mv (d s : Nat) : COper := ⟨some d, .move (.t s), none⟩
abbrev Mt (d s g : Nat) : COper := ⟨some d, .move (.t s), some (g, true)⟩
abbrev Mf (d s g : Nat) : COper := ⟨some d, .move (.t s), some (g, false)⟩
abbrev Op (d : Nat) (o : COp) : COper := ⟨some d, o, none⟩
abbrev Ot (d : Nat) (o : COp) (g : Nat) : COper := ⟨some d, o, some (g, true)⟩
abbrev Of (d : Nat) (o : COp) (g : Nat) : COper := ⟨some d, o, some (g, false)⟩
abbrev On (o : COp) : COper := ⟨none, o, none⟩
abbrev Ca (f : Nat) (l : List CX) : COp := .call (.c (.func f [] [])) l
abbrev Ci (n : Int) : CX := .c (.int .i64 n)
abbrev Rg (l : List COper) (c : CCode) : CCode := .seq (.region l) c
def p3 : List Plan := []
def c3 : CFunc := ⟨64, [.tmp 6],
 Rg [Op 6 (.move (.c (.bool false)))]
 (.seq (Rg [Mv 12 0, Mv 13 2, Op 14 (Ca 9 [.t 12, .t 13]), Op 15 (.un (.not) (.t 14))]
 (.cond (.t 15) (Rg [Op 16 (Ca 10 []), Mv 6 16]
 (.ret))
 (.skip)))
 (Rg [Mv 18 0, Mv 19 1, Op 20 (Ca 11 [.t 18, .t 19]), Mv 17 20, Op 21 (.extract (.t 17) 0), Op 22 (.extract (.t 17) 1), Mv 7 21, Mv 8 22]
 (Rg [Mv 24 0, Mv 25 1, Op 26 (Ca 12 [.t 24, .t 25]), Mv 23 26, Op 27 (.extract (.t 23) 0), Op 28 (.extract (.t 23) 1), Mv 9 27, Mv 10 28]
 (.seq (Rg [Mv 29 8, Mv 30 10, Op 31 (.bin (.neq) (.t 29) (.t 30)), Mv 32 31, Mf 33 7 32, Of 34 (.eq (.ptr) false (.t 33) (.c (.nilPtr))) 32, Mf 35 9 32, Of 36 (.eq (.ptr) false (.t 35) (.c (.nilPtr))) 32, Of 37 (.eq (.bool) true (.t 34) (.t 36)) 32, Op 38 (.pick (.t 32) (.c (.bool true)) (.t 37))]
 (.cond (.t 38) (Rg [Op 6 (.move (.c (.bool false)))]
 (.ret))
 (.skip)))
 (.seq (Rg [Op 11 (.move (Ci 0))]
 (.block 0 (.loop (.seq (Rg [Mv 39 11, Mv 40 2, Op 41 (.len (.slice) (.t 40)), Op 42 (.bin (.lss) (.t 39) (.t 41)), Mv 43 42, Mt 44 9 43, Ot 45 (.eq (.ptr) true (.t 44) (.c (.nilPtr))) 43, Op 46 (.pick (.t 43) (.t 45) (.c (.bool false)))]
 (.cond (.t 46) (.skip)
 (.exit 0)))
 (.seq (.block 1 (Rg [Mv 49 7, Mv 50 9, Mv 51 2, Mv 52 11, Op 53 (.indexAddr 3 (.t 51) (.t 52)), Op 54 (.load true 3 (.t 53)), Op 55 (Ca 13 [.t 49, .t 50, .t 54]), Op 56 (.un (.not) (.t 55)), Mv 57 56, Mf 58 7 57, Mf 59 9 57, Of 60 (Ca 14 [.t 58, .t 59]) 57, Of 61 (.un (.not) (.t 60)) 57, Op 62 (.pick (.t 57) (.c (.bool true)) (.t 61))]
 (.cond (.t 62) (Rg [Op 6 (.move (.c (.bool false)))]
 (.ret))
 (.skip))))
 (.region [Mv 47 11, Op 48 (.bin (.add) (.t 47) (Ci 1)), Mv 11 48]))))))
 (Rg [Op 63 (Ca 10 []), Mv 6 63]
 (.ret)))))))⟩
theorem ok3 : compFunc prog glb 3 p3 = some c3 := by kernel_rfl
def p4 : List Plan := []
def c4 : CFunc := ⟨61, [.tmp 8],
 Rg [Op 8 (.move (.c (.bool false)))]
 (.seq (Rg [Mv 12 1, Op 13 (.bin (.lss) (.t 12) (Ci 1)), Mv 14 13, Mf 15 1 14, Of 16 (.bin (.gtr) (.t 15) (Ci 8)) 14, Op 17 (.pick (.t 14) (.c (.bool true)) (.t 16)), Mv 18 17, Mf 19 2 18, Of 20 (.len (.slice) (.t 19)) 18, Of 21 (.bin (.gtr) (.t 20) (Ci 40)) 18, Op 22 (.pick (.t 18) (.c (.bool true)) (.t 21)), Mv 23 22, Mf 24 3 23, Of 25 (.len (.slice) (.t 24)) 23, Of 26 (.bin (.gtr) (.t 25) (Ci 80)) 23, Op 27 (.pick (.t 23) (.c (.bool true)) (.t 26))]
 (.cond (.t 27) (Rg [Op 28 (Ca 10 []), Mv 8 28]
 (.ret))
 (.skip)))
 (Rg [Mv 30 0, Mv 31 1, Mv 32 2, Op 33 (Ca 15 [.t 30, .t 31, .t 32]), Mv 29 33, Op 34 (.extract (.t 29) 0), Op 35 (.extract (.t 29) 1), Mv 9 34, Mv 10 35]
 (.seq (Rg [Mv 36 9, Op 37 (.eq (.ptr) false (.t 36) (.c (.nilPtr)))]
 (.cond (.t 37) (Rg [Op 8 (.move (.c (.bool false)))]
 (.ret))
 (.skip)))
 (.seq (Rg [Op 11 (.move (Ci 0))]
 (.block 0 (.loop (.seq (Rg [Mv 38 11, Mv 39 3, Op 40 (.len (.slice) (.t 39)), Op 41 (.bin (.lss) (.t 38) (.t 40))]
 (.cond (.t 41) (.skip)
 (.exit 0)))
 (.seq (.block 1 (Rg [Mv 44 9, Mv 45 10, Mv 46 3, Mv 47 11, Op 48 (.indexAddr 1 (.t 46) (.t 47)), Op 49 (.load false 1 (.t 48)), Mv 50 1, Op 51 (Ca 16 [.t 49, .t 50]), Op 52 (Ca 13 [.t 44, .t 45, .t 51]), Op 53 (.un (.not) (.t 52)), Mv 54 53, Mf 55 9 54, Mf 56 10 54, Of 57 (Ca 14 [.t 55, .t 56]) 54, Of 58 (.un (.not) (.t 57)) 54, Op 59 (.pick (.t 54) (.c (.bool true)) (.t 58))]
 (.cond (.t 59) (Rg [Op 8 (.move (.c (.bool false)))]
 (.ret))
 (.skip))))
 (.region [Mv 42 11, Op 43 (.bin (.add) (.t 42) (Ci 1)), Mv 11 43]))))))
 (Rg [Op 60 (Ca 10 []), Mv 8 60]
 (.ret))))))⟩
theorem ok4 : compFunc prog glb 4 p4 = some c4 := by kernel_rfl
def p5 : List Plan := [⟨[(2, .quiet [0]), (1, .quiet [0]), (3, .quiet [0]), (4, .quiet [0]), (0, .quiet [0]), (5, .eff), (8, .quiet [0, 6]), (7, .quiet [0, 6]), (9, .quiet [0, 6]), (10, .quiet [0, 6]), (6, .quiet [0, 6]), (11, .eff), (12, .quiet [12]), (13, .quiet [12])], 0, [0, 0, 0, 6, 14, 31, 0, 0, 0, 384, 896, 2047, 4095, 8191]⟩, ⟨[(0, .quiet [0]), (1, .quiet [0]), (2, .quiet [0]), (3, .quiet [0]), (4, .quiet [0]), (5, .quiet [0]), (6, .quiet [0]), (7, .quiet [0]), (8, .quiet [0]), (9, .quiet [0]), (10, .quiet [0]), (11, .quiet [0]), (12, .quiet [0]), (13, .quiet [0]), (14, .quiet [0]), (15, .quiet [0]), (16, .quiet [0]), (17, .quiet [0]), (18, .quiet [0]), (19, .quiet [0]), (20, .quiet [0]), (21, .quiet [0]), (22, .quiet [0]), (23, .quiet [0]), (24, .quiet [0]), (25, .quiet [0]), (26, .quiet [0]), (27, .quiet [0]), (31, .quiet [0]), (32, .quiet [0]), (33, .quiet [0]), (28, .quiet [0]), (29, .quiet [0]), (30, .quiet [0]), (34, .quiet [0]), (35, .quiet [0]), (39, .quiet [0]), (40, .quiet [0]), (41, .quiet [0]), (36, .quiet [0]), (37, .quiet [0]), (38, .quiet [0]), (42, .quiet [0]), (43, .quiet [0]), (44, .quiet [0]), (45, .quiet [0])], 0, [0, 1, 3, 7, 15, 31, 63, 127, 255, 511, 1023, 2047, 4095, 8191, 16383, 32767, 65535, 131071, 262143, 524287, 1048575, 2097151, 4194303, 8388607, 16777215, 33554431, 67108863, 134217727, 268435455, 536870911, 1073741823, 268435455, 2415919103, 6710886399, 17179869183, 34359738367, 68719476735, 137438953471, 274877906943, 68719476735, 618475290623, 1717986918399, 4398046511103, 8796093022207, 17592186044415, 35184372088831]⟩, ⟨[(10, .quiet [0]), (11, .quiet [0]), (12, .quiet [0]), (7, .quiet [0]), (8, .quiet [0]), (9, .quiet [0]), (13, .quiet [0]), (3, .quiet [0]), (4, .quiet [0]), (5, .quiet [0]), (0, .quiet [0]), (1, .quiet [0]), (2, .quiet [0]), (6, .quiet [0]), (14, .eff), (15, .quiet [15])], 0, [0, 1, 3, 0, 8, 24, 63, 0, 128, 384, 0, 1024, 3072, 8064, 16383, 32767]⟩]
def c5 : CFunc := ⟨149, [.tmp 8],
 Rg [Op 8 (.move (.c (.bool false)))]
 (.seq (Rg [Mv 17 1, Op 18 (.bin (.lss) (.t 17) (Ci 1)), Mv 19 18, Mf 20 1 19, Of 21 (.bin (.gtr) (.t 20) (Ci 8)) 19, Op 22 (.pick (.t 19) (.c (.bool true)) (.t 21)), Mv 23 22, Mf 24 2 23, Of 25 (.len (.slice) (.t 24)) 23, Of 26 (.bin (.gtr) (.t 25) (Ci 40)) 23, Op 27 (.pick (.t 23) (.c (.bool true)) (.t 26)), Mv 28 27, Mf 29 3 28, Of 30 (.len (.slice) (.t 29)) 28, Of 31 (.bin (.gtr) (.t 30) (Ci 80)) 28, Op 32 (.pick (.t 28) (.c (.bool true)) (.t 31))]
 (.cond (.t 32) (Rg [Op 33 (Ca 10 []), Mv 8 33]
 (.ret))
 (.skip)))
 (Rg [Mv 35 0, Mv 36 1, Mv 37 2, Op 38 (Ca 15 [.t 35, .t 36, .t 37]), Mv 34 38, Op 39 (.extract (.t 34) 0), Op 40 (.extract (.t 34) 1), Mv 9 39, Mv 10 40]
 (.seq (Rg [Mv 41 9, Op 42 (.eq (.ptr) false (.t 41) (.c (.nilPtr)))]
 (.cond (.t 42) (Rg [Op 8 (.move (.c (.bool false)))]
 (.ret))
 (.skip)))
 (.seq (Rg [Op 11 (.move (Ci 0))]
 (.block 0 (.loop (.seq (Rg [Mv 43 11, Mv 44 3, Op 45 (.len (.slice) (.t 44)), Op 46 (.bin (.lss) (.t 43) (.t 45))]
 (.cond (.t 46) (.skip)
 (.exit 0)))
 (.seq (.block 1 (Rg [Mv 49 9, Mv 50 10, Mv 51 3, Mv 52 11, Op 53 (.indexAddr 1 (.t 51) (.t 52)), Op 54 (.load false 1 (.t 53)), Mv 55 1, Op 56 (Ca 16 [.t 54, .t 55]), Op 57 (Ca 13 [.t 49, .t 50, .t 56])]
 (Rg [Mv 58 9, Op 59 (Ca 17 [.t 58]), Mv 12 59]
 (Rg [Mv 60 9, Op 61 (Ca 18 [.t 60]), Mv 13 61]
 (.seq (Rg [Op 14 (.move (Ci 0))]
 (.block 2 (.loop (.seq (Rg [Mv 62 14, Mv 63 13, Op 64 (.len (.slice) (.t 63)), Op 65 (.bin (.lss) (.t 62) (.t 64))]
 (.cond (.t 65) (.skip)
 (.exit 2)))
 (.seq (.block 3 (.seq (.draw [⟨2, Mv 70 14, (.quiet [0])⟩,
 ⟨1, Mv 69 13, (.quiet [0])⟩,
 ⟨3, Op 71 (.indexAddr 1 (.t 69) (.t 70)), (.quiet [0])⟩,
 ⟨4, Op 72 (.load false 1 (.t 71)), (.quiet [0])⟩,
 ⟨0, Mv 68 9, (.quiet [0])⟩,
 ⟨5, Op 73 (Ca 19 [.t 68, .t 72]), (.eff)⟩,
 ⟨8, Mv 76 14, (.quiet [0, 6])⟩,
 ⟨7, Mv 75 13, (.quiet [0, 6])⟩,
 ⟨9, Op 77 (.indexAddr 1 (.t 75) (.t 76)), (.quiet [0, 6])⟩,
 ⟨10, Op 78 (.load false 1 (.t 77)), (.quiet [0, 6])⟩,
 ⟨6, Mv 74 9, (.quiet [0, 6])⟩,
 ⟨11, Op 79 (Ca 20 [.t 74, .t 78]), (.eff)⟩,
 ⟨12, Mv 15 73, (.quiet [12])⟩,
 ⟨13, Mv 16 79, (.quiet [12])⟩] 0)
 (.seq (.seq (.draw [⟨0, Mv 80 12, (.quiet [0])⟩,
 ⟨1, Op 81 (.len (.slice) (.t 80)), (.quiet [0])⟩,
 ⟨2, Op 82 (.bin (.neq) (.t 81) (Ci 2)), (.quiet [0])⟩,
 ⟨3, Mv 83 82, (.quiet [0])⟩,
 ⟨4, Mf 84 15 83, (.quiet [0])⟩,
 ⟨5, Of 85 (.len (.slice) (.t 84)) 83, (.quiet [0])⟩,
 ⟨6, Of 86 (.bin (.neq) (.t 85) (Ci 2)) 83, (.quiet [0])⟩,
 ⟨7, Op 87 (.pick (.t 83) (.c (.bool true)) (.t 86)), (.quiet [0])⟩,
 ⟨8, Mv 88 87, (.quiet [0])⟩,
 ⟨9, Mf 89 16 88, (.quiet [0])⟩,
 ⟨10, Of 90 (.len (.slice) (.t 89)) 88, (.quiet [0])⟩,
 ⟨11, Of 91 (.bin (.neq) (.t 90) (Ci 2)) 88, (.quiet [0])⟩,
 ⟨12, Op 92 (.pick (.t 88) (.c (.bool true)) (.t 91)), (.quiet [0])⟩,
 ⟨13, Mv 93 92, (.quiet [0])⟩,
 ⟨14, Mf 94 15 93, (.quiet [0])⟩,
 ⟨15, Of 95 (.indexAddr 1 (.t 94) (Ci 0)) 93, (.quiet [0])⟩,
 ⟨16, Of 96 (.load false 1 (.t 95)) 93, (.quiet [0])⟩,
 ⟨17, Of 97 (.bin (.lss) (.t 96) (Ci 0)) 93, (.quiet [0])⟩,
 ⟨18, Op 98 (.pick (.t 93) (.c (.bool true)) (.t 97)), (.quiet [0])⟩,
 ⟨19, Mv 99 98, (.quiet [0])⟩,
 ⟨20, Mf 100 15 99, (.quiet [0])⟩,
 ⟨21, Of 101 (.indexAddr 1 (.t 100) (Ci 1)) 99, (.quiet [0])⟩,
 ⟨22, Of 102 (.load false 1 (.t 101)) 99, (.quiet [0])⟩,
 ⟨23, Of 103 (.bin (.lss) (.t 102) (Ci 0)) 99, (.quiet [0])⟩,
 ⟨24, Op 104 (.pick (.t 99) (.c (.bool true)) (.t 103)), (.quiet [0])⟩,
 ⟨25, Mv 105 104, (.quiet [0])⟩,
 ⟨26, Mf 106 0 105, (.quiet [0])⟩,
 ⟨27, Mf 107 106 105, (.quiet [0])⟩,
 ⟨31, Mt 111 16 107, (.quiet [0])⟩,
 ⟨32, Ot 112 (.indexAddr 1 (.t 111) (Ci 0)) 107, (.quiet [0])⟩,
 ⟨33, Ot 113 (.load false 1 (.t 112)) 107, (.quiet [0])⟩,
 ⟨28, Mt 108 15 107, (.quiet [0])⟩,
 ⟨29, Ot 109 (.indexAddr 1 (.t 108) (Ci 0)) 107, (.quiet [0])⟩,
 ⟨30, Ot 110 (.load false 1 (.t 109)) 107, (.quiet [0])⟩,
 ⟨34, Ot 114 (.bin (.gtr) (.t 110) (.t 113)) 107, (.quiet [0])⟩,
 ⟨35, Mt 115 114 107, (.quiet [0])⟩,
 ⟨39, Mf 119 16 115, (.quiet [0])⟩,
 ⟨40, Of 120 (.indexAddr 1 (.t 119) (Ci 1)) 115, (.quiet [0])⟩,
 ⟨41, Of 121 (.load false 1 (.t 120)) 115, (.quiet [0])⟩,
 ⟨36, Mf 116 15 115, (.quiet [0])⟩,
 ⟨37, Of 117 (.indexAddr 1 (.t 116) (Ci 1)) 115, (.quiet [0])⟩,
 ⟨38, Of 118 (.load false 1 (.t 117)) 115, (.quiet [0])⟩,
 ⟨42, Of 122 (.bin (.gtr) (.t 118) (.t 121)) 115, (.quiet [0])⟩,
 ⟨43, Ot 123 (.pick (.t 115) (.c (.bool true)) (.t 122)) 107, (.quiet [0])⟩,
 ⟨44, Of 124 (.pick (.t 107) (.t 123) (.c (.bool false))) 105, (.quiet [0])⟩,
 ⟨45, Op 125 (.pick (.t 105) (.c (.bool true)) (.t 124)), (.quiet [0])⟩] 0)
 (.cond (.t 125) (Rg [Op 8 (.move (.c (.bool false)))]
 (.ret))
 (.skip)))
 (.draw [⟨10, Mv 136 15, (.quiet [0])⟩,
 ⟨11, Op 137 (.indexAddr 1 (.t 136) (Ci 1)), (.quiet [0])⟩,
 ⟨12, Op 138 (.load false 1 (.t 137)), (.quiet [0])⟩,
 ⟨7, Mv 133 12, (.quiet [0])⟩,
 ⟨8, Op 134 (.indexAddr 1 (.t 133) (Ci 1)), (.quiet [0])⟩,
 ⟨9, Op 135 (.load false 1 (.t 134)), (.quiet [0])⟩,
 ⟨13, Op 139 (.bin (.add) (.t 135) (.t 138)), (.quiet [0])⟩,
 ⟨3, Mv 129 15, (.quiet [0])⟩,
 ⟨4, Op 130 (.indexAddr 1 (.t 129) (Ci 0)), (.quiet [0])⟩,
 ⟨5, Op 131 (.load false 1 (.t 130)), (.quiet [0])⟩,
 ⟨0, Mv 126 12, (.quiet [0])⟩,
 ⟨1, Op 127 (.indexAddr 1 (.t 126) (Ci 0)), (.quiet [0])⟩,
 ⟨2, Op 128 (.load false 1 (.t 127)), (.quiet [0])⟩,
 ⟨6, Op 132 (.bin (.add) (.t 128) (.t 131)), (.quiet [0])⟩,
 ⟨14, Op 140 (.buildSlice [.int (.i64) 0] 2 [(0, 1, .t 132), (1, 1, .t 139)]), (.eff)⟩,
 ⟨15, Mv 12 140, (.quiet [15])⟩] 0))))
 (.region [Mv 66 14, Op 67 (.bin (.add) (.t 66) (Ci 1)), Mv 14 67]))))))
 (Rg [Mv 141 12, Mv 142 10, Op 143 (.nilCheck (.t 142)), Op 144 (.fieldAddr 0 (.t 143)), Op 145 (.load false 1 (.t 144)), Op 146 (Ca 21 [.t 141, .t 145]), Op 147 (.un (.not) (.t 146))]
 (.cond (.t 147) (Rg [Op 8 (.move (.c (.bool false)))]
 (.ret))
 (.skip))))))))
 (.region [Mv 47 11, Op 48 (.bin (.add) (.t 47) (Ci 1)), Mv 11 48]))))))
 (Rg [Op 148 (Ca 10 []), Mv 8 148]
 (.ret))))))⟩
theorem ok5 : compFunc prog glb 5 p5 = some c5 := by kernel_rfl
def p6 : List Plan := []
def c6 : CFunc := ⟨77, [.tmp 6],
 Rg [Op 6 (.move (.c (.bool false)))]
 (.seq (Rg [Mv 13 0, Op 14 (.bin (.lss) (.t 13) (Ci 1)), Mv 15 14, Mf 16 0 15, Of 17 (.bin (.gtr) (.t 16) (Ci 8)) 15, Op 18 (.pick (.t 15) (.c (.bool true)) (.t 17)), Mv 19 18, Mf 20 1 19, Of 21 (.len (.slice) (.t 20)) 19, Of 22 (.bin (.gtr) (.t 21) (Ci 40)) 19, Op 23 (.pick (.t 19) (.c (.bool true)) (.t 22)), Mv 24 23, Mf 25 2 24, Of 26 (.len (.slice) (.t 25)) 24, Of 27 (.bin (.gtr) (.t 26) (Ci 80)) 24, Op 28 (.pick (.t 24) (.c (.bool true)) (.t 27))]
 (.cond (.t 28) (Rg [Op 29 (Ca 10 []), Mv 6 29]
 (.ret))
 (.skip)))
 (Rg [Mv 31 0, Mv 32 1, Op 33 (Ca 15 [.c (.bool true), .t 31, .t 32]), Mv 30 33, Op 34 (.extract (.t 30) 0), Op 35 (.extract (.t 30) 1), Mv 7 34, Mv 8 35]
 (.seq (Rg [Mv 36 7, Op 37 (.eq (.ptr) false (.t 36) (.c (.nilPtr)))]
 (.cond (.t 37) (Rg [Op 6 (.move (.c (.bool false)))]
 (.ret))
 (.skip)))
 (.seq (Rg [Op 9 (.move (Ci 0))]
 (.block 0 (.loop (.seq (Rg [Mv 38 9, Mv 39 2, Op 40 (.len (.slice) (.t 39)), Op 41 (.bin (.lss) (.t 38) (.t 40))]
 (.cond (.t 41) (.skip)
 (.exit 0)))
 (.seq (.block 1 (Rg [Mv 44 7, Mv 45 8, Mv 46 2, Mv 47 9, Op 48 (.indexAddr 1 (.t 46) (.t 47)), Op 49 (.load false 1 (.t 48)), Mv 50 0, Op 51 (Ca 16 [.t 49, .t 50]), Op 52 (Ca 13 [.t 44, .t 45, .t 51])]
 (Rg [Mv 54 7, Op 55 (Ca 22 [.t 54]), Mv 53 55, Op 56 (.extract (.t 53) 0), Op 57 (.extract (.t 53) 1), Op 58 (.extract (.t 53) 2), Mv 10 56, Mv 11 57, Mv 12 58]
 (Rg [Mv 59 7, Op 60 (Ca 23 [.t 59]), Op 61 (.un (.not) (.t 60)), Mv 62 61, Mf 63 7 62, Of 64 (Ca 17 [.t 63]) 62, Mf 65 10 62, Mf 66 11 62, Of 67 (Ca 24 [.t 64, .t 65, .t 66]) 62, Of 68 (.un (.not) (.t 67)) 62, Op 69 (.pick (.t 62) (.c (.bool true)) (.t 68)), Mv 70 69, Mf 71 7 70, Of 72 (Ca 25 [.t 71]) 70, Of 73 (.len (.slice) (.t 72)) 70, Of 74 (.bin (.gtr) (.t 73) (Ci 0)) 70, Op 75 (.pick (.t 70) (.c (.bool true)) (.t 74))]
 (.cond (.t 75) (Rg [Op 6 (.move (.c (.bool false)))]
 (.ret))
 (.skip))))))
 (.region [Mv 42 9, Op 43 (.bin (.add) (.t 42) (Ci 1)), Mv 9 43]))))))
 (Rg [Op 76 (Ca 10 []), Mv 6 76]
 (.ret))))))⟩
theorem ok6 : compFunc prog glb 6 p6 = some c6 := by kernel_rfl
def p7 : List Plan := [⟨[(0, .quiet [0]), (1, .eff), (3, .quiet [0, 2]), (2, .quiet [0, 2]), (4, .quiet [0, 2]), (5, .quiet [0, 2]), (6, .quiet [0, 2]), (7, .eff), (8, .quiet [8]), (9, .quiet [8]), (11, .quiet [8]), (10, .quiet [8]), (12, .quiet [8])], 0, [0, 1, 0, 0, 12, 28, 60, 127, 255, 511, 511, 1023, 4095]⟩, ⟨[(7, .quiet [0]), (6, .quiet [0]), (8, .quiet [0]), (9, .quiet [0]), (10, .quiet [0]), (3, .quiet [0]), (2, .quiet [0]), (4, .quiet [0]), (5, .quiet [0]), (11, .eff), (12, .quiet [10]), (13, .quiet [10]), (1, .quiet [0, 10]), (0, .quiet [0, 10]), (15, .quiet [10]), (16, .eff), (14, .quiet [10, 16])], 0, [0, 0, 0, 0, 12, 28, 0, 0, 192, 448, 960, 2044, 4092, 8188, 8188, 16383, 49151]⟩]
def c7 : CFunc := ⟨150, [.tmp 8],
 Rg [Op 8 (.move (.c (.bool false)))]
 (.seq (Rg [Mv 23 1, Op 24 (.bin (.lss) (.t 23) (Ci 1)), Mv 25 24, Mf 26 1 25, Of 27 (.bin (.gtr) (.t 26) (Ci 8)) 25, Op 28 (.pick (.t 25) (.c (.bool true)) (.t 27)), Mv 29 28, Mf 30 2 29, Of 31 (.len (.slice) (.t 30)) 29, Of 32 (.bin (.gtr) (.t 31) (Ci 40)) 29, Op 33 (.pick (.t 29) (.c (.bool true)) (.t 32)), Mv 34 33, Mf 35 3 34, Of 36 (.len (.slice) (.t 35)) 34, Of 37 (.bin (.gtr) (.t 36) (Ci 80)) 34, Op 38 (.pick (.t 34) (.c (.bool true)) (.t 37))]
 (.cond (.t 38) (Rg [Op 39 (Ca 10 []), Mv 8 39]
 (.ret))
 (.skip)))
 (Rg [Mv 41 0, Mv 42 1, Mv 43 2, Op 44 (Ca 15 [.t 41, .t 42, .t 43]), Mv 40 44, Op 45 (.extract (.t 40) 0), Op 46 (.extract (.t 40) 1), Mv 9 45, Mv 10 46]
 (.seq (Rg [Mv 47 9, Op 48 (.eq (.ptr) false (.t 47) (.c (.nilPtr)))]
 (.cond (.t 48) (Rg [Op 8 (.move (.c (.bool false)))]
 (.ret))
 (.skip)))
 (.seq (Rg [Op 11 (.move (Ci 0))]
 (.block 0 (.loop (.seq (Rg [Mv 49 11, Mv 50 3, Op 51 (.len (.slice) (.t 50)), Op 52 (.bin (.lss) (.t 49) (.t 51))]
 (.cond (.t 52) (.skip)
 (.exit 0)))
 (.seq (.block 1 (Rg [Mv 55 9, Mv 56 10, Mv 57 3, Mv 58 11, Op 59 (.indexAddr 1 (.t 57) (.t 58)), Op 60 (.load false 1 (.t 59)), Mv 61 1, Op 62 (Ca 16 [.t 60, .t 61]), Op 63 (Ca 13 [.t 55, .t 56, .t 62])]
 (Rg [Mv 64 9, Op 65 (Ca 26 [.t 64]), Mv 12 65]
 (Rg [Mv 67 9, Op 68 (Ca 22 [.t 67]), Mv 66 68, Op 69 (.extract (.t 66) 0), Op 70 (.extract (.t 66) 1), Op 71 (.extract (.t 66) 2), Mv 13 69, Mv 14 70, Mv 15 71]
 (Rg [Mv 72 9, Op 73 (Ca 18 [.t 72]), Mv 16 73]
 (Rg [Op 17 (.move (Ci 0))]
 (.block 2 (.loop (.seq (Rg [Mv 74 17, Mv 75 12, Op 76 (.len (.slice) (.t 75)), Op 77 (.bin (.lss) (.t 74) (.t 76))]
 (.cond (.t 77) (.skip)
 (.exit 2)))
 (.seq (.block 3 (.seq (.draw [⟨0, Mv 81 9, (.quiet [0])⟩,
 ⟨1, Op 82 (Ca 17 [.t 81]), (.eff)⟩,
 ⟨3, Mv 84 17, (.quiet [0, 2])⟩,
 ⟨2, Mv 83 12, (.quiet [0, 2])⟩,
 ⟨4, Op 85 (.indexAddr 2 (.t 83) (.t 84)), (.quiet [0, 2])⟩,
 ⟨5, Op 86 (.fieldAddr 1 (.t 85)), (.quiet [0, 2])⟩,
 ⟨6, Op 87 (.load false 1 (.t 86)), (.quiet [0, 2])⟩,
 ⟨7, Op 88 (Ca 27 [.t 82, .t 87]), (.eff)⟩,
 ⟨8, Mv 80 88, (.quiet [8])⟩,
 ⟨9, Op 89 (.extract (.t 80) 0), (.quiet [8])⟩,
 ⟨11, Mv 18 89, (.quiet [8])⟩,
 ⟨10, Op 90 (.extract (.t 80) 1), (.quiet [8])⟩,
 ⟨12, Mv 19 90, (.quiet [8])⟩] 0)
 (.seq (Rg [Mv 91 19, Op 92 (.un (.not) (.t 91))]
 (.cond (.t 92) (.exit 3)
 (.skip)))
 (.seq (Rg [Mv 93 0, Op 94 (.un (.not) (.t 93))]
 (.cond (.t 94) (Rg [Op 8 (.move (.c (.bool false)))]
 (.ret))
 (.skip)))
 (Rg [Mv 96 16, Mv 97 12, Mv 98 17, Op 99 (.indexAddr 2 (.t 97) (.t 98)), Op 100 (.fieldAddr 0 (.t 99)), Op 101 (.load false 1 (.t 100)), Op 102 (Ca 28 [.t 96, .t 101]), Mv 95 102, Op 103 (.extract (.t 95) 0), Op 104 (.extract (.t 95) 1), Mv 20 103, Mv 21 104]
 (.seq (Rg [Mv 105 20, Mv 106 13, Op 107 (.len (.slice) (.t 106)), Op 108 (.bin (.geq) (.t 105) (.t 107)), Mv 109 108, Mf 110 13 109, Mf 111 20 109, Of 112 (.indexAddr 1 (.t 110) (.t 111)) 109, Of 113 (.load false 1 (.t 112)) 109, Of 114 (.len (.slice) (.t 113)) 109, Of 115 (.bin (.neq) (.t 114) (Ci 2)) 109, Op 116 (.pick (.t 109) (.c (.bool true)) (.t 115))]
 (.cond (.t 116) (Rg [Op 8 (.move (.c (.bool false)))]
 (.ret))
 (.skip)))
 (.seq (Rg [Mv 117 17, Op 118 (.bin (.gtr) (.t 117) (Ci 0)), Mv 119 118, Mt 120 13 119, Mt 121 20 119, Ot 122 (.indexAddr 1 (.t 120) (.t 121)) 119, Ot 123 (.load false 1 (.t 122)) 119, Ot 124 (Ca 29 [.t 123]) 119, Op 125 (.pick (.t 119) (.t 124) (.c (.bool false)))]
 (.cond (.t 125) (.exit 3)
 (.skip)))
 (Rg [Op 126 (.buildSlice [.nilSlice] 0 []), Mv 127 13, Op 128 (.append 1 24 (.t 126) (.t 127)), Mv 22 128]
 (.seq (.draw [⟨7, Mv 137 17, (.quiet [0])⟩,
 ⟨6, Mv 136 12, (.quiet [0])⟩,
 ⟨8, Op 138 (.indexAddr 2 (.t 136) (.t 137)), (.quiet [0])⟩,
 ⟨9, Op 139 (.fieldAddr 1 (.t 138)), (.quiet [0])⟩,
 ⟨10, Op 140 (.load false 1 (.t 139)), (.quiet [0])⟩,
 ⟨3, Mv 133 20, (.quiet [0])⟩,
 ⟨2, Mv 132 13, (.quiet [0])⟩,
 ⟨4, Op 134 (.indexAddr 1 (.t 132) (.t 133)), (.quiet [0])⟩,
 ⟨5, Op 135 (.load false 1 (.t 134)), (.quiet [0])⟩,
 ⟨11, Op 141 (Ca 30 [.t 135, .t 140]), (.eff)⟩,
 ⟨12, Mv 129 141, (.quiet [10])⟩,
 ⟨13, Op 142 (.extract (.t 129) 0), (.quiet [10])⟩,
 ⟨1, Mv 131 20, (.quiet [0, 10])⟩,
 ⟨0, Mv 130 22, (.quiet [0, 10])⟩,
 ⟨15, Op 144 (.indexAddr 1 (.t 130) (.t 131)), (.quiet [10])⟩,
 ⟨16, On (.store 1 (.t 144) (.t 142)), (.eff)⟩,
 ⟨14, Op 143 (.extract (.t 129) 1), (.quiet [10, 16])⟩] 0)
 (Rg [Mv 145 18, Mv 146 22, Mv 147 14, Op 148 (Ca 31 [.t 145, .t 146, .t 147])]
 (.cond (.t 148) (Rg [Op 8 (.move (.c (.bool false)))]
 (.ret))
 (.skip))))))))))))
 (.region [Mv 78 17, Op 79 (.bin (.add) (.t 78) (Ci 1)), Mv 17 79])))))))))))
 (.region [Mv 53 11, Op 54 (.bin (.add) (.t 53) (Ci 1)), Mv 11 54]))))))
 (Rg [Op 149 (Ca 10 []), Mv 8 149]
 (.ret))))))⟩
theorem ok7 : compFunc prog glb 7 p7 = some c7 := by kernel_rfl
def p8 : List Plan := [⟨[(1, .quiet [0]), (0, .quiet [0]), (2, .quiet [0]), (3, .quiet [0]), (4, .quiet [0]), (5, .quiet [0]), (10, .quiet [0]), (11, .quiet [0]), (7, .quiet [0]), (6, .quiet [0]), (8, .quiet [0]), (9, .quiet [0]), (12, .quiet [0]), (13, .quiet [0]), (14, .quiet [0]), (21, .quiet [0]), (20, .quiet [0]), (22, .quiet [0]), (23, .quiet [0]), (19, .quiet [0]), (24, .quiet [0]), (25, .quiet [0]), (16, .quiet [0]), (15, .quiet [0]), (17, .quiet [0]), (18, .quiet [0]), (26, .quiet [0]), (27, .quiet [0])], 0, [0, 0, 3, 7, 15, 31, 63, 63, 255, 511, 63, 1087, 4095, 8191, 16383, 32767, 32767, 131071, 262143, 32767, 32767, 32767, 3178495, 7372799, 16285695, 33062911, 67108863, 134217727]⟩]
def c8 : CFunc := ⟨117, [.tmp 6],
 Rg [Op 6 (.move (.c (.bool false)))]
 (.seq (Rg [Mv 17 0, Op 18 (.bin (.lss) (.t 17) (Ci 1)), Mv 19 18, Mf 20 0 19, Of 21 (.bin (.gtr) (.t 20) (Ci 8)) 19, Op 22 (.pick (.t 19) (.c (.bool true)) (.t 21)), Mv 23 22, Mf 24 1 23, Of 25 (.len (.slice) (.t 24)) 23, Of 26 (.bin (.gtr) (.t 25) (Ci 40)) 23, Op 27 (.pick (.t 23) (.c (.bool true)) (.t 26)), Mv 28 27, Mf 29 2 28, Of 30 (.len (.slice) (.t 29)) 28, Of 31 (.bin (.gtr) (.t 30) (Ci 60)) 28, Op 32 (.pick (.t 28) (.c (.bool true)) (.t 31))]
 (.cond (.t 32) (Rg [Op 33 (Ca 10 []), Mv 6 33]
 (.ret))
 (.skip)))
 (Rg [Mv 35 0, Mv 36 1, Op 37 (Ca 15 [.c (.bool false), .t 35, .t 36]), Mv 34 37, Op 38 (.extract (.t 34) 0), Op 39 (.extract (.t 34) 1), Mv 7 38, Mv 8 39]
 (.seq (Rg [Mv 40 7, Op 41 (.eq (.ptr) false (.t 40) (.c (.nilPtr)))]
 (.cond (.t 41) (Rg [Op 6 (.move (.c (.bool false)))]
 (.ret))
 (.skip)))
 (.seq (Rg [Op 9 (.move (Ci 0))]
 (.block 0 (.loop (.seq (Rg [Mv 42 9, Mv 43 2, Op 44 (.len (.slice) (.t 43)), Op 45 (.bin (.lss) (.t 42) (.t 44))]
 (.cond (.t 45) (.skip)
 (.exit 0)))
 (.seq (.block 1 (Rg [Mv 48 7, Mv 49 8, Mv 50 2, Mv 51 9, Op 52 (.indexAddr 1 (.t 50) (.t 51)), Op 53 (.load false 1 (.t 52)), Mv 54 0, Op 55 (Ca 16 [.t 53, .t 54]), Op 56 (Ca 13 [.t 48, .t 49, .t 55])]
 (Rg [Mv 58 7, Op 59 (Ca 22 [.t 58]), Mv 57 59, Op 60 (.extract (.t 57) 0), Op 61 (.extract (.t 57) 1), Op 62 (.extract (.t 57) 2), Mv 10 60, Mv 11 61, Mv 12 62]
 (Rg [Mv 63 7, Op 64 (Ca 17 [.t 63]), Mv 65 10, Mv 66 12, Op 67 (Ca 32 [.t 64, .t 65, .t 66]), Mv 13 67]
 (Rg [Mv 68 7, Op 69 (Ca 18 [.t 68]), Mv 70 7, Op 71 (Ca 25 [.t 70]), Mv 14 69, Mv 15 71]
 (.seq (Rg [Mv 72 13, Op 73 (.len (.slice) (.t 72)), Mv 74 15, Op 75 (.len (.slice) (.t 74)), Op 76 (.bin (.neq) (.t 73) (.t 75))]
 (.cond (.t 76) (Rg [Op 6 (.move (.c (.bool false)))]
 (.ret))
 (.skip)))
 (.seq (Rg [Op 16 (.move (Ci 0))]
 (.block 2 (.loop (.seq (Rg [Mv 77 16, Mv 78 13, Op 79 (.len (.slice) (.t 78)), Op 80 (.bin (.lss) (.t 77) (.t 79))]
 (.cond (.t 80) (.skip)
 (.exit 2)))
 (.seq (.block 3 (.seq (.draw [⟨1, Mv 84 16, (.quiet [0])⟩,
 ⟨0, Mv 83 13, (.quiet [0])⟩,
 ⟨2, Op 85 (.indexAddr 1 (.t 83) (.t 84)), (.quiet [0])⟩,
 ⟨3, Op 86 (.load false 1 (.t 85)), (.quiet [0])⟩,
 ⟨4, Op 87 (.bin (.lss) (.t 86) (Ci 0)), (.quiet [0])⟩,
 ⟨5, Mv 88 87, (.quiet [0])⟩,
 ⟨10, Mf 93 14 88, (.quiet [0])⟩,
 ⟨11, Of 94 (.len (.slice) (.t 93)) 88, (.quiet [0])⟩,
 ⟨7, Mf 90 16 88, (.quiet [0])⟩,
 ⟨6, Mf 89 13 88, (.quiet [0])⟩,
 ⟨8, Of 91 (.indexAddr 1 (.t 89) (.t 90)) 88, (.quiet [0])⟩,
 ⟨9, Of 92 (.load false 1 (.t 91)) 88, (.quiet [0])⟩,
 ⟨12, Of 95 (.bin (.geq) (.t 92) (.t 94)) 88, (.quiet [0])⟩,
 ⟨13, Op 96 (.pick (.t 88) (.c (.bool true)) (.t 95)), (.quiet [0])⟩,
 ⟨14, Mv 97 96, (.quiet [0])⟩,
 ⟨21, Mf 104 16 97, (.quiet [0])⟩,
 ⟨20, Mf 103 13 97, (.quiet [0])⟩,
 ⟨22, Of 105 (.indexAddr 1 (.t 103) (.t 104)) 97, (.quiet [0])⟩,
 ⟨23, Of 106 (.load false 1 (.t 105)) 97, (.quiet [0])⟩,
 ⟨19, Mf 102 14 97, (.quiet [0])⟩,
 ⟨24, Of 107 (.indexAddr 1 (.t 102) (.t 106)) 97, (.quiet [0])⟩,
 ⟨25, Of 108 (.load false 1 (.t 107)) 97, (.quiet [0])⟩,
 ⟨16, Mf 99 16 97, (.quiet [0])⟩,
 ⟨15, Mf 98 15 97, (.quiet [0])⟩,
 ⟨17, Of 100 (.indexAddr 1 (.t 98) (.t 99)) 97, (.quiet [0])⟩,
 ⟨18, Of 101 (.load false 1 (.t 100)) 97, (.quiet [0])⟩,
 ⟨26, Of 109 (.bin (.neq) (.t 101) (.t 108)) 97, (.quiet [0])⟩,
 ⟨27, Op 110 (.pick (.t 97) (.c (.bool true)) (.t 109)), (.quiet [0])⟩] 0)
 (.cond (.t 110) (Rg [Op 6 (.move (.c (.bool false)))]
 (.ret))
 (.skip))))
 (.region [Mv 81 16, Op 82 (.bin (.add) (.t 81) (Ci 1)), Mv 16 82]))))))
 (Rg [Mv 111 15, Mv 112 8, Op 113 (Ca 33 [.t 112]), Op 114 (Ca 21 [.t 111, .t 113]), Op 115 (.un (.not) (.t 114))]
 (.cond (.t 115) (Rg [Op 6 (.move (.c (.bool false)))]
 (.ret))
 (.skip))))))))))
 (.region [Mv 46 9, Op 47 (.bin (.add) (.t 46) (Ci 1)), Mv 9 47]))))))
 (Rg [Op 116 (Ca 10 []), Mv 6 116]
 (.ret))))))⟩
theorem ok8 : compFunc prog glb 8 p8 = some c8 := by kernel_rfl
def p9 : List Plan := []
def c9 : CFunc := ⟨27, [.tmp 4],
 Rg [Op 4 (.move (.c (.bool false)))]
 (.seq (Rg [Mv 6 0, Op 7 (.len (.slice) (.t 6)), Op 8 (.bin (.gtr) (.t 7) (Ci 20)), Mv 9 8, Mf 10 1 9, Of 11 (.len (.slice) (.t 10)) 9, Of 12 (.bin (.gtr) (.t 11) (Ci 60)) 9, Op 13 (.pick (.t 9) (.c (.bool true)) (.t 12))]
 (.cond (.t 13) (Rg [Op 4 (.move (.c (.bool false)))]
 (.ret))
 (.skip)))
 (.seq (Rg [Op 5 (.move (Ci 0))]
 (.block 0 (.loop (.seq (Rg [Mv 14 5, Mv 15 1, Op 16 (.len (.slice) (.t 15)), Op 17 (.bin (.lss) (.t 14) (.t 16))]
 (.cond (.t 17) (.skip)
 (.exit 0)))
 (.seq (.block 1 (Rg [Mv 20 1, Mv 21 5, Op 22 (.indexAddr 3 (.t 20) (.t 21)), Op 23 (.fieldAddr 2 (.t 22)), Op 24 (.load false 1 (.t 23)), Op 25 (.len (.slice) (.t 24)), Op 26 (.bin (.gtr) (.t 25) (Ci 20))]
 (.cond (.t 26) (Rg [Op 4 (.move (.c (.bool false)))]
 (.ret))
 (.skip))))
 (.region [Mv 18 5, Op 19 (.bin (.add) (.t 18) (Ci 1)), Mv 5 19]))))))
 (Rg [Op 4 (.move (.c (.bool true)))]
 (.ret))))⟩
theorem ok9 : compFunc prog glb 9 p9 = some c9 := by kernel_rfl
def p10 : List Plan := []
def c10 : CFunc := ⟨158, [.tmp 0],
 Rg [Op 0 (.move (.c (.bool false)))]
 (Rg [Op 21 (.buildSlice [.int (.i64) 0] 1 [(0, 1, Ci 2)]), Op 22 (Ca 11 [.t 21, .c (.bool true)]), Mv 20 22, Op 23 (.extract (.t 20) 0), Op 24 (.extract (.t 20) 1), Mv 1 23, Mv 2 24]
 (Rg [Op 26 (.buildSlice [.int (.i64) 0] 1 [(0, 1, Ci 0)]), Op 27 (Ca 11 [.t 26, .c (.bool true)]), Mv 25 27, Op 28 (.extract (.t 25) 0), Op 29 (.extract (.t 25) 1), Mv 3 28, Mv 4 29]
 (.seq (Rg [Mv 30 2, Op 31 (.bin (.neq) (.t 30) (Ci 0)), Mv 32 31, Mf 33 4 32, Of 34 (.bin (.neq) (.t 33) (Ci 1)) 32, Op 35 (.pick (.t 32) (.c (.bool true)) (.t 34)), Mv 36 35, Mf 37 1 36, Of 38 (.eq (.ptr) false (.t 37) (.c (.nilPtr))) 36, Op 39 (.pick (.t 36) (.c (.bool true)) (.t 38))]
 (.cond (.t 39) (Rg [Op 0 (.move (.c (.bool false)))]
 (.ret))
 (.skip)))
 (Rg [Mv 40 1, Op 41 (.buildSlice [.int (.i64) 0] 1 [(0, 1, Ci 2)]), Op 42 (Ca 34 [.t 40, Ci 1, .t 41]), Mv 43 1, Op 44 (.buildSlice [.int (.i64) 0] 1 [(0, 1, Ci 2)]), Op 45 (Ca 34 [.t 43, Ci 2, .t 44]), Mv 46 1, Op 47 (.buildSlice [.int (.i64) 0] 1 [(0, 1, Ci 3)]), Op 48 (Ca 34 [.t 46, Ci 3, .t 47]), Mv 5 42, Mv 6 45, Mv 7 48]
 (Rg [Mv 50 1, Op 51 (.buildSlice [.int (.i64) 0] 1 [(0, 1, Ci 1)]), Op 52 (Ca 35 [.t 50, Ci 1, .t 51]), Mv 49 52, Op 53 (.extract (.t 49) 0), Op 54 (.extract (.t 49) 1), Mv 8 53, Mv 9 54]
 (Rg [Mv 56 1, Op 57 (.buildSlice [.int (.i64) 0] 1 [(0, 1, Ci 1)]), Op 58 (Ca 35 [.t 56, Ci 2, .t 57]), Mv 55 58, Op 59 (.extract (.t 55) 0), Op 60 (.extract (.t 55) 1), Mv 10 59, Mv 11 60]
 (Rg [Mv 62 1, Op 63 (.buildSlice [.int (.i64) 0] 1 [(0, 1, Ci 2)]), Op 64 (Ca 35 [.t 62, Ci 1, .t 63]), Mv 61 64, Op 65 (.extract (.t 61) 0), Op 66 (.extract (.t 61) 1), Mv 12 65, Mv 13 66]
 (Rg [Mv 68 1, Op 69 (.buildSlice [.int (.i64) 0] 1 [(0, 1, Ci 2)]), Op 70 (Ca 36 [.t 68, Ci 1, .t 69]), Mv 67 70, Op 71 (.extract (.t 67) 0), Op 72 (.extract (.t 67) 1), Mv 14 71, Mv 15 72]
 (.seq (Rg [Mv 73 5, Op 74 (.bin (.neq) (.t 73) (Ci 0)), Mv 75 74, Mf 76 6 75, Of 77 (.bin (.neq) (.t 76) (Ci 0)) 75, Op 78 (.pick (.t 75) (.c (.bool true)) (.t 77)), Mv 79 78, Mf 80 7 79, Of 81 (.bin (.neq) (.t 80) (Ci 35)) 79, Op 82 (.pick (.t 79) (.c (.bool true)) (.t 81)), Mv 83 82, Mf 84 9 83, Of 85 (.bin (.neq) (.t 84) (Ci 0)) 83, Op 86 (.pick (.t 83) (.c (.bool true)) (.t 85)), Mv 87 86, Mf 88 11 87, Of 89 (.bin (.neq) (.t 88) (Ci 0)) 87, Op 90 (.pick (.t 87) (.c (.bool true)) (.t 89)), Mv 91 90, Mf 92 13 91, Of 93 (.bin (.neq) (.t 92) (Ci 35)) 91, Op 94 (.pick (.t 91) (.c (.bool true)) (.t 93)), Mv 95 94, Mf 96 15 95, Of 97 (.bin (.neq) (.t 96) (Ci 36)) 95, Op 98 (.pick (.t 95) (.c (.bool true)) (.t 97)), Mv 99 98, Mf 100 8 99, Of 101 (.buildSlice [.int (.i64) 0] 1 [(0, 1, Ci 1)]) 99, Of 102 (Ca 21 [.t 100, .t 101]) 99, Of 103 (.un (.not) (.t 102)) 99, Op 104 (.pick (.t 99) (.c (.bool true)) (.t 103)), Mv 105 104, Mf 106 10 105, Of 107 (.len (.slice) (.t 106)) 105, Of 108 (.bin (.neq) (.t 107) (Ci 0)) 105, Op 109 (.pick (.t 105) (.c (.bool true)) (.t 108)), Mv 110 109, Mf 111 1 110, Of 112 (Ca 26 [.t 111]) 110, Of 113 (.len (.slice) (.t 112)) 110, Of 114 (.bin (.neq) (.t 113) (Ci 1)) 110, Op 115 (.pick (.t 110) (.c (.bool true)) (.t 114))]
 (.cond (.t 115) (Rg [Op 0 (.move (.c (.bool false)))]
 (.ret))
 (.skip)))
 (Rg [Mv 117 1, Op 118 (Ca 37 [.t 117, Ci 1]), Mv 116 118, Op 119 (.extract (.t 116) 0), Op 120 (.extract (.t 116) 1), Mv 16 119, Mv 17 120]
 (Rg [Mv 122 1, Op 123 (Ca 37 [.t 122, Ci 1]), Mv 121 123, Op 124 (.extract (.t 121) 0), Op 125 (.extract (.t 121) 1), Mv 18 124, Mv 19 125]
 (Rg [Mv 126 17, Mv 127 126, Mt 128 19 127, Ot 129 (.un (.not) (.t 128)) 127, Op 130 (.pick (.t 127) (.t 129) (.c (.bool false))), Mv 131 130, Mt 132 16 131, Ot 133 (.buildSlice [.int (.i64) 0] 1 [(0, 1, Ci 2)]) 131, Ot 134 (Ca 21 [.t 132, .t 133]) 131, Op 135 (.pick (.t 131) (.t 134) (.c (.bool false))), Mv 136 135, Mt 137 1 136, Ot 138 (Ca 19 [.t 137, Ci 2]) 136, Ot 139 (.buildSlice [.int (.i64) 0] 1 [(0, 1, Ci 1)]) 136, Ot 140 (Ca 21 [.t 138, .t 139]) 136, Op 141 (.pick (.t 136) (.t 140) (.c (.bool false))), Mv 142 141, Mt 143 1 142, Ot 144 (Ca 17 [.t 143]) 142, Ot 145 (.buildSlice [.int (.i64) 0] 1 [(0, 1, Ci 1)]) 142, Ot 146 (Ca 21 [.t 144, .t 145]) 142, Op 147 (.pick (.t 142) (.t 146) (.c (.bool false))), Mv 148 147, Mt 149 1 148, Ot 150 (Ca 23 [.t 149]) 148, Op 151 (.pick (.t 148) (.t 150) (.c (.bool false))), Mv 152 151, Mt 153 1 152, Ot 154 (Ca 25 [.t 153]) 152, Ot 155 (.len (.slice) (.t 154)) 152, Ot 156 (.bin (.eql) (.t 155) (Ci 0)) 152, Op 157 (.pick (.t 152) (.t 156) (.c (.bool false))), Mv 0 157]
 (.ret)))))))))))))⟩
theorem ok10 : compFunc prog glb 10 p10 = some c10 := by kernel_rfl
def p11 : List Plan := []
def c11 : CFunc := ⟨25, [.tmp 4, .tmp 5],
 Rg [Op 4 (.move (.c (.nilPtr))), Op 5 (.move (Ci 0))]
 (.seq (Rg [Mv 6 0, Op 7 (.len (.slice) (.t 6)), Op 8 (.bin (.gtr) (.t 7) (Ci 6)), Mv 9 8, Mf 10 0 9, Mf 11 0 9, Of 12 (.len (.slice) (.t 11)) 9, Of 13 (Ca 38 [.t 10, .t 12]) 9, Of 14 (.un (.not) (.t 13)) 9, Op 15 (.pick (.t 9) (.c (.bool true)) (.t 14)), Mv 16 15, Mf 17 0 16, Of 18 (Ca 39 [.t 17, Ci 0]) 16, Op 19 (.pick (.t 16) (.c (.bool true)) (.t 18))]
 (.cond (.t 19) (Rg [Op 4 (.move (.c (.nilPtr))), Op 5 (.move (Ci 1))]
 (.ret))
 (.skip)))
 (Rg [Mv 20 0, Op 21 (Ca 40 [.t 20]), Mv 22 1, Op 23 (.build [.nilSlice, .bool false, .int (.u32) 0, .int (.i32) 0, .int (.u32) 0, .nilSlice, .nilMap, .nilMap, .nilSlice] [(0, 1, .t 21), (1, 1, .t 22)]), Op 24 (.box (.t 23)), Mv 4 24, Op 5 (.move (Ci 0))]
 (.ret)))⟩
theorem ok11 : compFunc prog glb 11 p11 = some c11 := by kernel_rfl
def p12 : List Plan := []
def c12 : CFunc := ⟨27, [.tmp 4, .tmp 5],
 Rg [Op 4 (.move (.c (.nilPtr))), Op 5 (.move (Ci 0))]
 (.seq (Rg [Mv 6 0, Op 7 (.len (.slice) (.t 6)), Op 8 (.bin (.gtr) (.t 7) (Ci 6)), Mv 9 8, Mf 10 0 9, Mf 11 0 9, Of 12 (.len (.slice) (.t 11)) 9, Of 13 (Ca 41 [.t 10, .t 12]) 9, Of 14 (.un (.not) (.t 13)) 9, Op 15 (.pick (.t 9) (.c (.bool true)) (.t 14)), Mv 16 15, Mf 17 0 16, Of 18 (Ca 42 [.t 17, Ci 0]) 16, Op 19 (.pick (.t 16) (.c (.bool true)) (.t 18))]
 (.cond (.t 19) (Rg [Op 4 (.move (.c (.nilPtr))), Op 5 (.move (Ci 1))]
 (.ret))
 (.skip)))
 (Rg [Mv 20 0, Op 21 (Ca 43 [.t 20]), Mv 22 0, Op 23 (Ca 43 [.t 22]), Mv 24 1, Op 25 (.build [.nilSlice, .nilSlice, .bool false, .nilSlice, .nilSlice, .nilSlice, .nilSlice] [(0, 1, .t 21), (1, 1, .t 23), (2, 1, .t 24)]), Op 26 (.box (.t 25)), Mv 4 26, Op 5 (.move (Ci 0))]
 (.ret)))⟩
theorem ok12 : compFunc prog glb 12 p12 = some c12 := by kernel_rfl
def p13 : List Plan := [⟨[(3, .quiet [0]), (4, .quiet [0]), (1, .quiet [0]), (2, .quiet [0]), (0, .quiet [0]), (5, .eff), (9, .quiet [0, 6]), (10, .quiet [0, 6]), (7, .quiet [0, 6]), (8, .quiet [0, 6]), (6, .quiet [0, 6]), (11, .eff), (12, .quiet [12]), (13, .quiet [12])], 0, [0, 0, 2, 0, 8, 31, 0, 0, 128, 0, 512, 2047, 4095, 8191]⟩]
def c13 : CFunc := ⟨114, [.tmp 6],
 Rg [Op 5 (.box (.t 2)), Op 6 (.move (.c (.bool false)))]
 (.seq (Rg [Op 19 (.fieldAddr 0 (.t 5)), Op 20 (.load false 1 (.t 19))]
 (.block 0 (Rg [Op 22 (.bin (.eql) (.t 20) (Ci 0)), Mv 21 22]
 (.cond (.t 21) (.seq (.draw [⟨3, Op 26 (.fieldAddr 2 (.t 5)), (.quiet [0])⟩,
 ⟨4, Op 27 (.load false 1 (.t 26)), (.quiet [0])⟩,
 ⟨1, Op 24 (.fieldAddr 1 (.t 5)), (.quiet [0])⟩,
 ⟨2, Op 25 (.load false 1 (.t 24)), (.quiet [0])⟩,
 ⟨0, Mv 23 0, (.quiet [0])⟩,
 ⟨5, Op 28 (Ca 34 [.t 23, .t 25, .t 27]), (.eff)⟩,
 ⟨9, Op 32 (.fieldAddr 2 (.t 5)), (.quiet [0, 6])⟩,
 ⟨10, Op 33 (.load false 1 (.t 32)), (.quiet [0, 6])⟩,
 ⟨7, Op 30 (.fieldAddr 1 (.t 5)), (.quiet [0, 6])⟩,
 ⟨8, Op 31 (.load false 1 (.t 30)), (.quiet [0, 6])⟩,
 ⟨6, Mv 29 1, (.quiet [0, 6])⟩,
 ⟨11, Op 34 (Ca 44 [.t 29, .t 31, .t 33]), (.eff)⟩,
 ⟨12, Op 35 (.bin (.eql) (.t 28) (.t 34)), (.quiet [12])⟩,
 ⟨13, Mv 6 35, (.quiet [12])⟩] 0)
 (.ret))
 (Rg [Op 37 (.bin (.eql) (.t 20) (Ci 1)), Mv 36 37]
 (.cond (.t 36) (Rg [Mv 39 0, Op 40 (.fieldAddr 1 (.t 5)), Op 41 (.load false 1 (.t 40)), Op 42 (.fieldAddr 2 (.t 5)), Op 43 (.load false 1 (.t 42)), Op 44 (Ca 35 [.t 39, .t 41, .t 43]), Mv 38 44, Op 45 (.extract (.t 38) 0), Op 46 (.extract (.t 38) 1), Mv 7 45, Mv 8 46]
 (Rg [Mv 48 1, Op 49 (.fieldAddr 1 (.t 5)), Op 50 (.load false 1 (.t 49)), Op 51 (.fieldAddr 2 (.t 5)), Op 52 (.load false 1 (.t 51)), Op 53 (Ca 45 [.t 48, .t 50, .t 52]), Mv 47 53, Op 54 (.extract (.t 47) 0), Op 55 (.extract (.t 47) 1), Mv 9 54, Mv 10 55]
 (Rg [Mv 56 7, Mv 57 9, Op 58 (Ca 21 [.t 56, .t 57]), Mv 59 58, Mt 60 8 59, Mt 61 10 59, Ot 62 (.bin (.eql) (.t 60) (.t 61)) 59, Op 63 (.pick (.t 59) (.t 62) (.c (.bool false))), Mv 6 63]
 (.ret))))
 (Rg [Op 65 (.bin (.eql) (.t 20) (Ci 2)), Mv 64 65]
 (.cond (.t 64) (Rg [Mv 67 0, Op 68 (.fieldAddr 1 (.t 5)), Op 69 (.load false 1 (.t 68)), Op 70 (.fieldAddr 2 (.t 5)), Op 71 (.load false 1 (.t 70)), Op 72 (Ca 36 [.t 67, .t 69, .t 71]), Mv 66 72, Op 73 (.extract (.t 66) 0), Op 74 (.extract (.t 66) 1), Mv 11 73, Mv 12 74]
 (Rg [Mv 76 1, Op 77 (.fieldAddr 1 (.t 5)), Op 78 (.load false 1 (.t 77)), Op 79 (.fieldAddr 2 (.t 5)), Op 80 (.load false 1 (.t 79)), Op 81 (Ca 46 [.t 76, .t 78, .t 80]), Mv 75 81, Op 82 (.extract (.t 75) 0), Op 83 (.extract (.t 75) 1), Mv 13 82, Mv 14 83]
 (Rg [Mv 84 11, Mv 85 13, Op 86 (Ca 21 [.t 84, .t 85]), Mv 87 86, Mt 88 12 87, Mt 89 14 87, Ot 90 (.bin (.eql) (.t 88) (.t 89)) 87, Op 91 (.pick (.t 87) (.t 90) (.c (.bool false))), Mv 6 91]
 (.ret))))
 (.skip)))))))))
 (Rg [Mv 93 0, Op 94 (.fieldAddr 1 (.t 5)), Op 95 (.load false 1 (.t 94)), Op 96 (Ca 37 [.t 93, .t 95]), Mv 92 96, Op 97 (.extract (.t 92) 0), Op 98 (.extract (.t 92) 1), Mv 15 97, Mv 16 98]
 (Rg [Mv 100 1, Op 101 (.fieldAddr 1 (.t 5)), Op 102 (.load false 1 (.t 101)), Op 103 (Ca 47 [.t 100, .t 102]), Mv 99 103, Op 104 (.extract (.t 99) 0), Op 105 (.extract (.t 99) 1), Mv 17 104, Mv 18 105]
 (Rg [Mv 106 15, Mv 107 17, Op 108 (Ca 21 [.t 106, .t 107]), Mv 109 108, Mt 110 16 109, Mt 111 18 109, Ot 112 (.eq (.bool) false (.t 110) (.t 111)) 109, Op 113 (.pick (.t 109) (.t 112) (.c (.bool false))), Mv 6 113]
 (.ret)))))⟩
theorem ok13 : compFunc prog glb 13 p13 = some c13 := by kernel_rfl
def p14 : List Plan := [⟨[(0, .quiet [0]), (1, .eff), (2, .quiet [0, 2]), (3, .quiet [0, 2]), (4, .quiet [0, 2]), (5, .quiet [0, 2]), (6, .eff), (7, .quiet [7]), (8, .quiet [7]), (9, .quiet [7]), (10, .eff), (11, .quiet [7, 11]), (12, .quiet [7, 11]), (13, .quiet [7, 11]), (14, .quiet [7, 11]), (15, .eff), (16, .quiet [16]), (17, .quiet [16]), (18, .quiet [16]), (19, .quiet [16]), (20, .eff), (21, .quiet [16, 21]), (22, .eff), (23, .quiet [23]), (24, .quiet [23]), (25, .quiet [23]), (26, .quiet [23]), (27, .eff), (28, .quiet [23, 28]), (29, .eff), (30, .eff), (31, .quiet [31]), (32, .quiet [31])], 0, [0, 1, 0, 4, 12, 28, 63, 127, 255, 511, 1023, 511, 2559, 6655, 14847, 32767, 65535, 131071, 262143, 524287, 1048575, 524287, 4194303, 8388607, 16777215, 33554431, 67108863, 134217727, 67108863, 536870911, 1073741823, 2147483647, 4294967295]⟩, ⟨[(9, .quiet [0]), (5, .quiet [0]), (6, .quiet [0]), (7, .quiet [0]), (8, .quiet [0]), (10, .quiet [0]), (11, .quiet [0]), (12, .quiet [0]), (1, .quiet [0]), (0, .quiet [0]), (2, .quiet [0]), (3, .quiet [0]), (4, .quiet [0]), (13, .quiet [0]), (14, .quiet [0]), (24, .quiet [0]), (20, .quiet [0]), (21, .quiet [0]), (22, .quiet [0]), (23, .quiet [0]), (25, .quiet [0]), (26, .quiet [0]), (27, .quiet [0]), (16, .quiet [0]), (15, .quiet [0]), (17, .quiet [0]), (18, .quiet [0]), (19, .quiet [0]), (28, .eff), (29, .quiet [29]), (30, .quiet [29])], 0, [0, 0, 3, 7, 15, 0, 32, 96, 224, 0, 992, 2016, 4064, 8191, 16383, 32767, 32767, 131071, 262143, 524287, 32767, 1081343, 3178495, 7372799, 32767, 32538623, 66093055, 133201919, 268435455, 536870911, 1073741823]⟩, ⟨[(5, .quiet [0]), (1, .quiet [0]), (2, .quiet [0]), (3, .quiet [0]), (4, .quiet [0]), (6, .quiet [0]), (7, .quiet [0]), (0, .quiet [0]), (8, .eff), (13, .quiet [0, 9]), (9, .quiet [0, 9]), (10, .quiet [0, 9]), (11, .quiet [0, 9]), (12, .quiet [0, 9]), (14, .quiet [0, 9]), (15, .quiet [0, 9]), (16, .eff), (17, .quiet [17]), (18, .quiet [17]), (24, .quiet [17]), (20, .quiet [17]), (21, .quiet [17]), (22, .quiet [17]), (23, .quiet [17]), (25, .quiet [17]), (26, .quiet [17]), (19, .quiet [17]), (27, .eff), (32, .quiet [17, 28]), (28, .quiet [17, 28]), (29, .quiet [17, 28]), (30, .quiet [17, 28]), (31, .quiet [17, 28]), (33, .quiet [17, 28]), (34, .quiet [17, 28]), (35, .eff), (36, .quiet [36]), (37, .quiet [36])], 0, [0, 0, 2, 6, 14, 0, 62, 126, 255, 0, 512, 1536, 3584, 0, 15872, 32256, 65535, 131071, 262143, 524287, 524287, 1572863, 3670015, 7864319, 524287, 33030143, 66584575, 134217727, 524287, 268959743, 805830655, 1879572479, 524287, 8322023423, 16911958015, 34359738367, 68719476735, 137438953471]⟩]
def c14 : CFunc := ⟨145, [.tmp 4],
 Rg [Op 4 (.move (.c (.bool false)))]
 (.seq (.seq (.draw [⟨0, Mv 8 0, (.quiet [0])⟩,
 ⟨1, Op 9 (Ca 17 [.t 8]), (.eff)⟩,
 ⟨2, Mv 10 1, (.quiet [0, 2])⟩,
 ⟨3, Op 11 (.nilCheck (.t 10)), (.quiet [0, 2])⟩,
 ⟨4, Op 12 (.fieldAddr 1 (.t 11)), (.quiet [0, 2])⟩,
 ⟨5, Op 13 (.load false 1 (.t 12)), (.quiet [0, 2])⟩,
 ⟨6, Op 14 (Ca 21 [.t 9, .t 13]), (.eff)⟩,
 ⟨7, Op 15 (.un (.not) (.t 14)), (.quiet [7])⟩,
 ⟨8, Mv 16 15, (.quiet [7])⟩,
 ⟨9, Mf 17 0 16, (.quiet [7])⟩,
 ⟨10, Of 18 (Ca 18 [.t 17]) 16, (.eff)⟩,
 ⟨11, Mf 19 1 16, (.quiet [7, 11])⟩,
 ⟨12, Of 20 (.nilCheck (.t 19)) 16, (.quiet [7, 11])⟩,
 ⟨13, Of 21 (.fieldAddr 3 (.t 20)) 16, (.quiet [7, 11])⟩,
 ⟨14, Of 22 (.load false 1 (.t 21)) 16, (.quiet [7, 11])⟩,
 ⟨15, Of 23 (Ca 21 [.t 18, .t 22]) 16, (.eff)⟩,
 ⟨16, Of 24 (.un (.not) (.t 23)) 16, (.quiet [16])⟩,
 ⟨17, Op 25 (.pick (.t 16) (.c (.bool true)) (.t 24)), (.quiet [16])⟩,
 ⟨18, Mv 26 25, (.quiet [16])⟩,
 ⟨19, Mf 27 0 26, (.quiet [16])⟩,
 ⟨20, Of 28 (Ca 23 [.t 27]) 26, (.eff)⟩,
 ⟨21, Mf 29 1 26, (.quiet [16, 21])⟩,
 ⟨22, Of 30 (Ca 48 [.t 29]) 26, (.eff)⟩,
 ⟨23, Of 31 (.eq (.bool) true (.t 28) (.t 30)) 26, (.quiet [23])⟩,
 ⟨24, Op 32 (.pick (.t 26) (.c (.bool true)) (.t 31)), (.quiet [23])⟩,
 ⟨25, Mv 33 32, (.quiet [23])⟩,
 ⟨26, Mf 34 0 33, (.quiet [23])⟩,
 ⟨27, Of 35 (Ca 25 [.t 34]) 33, (.eff)⟩,
 ⟨28, Mf 36 1 33, (.quiet [23, 28])⟩,
 ⟨29, Of 37 (Ca 33 [.t 36]) 33, (.eff)⟩,
 ⟨30, Of 38 (Ca 21 [.t 35, .t 37]) 33, (.eff)⟩,
 ⟨31, Of 39 (.un (.not) (.t 38)) 33, (.quiet [31])⟩,
 ⟨32, Op 40 (.pick (.t 33) (.c (.bool true)) (.t 39)), (.quiet [31])⟩] 0)
 (.cond (.t 40) (Rg [Op 4 (.move (.c (.bool false)))]
 (.ret))
 (.skip)))
 (Rg [Mv 41 0, Op 42 (Ca 26 [.t 41]), Mv 5 42]
 (.seq (Rg [Mv 43 5, Op 44 (.len (.slice) (.t 43)), Mv 45 1, Op 46 (.nilCheck (.t 45)), Op 47 (.fieldAddr 6 (.t 46)), Op 48 (.load false 1 (.t 47)), Op 49 (.len (.slice) (.t 48)), Op 50 (.bin (.neq) (.t 44) (.t 49))]
 (.cond (.t 50) (Rg [Op 4 (.move (.c (.bool false)))]
 (.ret))
 (.skip)))
 (.seq (Rg [Op 6 (.move (Ci 0))]
 (.block 0 (.loop (.seq (Rg [Mv 51 6, Mv 52 5, Op 53 (.len (.slice) (.t 52)), Op 54 (.bin (.lss) (.t 51) (.t 53))]
 (.cond (.t 54) (.skip)
 (.exit 0)))
 (.seq (.block 1 (.seq (.draw [⟨9, Mv 66 6, (.quiet [0])⟩,
 ⟨5, Mv 62 1, (.quiet [0])⟩,
 ⟨6, Op 63 (.nilCheck (.t 62)), (.quiet [0])⟩,
 ⟨7, Op 64 (.fieldAddr 6 (.t 63)), (.quiet [0])⟩,
 ⟨8, Op 65 (.load false 1 (.t 64)), (.quiet [0])⟩,
 ⟨10, Op 67 (.indexAddr 2 (.t 65) (.t 66)), (.quiet [0])⟩,
 ⟨11, Op 68 (.fieldAddr 0 (.t 67)), (.quiet [0])⟩,
 ⟨12, Op 69 (.load false 1 (.t 68)), (.quiet [0])⟩,
 ⟨1, Mv 58 6, (.quiet [0])⟩,
 ⟨0, Mv 57 5, (.quiet [0])⟩,
 ⟨2, Op 59 (.indexAddr 2 (.t 57) (.t 58)), (.quiet [0])⟩,
 ⟨3, Op 60 (.fieldAddr 0 (.t 59)), (.quiet [0])⟩,
 ⟨4, Op 61 (.load false 1 (.t 60)), (.quiet [0])⟩,
 ⟨13, Op 70 (.bin (.neq) (.t 61) (.t 69)), (.quiet [0])⟩,
 ⟨14, Mv 71 70, (.quiet [0])⟩,
 ⟨24, Mf 81 6 71, (.quiet [0])⟩,
 ⟨20, Mf 77 1 71, (.quiet [0])⟩,
 ⟨21, Of 78 (.nilCheck (.t 77)) 71, (.quiet [0])⟩,
 ⟨22, Of 79 (.fieldAddr 6 (.t 78)) 71, (.quiet [0])⟩,
 ⟨23, Of 80 (.load false 1 (.t 79)) 71, (.quiet [0])⟩,
 ⟨25, Of 82 (.indexAddr 2 (.t 80) (.t 81)) 71, (.quiet [0])⟩,
 ⟨26, Of 83 (.fieldAddr 1 (.t 82)) 71, (.quiet [0])⟩,
 ⟨27, Of 84 (.load false 1 (.t 83)) 71, (.quiet [0])⟩,
 ⟨16, Mf 73 6 71, (.quiet [0])⟩,
 ⟨15, Mf 72 5 71, (.quiet [0])⟩,
 ⟨17, Of 74 (.indexAddr 2 (.t 72) (.t 73)) 71, (.quiet [0])⟩,
 ⟨18, Of 75 (.fieldAddr 1 (.t 74)) 71, (.quiet [0])⟩,
 ⟨19, Of 76 (.load false 1 (.t 75)) 71, (.quiet [0])⟩,
 ⟨28, Of 85 (Ca 21 [.t 76, .t 84]) 71, (.eff)⟩,
 ⟨29, Of 86 (.un (.not) (.t 85)) 71, (.quiet [29])⟩,
 ⟨30, Op 87 (.pick (.t 71) (.c (.bool true)) (.t 86)), (.quiet [29])⟩] 0)
 (.cond (.t 87) (Rg [Op 4 (.move (.c (.bool false)))]
 (.ret))
 (.skip))))
 (.region [Mv 55 6, Op 56 (.bin (.add) (.t 55) (Ci 1)), Mv 6 56]))))))
 (.seq (Rg [Op 7 (.move (Ci 0))]
 (.block 2 (.loop (.seq (Rg [Mv 88 7, Mv 89 1, Op 90 (.nilCheck (.t 89)), Op 91 (.fieldAddr 3 (.t 90)), Op 92 (.load false 1 (.t 91)), Op 93 (.len (.slice) (.t 92)), Op 94 (.bin (.lss) (.t 88) (.t 93))]
 (.cond (.t 94) (.skip)
 (.exit 2)))
 (.seq (.block 3 (.seq (.draw [⟨5, Mv 102 7, (.quiet [0])⟩,
 ⟨1, Mv 98 1, (.quiet [0])⟩,
 ⟨2, Op 99 (.nilCheck (.t 98)), (.quiet [0])⟩,
 ⟨3, Op 100 (.fieldAddr 3 (.t 99)), (.quiet [0])⟩,
 ⟨4, Op 101 (.load false 1 (.t 100)), (.quiet [0])⟩,
 ⟨6, Op 103 (.indexAddr 1 (.t 101) (.t 102)), (.quiet [0])⟩,
 ⟨7, Op 104 (.load false 1 (.t 103)), (.quiet [0])⟩,
 ⟨0, Mv 97 0, (.quiet [0])⟩,
 ⟨8, Op 105 (Ca 19 [.t 97, .t 104]), (.eff)⟩,
 ⟨13, Mv 110 7, (.quiet [0, 9])⟩,
 ⟨9, Mv 106 1, (.quiet [0, 9])⟩,
 ⟨10, Op 107 (.nilCheck (.t 106)), (.quiet [0, 9])⟩,
 ⟨11, Op 108 (.fieldAddr 4 (.t 107)), (.quiet [0, 9])⟩,
 ⟨12, Op 109 (.load false 1 (.t 108)), (.quiet [0, 9])⟩,
 ⟨14, Op 111 (.indexAddr 1 (.t 109) (.t 110)), (.quiet [0, 9])⟩,
 ⟨15, Op 112 (.load false 1 (.t 111)), (.quiet [0, 9])⟩,
 ⟨16, Op 113 (Ca 21 [.t 105, .t 112]), (.eff)⟩,
 ⟨17, Op 114 (.un (.not) (.t 113)), (.quiet [17])⟩,
 ⟨18, Mv 115 114, (.quiet [17])⟩,
 ⟨24, Mf 121 7 115, (.quiet [17])⟩,
 ⟨20, Mf 117 1 115, (.quiet [17])⟩,
 ⟨21, Of 118 (.nilCheck (.t 117)) 115, (.quiet [17])⟩,
 ⟨22, Of 119 (.fieldAddr 3 (.t 118)) 115, (.quiet [17])⟩,
 ⟨23, Of 120 (.load false 1 (.t 119)) 115, (.quiet [17])⟩,
 ⟨25, Of 122 (.indexAddr 1 (.t 120) (.t 121)) 115, (.quiet [17])⟩,
 ⟨26, Of 123 (.load false 1 (.t 122)) 115, (.quiet [17])⟩,
 ⟨19, Mf 116 0 115, (.quiet [17])⟩,
 ⟨27, Of 124 (Ca 20 [.t 116, .t 123]) 115, (.eff)⟩,
 ⟨32, Mf 129 7 115, (.quiet [17, 28])⟩,
 ⟨28, Mf 125 1 115, (.quiet [17, 28])⟩,
 ⟨29, Of 126 (.nilCheck (.t 125)) 115, (.quiet [17, 28])⟩,
 ⟨30, Of 127 (.fieldAddr 5 (.t 126)) 115, (.quiet [17, 28])⟩,
 ⟨31, Of 128 (.load false 1 (.t 127)) 115, (.quiet [17, 28])⟩,
 ⟨33, Of 130 (.indexAddr 1 (.t 128) (.t 129)) 115, (.quiet [17, 28])⟩,
 ⟨34, Of 131 (.load false 1 (.t 130)) 115, (.quiet [17, 28])⟩,
 ⟨35, Of 132 (Ca 21 [.t 124, .t 131]) 115, (.eff)⟩,
 ⟨36, Of 133 (.un (.not) (.t 132)) 115, (.quiet [36])⟩,
 ⟨37, Op 134 (.pick (.t 115) (.c (.bool true)) (.t 133)), (.quiet [36])⟩] 0)
 (.cond (.t 134) (Rg [Op 4 (.move (.c (.bool false)))]
 (.ret))
 (.skip))))
 (.region [Mv 95 7, Op 96 (.bin (.add) (.t 95) (Ci 1)), Mv 7 96]))))))
 (Rg [Mv 135 0, Op 136 (Ca 19 [.t 135, Ci 0]), Op 137 (.len (.slice) (.t 136)), Op 138 (.bin (.eql) (.t 137) (Ci 0)), Mv 139 138, Mt 140 0 139, Ot 141 (Ca 20 [.t 140, .c (.int (.i64) (-1))]) 139, Ot 142 (.len (.slice) (.t 141)) 139, Ot 143 (.bin (.eql) (.t 142) (Ci 0)) 139, Op 144 (.pick (.t 139) (.t 143) (.c (.bool false))), Mv 4 144]
 (.ret)))))))⟩
theorem ok14 : compFunc prog glb 14 p14 = some c14 := by kernel_rfl
def p15 : List Plan := [⟨[(3, .quiet [0]), (4, .quiet [0]), (5, .quiet [0]), (6, .quiet [0]), (1, .quiet [0]), (2, .quiet [0]), (0, .quiet [0]), (7, .eff), (12, .quiet [0, 8]), (13, .quiet [0, 8]), (14, .quiet [0, 8]), (15, .quiet [0, 8]), (9, .quiet [0, 8]), (10, .quiet [0, 8]), (11, .quiet [0, 8]), (8, .quiet [0, 8]), (16, .eff), (17, .eff), (18, .quiet [18])], 0, [0, 0, 2, 0, 8, 24, 56, 127, 0, 0, 512, 1536, 0, 4096, 12288, 28672, 65535, 131071, 262143]⟩]
def c15 : CFunc := ⟨72, [.tmp 6, .tmp 7],
 Rg [Op 6 (.move (.c (.nilPtr))), Op 7 (.move (.c (.nilPtr)))]
 (Rg [Mv 15 2, Op 16 (Ca 49 [.t 15, Ci 0, Ci 4]), Op 17 (.bin (.add) (Ci 1) (.t 16)), Mv 18 2, Op 19 (Ca 49 [.t 18, Ci 1, Ci 3]), Op 20 (.bin (.add) (Ci 1) (.t 19)), Op 21 (.buildSlice [.int (.i64) 0] 2 [(0, 1, .t 17), (1, 1, .t 20)]), Mv 8 21]
 (Rg [Mv 23 8, Mv 24 0, Op 25 (Ca 11 [.t 23, .t 24]), Mv 22 25, Op 26 (.extract (.t 22) 0), Op 27 (.extract (.t 22) 1), Mv 9 26, Mv 10 27]
 (Rg [Mv 29 8, Mv 30 0, Op 31 (Ca 12 [.t 29, .t 30]), Mv 28 31, Op 32 (.extract (.t 28) 0), Op 33 (.extract (.t 28) 1), Mv 11 32, Mv 12 33]
 (.seq (Rg [Op 13 (.move (Ci 1))]
 (.block 0 (.loop (.seq (Rg [Mv 34 13, Mv 35 1, Op 36 (.bin (.leq) (.t 34) (.t 35))]
 (.cond (.t 36) (.skip)
 (.exit 0)))
 (.seq (.block 1 (.seq (.draw [⟨3, Mv 42 8, (.quiet [0])⟩,
 ⟨4, Op 43 (.indexAddr 1 (.t 42) (Ci 0)), (.quiet [0])⟩,
 ⟨5, Op 44 (.load false 1 (.t 43)), (.quiet [0])⟩,
 ⟨6, Op 45 (.bin (.add) (.t 44) (Ci 1)), (.quiet [0])⟩,
 ⟨1, Mv 40 13, (.quiet [0])⟩,
 ⟨2, Op 41 (.bin (.mul) (Ci 2) (.t 40)), (.quiet [0])⟩,
 ⟨0, Mv 39 2, (.quiet [0])⟩,
 ⟨7, Op 46 (Ca 49 [.t 39, .t 41, .t 45]), (.eff)⟩,
 ⟨12, Mv 51 8, (.quiet [0, 8])⟩,
 ⟨13, Op 52 (.indexAddr 1 (.t 51) (Ci 1)), (.quiet [0, 8])⟩,
 ⟨14, Op 53 (.load false 1 (.t 52)), (.quiet [0, 8])⟩,
 ⟨15, Op 54 (.bin (.add) (.t 53) (Ci 1)), (.quiet [0, 8])⟩,
 ⟨9, Mv 48 13, (.quiet [0, 8])⟩,
 ⟨10, Op 49 (.bin (.mul) (Ci 2) (.t 48)), (.quiet [0, 8])⟩,
 ⟨11, Op 50 (.bin (.add) (.t 49) (Ci 1)), (.quiet [0, 8])⟩,
 ⟨8, Mv 47 2, (.quiet [0, 8])⟩,
 ⟨16, Op 55 (Ca 49 [.t 47, .t 50, .t 54]), (.eff)⟩,
 ⟨17, Op 56 (.buildSlice [.int (.i64) 0] 2 [(0, 1, .t 46), (1, 1, .t 55)]), (.eff)⟩,
 ⟨18, Mv 14 56, (.quiet [18])⟩] 0)
 (Rg [Mv 57 9, Op 58 (.eq (.ptr) false (.t 57) (.c (.nilPtr))), Mv 59 58, Mf 60 9 59, Mf 61 13 59, Mf 62 14 59, Of 63 (Ca 34 [.t 60, .t 61, .t 62]) 59, Mf 64 11 59, Mf 65 13 59, Mf 66 14 59, Of 67 (Ca 44 [.t 64, .t 65, .t 66]) 59, Of 68 (.bin (.neq) (.t 63) (.t 67)) 59, Op 69 (.pick (.t 59) (.c (.bool true)) (.t 68))]
 (.cond (.t 69) (Rg [Op 6 (.move (.c (.nilPtr))), Op 7 (.move (.c (.nilPtr)))]
 (.ret))
 (.skip)))))
 (.region [Mv 37 13, Op 38 (.bin (.add) (.t 37) (Ci 1)), Mv 13 38]))))))
 (Rg [Mv 70 9, Mv 71 11, Mv 6 70, Mv 7 71]
 (.ret))))))⟩
theorem ok15 : compFunc prog glb 15 p15 = some c15 := by kernel_rfl
def p16 : List Plan := []
def c16 : CFunc := ⟨33, [.cell 4 true 3],
 Rg [Op 4 (.new [.int (.i64) 0, .int (.i64) 0, .nilSlice])]
 (.seq (Rg [Mv 6 0, Op 7 (.bin (.lss) (.t 6) (Ci 0))]
 (.cond (.t 7) (.region [Mv 8 0, Op 9 (.bin (.add) (.t 8) (Ci 1)), Op 10 (.un (.neg) (.t 9)), Mv 0 10])
 (.skip)))
 (Rg [Mv 11 0, Op 12 (.bin (.rem) (.t 11) (Ci 2)), Op 13 (.bin (.add) (Ci 1) (.t 12)), Mv 14 0, Op 15 (.bin (.quo) (.t 14) (Ci 2)), Mv 16 1, Op 17 (.bin (.rem) (.t 15) (.t 16)), Op 18 (.bin (.add) (Ci 1) (.t 17)), Mv 19 0, Op 20 (.bin (.quo) (.t 19) (Ci 64)), Op 21 (.bin (.rem) (.t 20) (Ci 3)), Mv 22 0, Op 23 (.bin (.quo) (.t 22) (Ci 256)), Op 24 (.bin (.rem) (.t 23) (Ci 2)), Op 25 (.buildSlice [.int (.i64) 0] 2 [(0, 1, .t 21), (1, 1, .t 24)]), Op 26 (.build [.int (.i64) 0, .int (.i64) 0, .nilSlice] [(0, 1, .t 13), (1, 1, .t 18), (2, 1, .t 25)]), Op 5 (.new [.int (.i64) 0, .int (.i64) 0, .nilSlice]), On (.store 3 (.t 5) (.t 26))]
 (.seq (Rg [Mv 27 0, Op 28 (.bin (.quo) (.t 27) (Ci 1024)), Op 29 (.bin (.rem) (.t 28) (Ci 16)), Op 30 (.bin (.eql) (.t 29) (Ci 15))]
 (.cond (.t 30) (.region [Op 31 (.fieldAddr 0 (.t 5)), On (.store 1 (.t 31) (Ci 3))])
 (.skip)))
 (Rg [Op 32 (.load true 3 (.t 5)), On (.store 3 (.t 4) (.t 32))]
 (.ret)))))⟩
theorem ok16 : compFunc prog glb 16 p16 = some c16 := by kernel_rfl
def p17 : List Plan := []
def c17 : CFunc := ⟨12, [.tmp 2],
 Rg [Op 2 (.move (.c (.nilSlice)))]
 (.seq (Rg [Mv 3 0, Op 4 (.eq (.ptr) false (.t 3) (.c (.nilPtr)))]
 (.cond (.t 4) (Rg [Op 2 (.move (.c (.nilSlice)))]
 (.ret))
 (.skip)))
 (Rg [Mv 5 0, Op 6 (Ca 50 [.t 5])]
 (Rg [Mv 7 0, Op 8 (.nilCheck (.t 7)), Op 9 (.fieldAddr 5 (.t 8)), Op 10 (.load false 1 (.t 9)), Op 11 (Ca 40 [.t 10]), Mv 2 11]
 (.ret))))⟩
theorem ok17 : compFunc prog glb 17 p17 = some c17 := by kernel_rfl
def p18 : List Plan := []
def c18 : CFunc := ⟨13, [.tmp 2],
 Rg [Op 2 (.move (.c (.nilSlice)))]
 (.seq (Rg [Mv 3 0, Op 4 (.eq (.ptr) false (.t 3) (.c (.nilPtr)))]
 (.cond (.t 4) (Rg [Op 2 (.move (.c (.nilSlice)))]
 (.ret))
 (.skip)))
 (Rg [Mv 5 0, Op 6 (Ca 50 [.t 5])]
 (Rg [Mv 7 0, Op 8 (.nilCheck (.t 7)), Op 9 (.fieldAddr 7 (.t 8)), Op 10 (.load false 1 (.t 9)), Op 11 (Ca 52 [.t 10]), Op 12 (Ca 51 [.t 11]), Mv 2 12]
 (.ret))))⟩
theorem ok18 : compFunc prog glb 18 p18 = some c18 := by kernel_rfl
def p19 : List Plan := []
def c19 : CFunc := ⟨31, [.tmp 4],
 Rg [Op 4 (.move (.c (.nilSlice)))]
 (.seq (Rg [Mv 6 0, Mv 7 1, Op 8 (Ca 53 [.t 6, .t 7]), Op 9 (.un (.not) (.t 8))]
 (.cond (.t 9) (Rg [Op 4 (.move (.c (.nilSlice)))]
 (.ret))
 (.skip)))
 (.seq (Rg [Mv 10 0, Op 11 (.nilCheck (.t 10)), Op 12 (.fieldAddr 0 (.t 11)), Op 13 (.load false 1 (.t 12)), Op 14 (.len (.slice) (.t 13)), Op 15 (.move (Ci 0))]
 (.block 0 (.loop (Rg [Op 16 (.bin (.lss) (.t 15) (.t 14))]
 (.seq (.cond (.t 16) (.skip)
 (.exit 0))
 (.seq (.block 1 (Rg [Mv 17 15, Mv 5 17]
 (.region [Mv 18 4, Mv 19 0, Op 20 (.nilCheck (.t 19)), Op 21 (.fieldAddr 6 (.t 20)), Op 22 (.load false 1 (.t 21)), Mv 23 1, Mv 24 5, Op 25 (.build [.int (.i64) 0, .int (.i64) 0] [(0, 1, .t 23), (1, 1, .t 24)]), Op 26 (.lookup (.flat [.int, .int]) (.int (.i64) 0) false (.t 22) (.t 25)), Op 27 (.buildSlice [.int (.i64) 0] 1 [(0, 1, .t 26)]), Op 28 (.append 1 8 (.t 18) (.t 27)), Mv 4 28])))
 (.region [Op 29 (.bin (.add) (.t 15) (Ci 1)), Mv 15 29])))))))
 (Rg [Mv 30 4, Mv 4 30]
 (.ret))))⟩
theorem ok19 : compFunc prog glb 19 p19 = some c19 := by kernel_rfl
def p20 : List Plan := []
def c20 : CFunc := ⟨16, [.tmp 4],
 Rg [Op 4 (.move (.c (.nilSlice)))]
 (.seq (Rg [Mv 5 0, Mv 6 1, Op 7 (Ca 53 [.t 5, .t 6]), Op 8 (.un (.not) (.t 7))]
 (.cond (.t 8) (Rg [Op 4 (.move (.c (.nilSlice)))]
 (.ret))
 (.skip)))
 (Rg [Mv 9 0, Op 10 (.nilCheck (.t 9)), Op 11 (.fieldAddr 7 (.t 10)), Op 12 (.load false 1 (.t 11)), Mv 13 1, Op 14 (.lookup (.one (.int)) (.nilSlice) false (.t 12) (.t 13)), Op 15 (Ca 40 [.t 14]), Mv 4 15]
 (.ret)))⟩
theorem ok20 : compFunc prog glb 20 p20 = some c20 := by kernel_rfl
def p21 : List Plan := [⟨[(5, .quiet [0]), (4, .quiet [0]), (6, .quiet [0]), (7, .quiet [0]), (1, .quiet [0]), (0, .quiet [0]), (2, .quiet [0]), (3, .quiet [0]), (8, .quiet [0])], 0, [0, 0, 3, 7, 0, 0, 48, 112, 255]⟩]
def c21 : CFunc := ⟨26, [.tmp 4],
 Rg [Op 4 (.move (.c (.bool false)))]
 (.seq (Rg [Mv 6 0, Op 7 (.len (.slice) (.t 6)), Mv 8 1, Op 9 (.len (.slice) (.t 8)), Op 10 (.bin (.neq) (.t 7) (.t 9))]
 (.cond (.t 10) (Rg [Op 4 (.move (.c (.bool false)))]
 (.ret))
 (.skip)))
 (.seq (Rg [Op 5 (.move (Ci 0))]
 (.block 0 (.loop (.seq (Rg [Mv 11 5, Mv 12 0, Op 13 (.len (.slice) (.t 12)), Op 14 (.bin (.lss) (.t 11) (.t 13))]
 (.cond (.t 14) (.skip)
 (.exit 0)))
 (.seq (.block 1 (.seq (.draw [⟨5, Mv 22 5, (.quiet [0])⟩,
 ⟨4, Mv 21 1, (.quiet [0])⟩,
 ⟨6, Op 23 (.indexAddr 1 (.t 21) (.t 22)), (.quiet [0])⟩,
 ⟨7, Op 24 (.load false 1 (.t 23)), (.quiet [0])⟩,
 ⟨1, Mv 18 5, (.quiet [0])⟩,
 ⟨0, Mv 17 0, (.quiet [0])⟩,
 ⟨2, Op 19 (.indexAddr 1 (.t 17) (.t 18)), (.quiet [0])⟩,
 ⟨3, Op 20 (.load false 1 (.t 19)), (.quiet [0])⟩,
 ⟨8, Op 25 (.bin (.neq) (.t 20) (.t 24)), (.quiet [0])⟩] 0)
 (.cond (.t 25) (Rg [Op 4 (.move (.c (.bool false)))]
 (.ret))
 (.skip))))
 (.region [Mv 15 5, Op 16 (.bin (.add) (.t 15) (Ci 1)), Mv 5 16]))))))
 (Rg [Op 4 (.move (.c (.bool true)))]
 (.ret))))⟩
theorem ok21 : compFunc prog glb 21 p21 = some c21 := by kernel_rfl
def p22 : List Plan := [⟨[(6, .quiet [0]), (5, .quiet [0]), (7, .quiet [0]), (8, .quiet [0]), (1, .quiet [0]), (0, .quiet [0]), (2, .quiet [0]), (3, .quiet [0]), (4, .quiet [0]), (9, .quiet [0])], 0, [0, 0, 3, 7, 15, 0, 0, 96, 224, 511]⟩, ⟨[(3, .quiet [0]), (2, .quiet [0]), (4, .quiet [0]), (5, .quiet [0]), (1, .quiet [0]), (6, .eff), (7, .eff), (0, .quiet [0, 6, 7]), (8, .eff), (12, .quiet [0, 6, 7, 9]), (11, .quiet [0, 6, 7, 9]), (13, .quiet [0, 6, 7, 9]), (14, .quiet [0, 6, 7, 9]), (10, .quiet [0, 6, 7, 9]), (15, .eff), (16, .eff), (9, .quiet [0, 6, 7, 9, 15, 16]), (17, .eff), (19, .quiet [0, 6, 7, 9, 15, 16, 18]), (20, .alloc 0), (18, .quiet [0, 6, 7, 9, 15, 16, 18]), (21, .eff), (22, .quiet [22]), (23, .quiet [22]), (24, .quiet [22])], 1, [0, 0, 0, 0, 12, 28, 62, 126, 255, 0, 0, 0, 0, 6144, 14336, 32255, 65023, 131071, 0, 0, 524288, 2097151, 4194303, 8388607, 16777215]⟩]
def c22 : CFunc := ⟨73, [.tmp 2, .tmp 3, .tmp 4],
 Rg [Op 2 (.move (.c (.nilSlice))), Op 3 (.move (.c (.nilSlice))), Op 4 (.move (.c (.nilSlice)))]
 (Rg [Mv 13 0, Op 14 (Ca 18 [.t 13]), Mv 15 0, Op 16 (Ca 26 [.t 15]), Mv 5 14, Mv 6 16]
 (Rg [Op 17 (.buildSlice [.nilSlice] 0 []), Op 18 (.buildSlice [.nilSlice] 0 []), Op 19 (.buildSlice [.nilSlice] 0 []), Mv 7 17, Mv 8 18, Mv 9 19]
 (.seq (Rg [Op 10 (.move (Ci 0))]
 (.block 0 (.loop (.seq (Rg [Mv 20 10, Mv 21 5, Op 22 (.len (.slice) (.t 21)), Op 23 (.bin (.lss) (.t 20) (.t 22))]
 (.cond (.t 23) (.skip)
 (.exit 0)))
 (.seq (.block 1 (Rg [Op 26 (.buildSlice [.int (.i64) 0] 2 [(0, 1, Ci 0), (1, 1, Ci 0)]), Mv 11 26]
 (.seq (Rg [Op 12 (.move (Ci 0))]
 (.block 2 (.loop (.seq (Rg [Mv 27 12, Mv 28 6, Op 29 (.len (.slice) (.t 28)), Op 30 (.bin (.lss) (.t 27) (.t 29))]
 (.cond (.t 30) (.skip)
 (.exit 2)))
 (.seq (.block 3 (.seq (.draw [⟨6, Mv 39 10, (.quiet [0])⟩,
 ⟨5, Mv 38 5, (.quiet [0])⟩,
 ⟨7, Op 40 (.indexAddr 1 (.t 38) (.t 39)), (.quiet [0])⟩,
 ⟨8, Op 41 (.load false 1 (.t 40)), (.quiet [0])⟩,
 ⟨1, Mv 34 12, (.quiet [0])⟩,
 ⟨0, Mv 33 6, (.quiet [0])⟩,
 ⟨2, Op 35 (.indexAddr 2 (.t 33) (.t 34)), (.quiet [0])⟩,
 ⟨3, Op 36 (.fieldAddr 0 (.t 35)), (.quiet [0])⟩,
 ⟨4, Op 37 (.load false 1 (.t 36)), (.quiet [0])⟩,
 ⟨9, Op 42 (.bin (.eql) (.t 37) (.t 41)), (.quiet [0])⟩] 0)
 (.cond (.t 42) (.region [Mv 43 6, Mv 44 12, Op 45 (.indexAddr 2 (.t 43) (.t 44)), Op 46 (.fieldAddr 1 (.t 45)), Op 47 (.load false 1 (.t 46)), Mv 11 47])
 (.skip))))
 (.region [Mv 31 12, Op 32 (.bin (.add) (.t 31) (Ci 1)), Mv 12 32]))))))
 (.draw [⟨3, Mv 51 10, (.quiet [0])⟩,
 ⟨2, Mv 50 5, (.quiet [0])⟩,
 ⟨4, Op 52 (.indexAddr 1 (.t 50) (.t 51)), (.quiet [0])⟩,
 ⟨5, Op 53 (.load false 1 (.t 52)), (.quiet [0])⟩,
 ⟨1, Mv 49 0, (.quiet [0])⟩,
 ⟨6, Op 54 (Ca 19 [.t 49, .t 53]), (.eff)⟩,
 ⟨7, Op 55 (.buildSlice [.nilSlice] 1 [(0, 1, .t 54)]), (.eff)⟩,
 ⟨0, Mv 48 7, (.quiet [0, 6, 7])⟩,
 ⟨8, Op 56 (.append 1 24 (.t 48) (.t 55)), (.eff)⟩,
 ⟨12, Mv 60 10, (.quiet [0, 6, 7, 9])⟩,
 ⟨11, Mv 59 5, (.quiet [0, 6, 7, 9])⟩,
 ⟨13, Op 61 (.indexAddr 1 (.t 59) (.t 60)), (.quiet [0, 6, 7, 9])⟩,
 ⟨14, Op 62 (.load false 1 (.t 61)), (.quiet [0, 6, 7, 9])⟩,
 ⟨10, Mv 58 0, (.quiet [0, 6, 7, 9])⟩,
 ⟨15, Op 63 (Ca 20 [.t 58, .t 62]), (.eff)⟩,
 ⟨16, Op 64 (.buildSlice [.nilSlice] 1 [(0, 1, .t 63)]), (.eff)⟩,
 ⟨9, Mv 57 8, (.quiet [0, 6, 7, 9, 15, 16])⟩,
 ⟨17, Op 65 (.append 1 24 (.t 57) (.t 64)), (.eff)⟩,
 ⟨19, Mv 67 11, (.quiet [0, 6, 7, 9, 15, 16, 18])⟩,
 ⟨20, Op 68 (.buildSlice [.nilSlice] 1 [(0, 1, .t 67)]), (.alloc 0)⟩,
 ⟨18, Mv 66 9, (.quiet [0, 6, 7, 9, 15, 16, 18])⟩,
 ⟨21, Op 69 (.append 1 24 (.t 66) (.t 68)), (.eff)⟩,
 ⟨22, Mv 7 56, (.quiet [22])⟩,
 ⟨23, Mv 8 65, (.quiet [22])⟩,
 ⟨24, Mv 9 69, (.quiet [22])⟩] 1))))
 (.region [Mv 24 10, Op 25 (.bin (.add) (.t 24) (Ci 1)), Mv 10 25]))))))
 (Rg [Mv 70 7, Mv 71 8, Mv 72 9, Mv 2 70, Mv 3 71, Mv 4 72]
 (.ret)))))⟩
theorem ok22 : compFunc prog glb 22 p22 = some c22 := by kernel_rfl
def p23 : List Plan := []
def c23 : CFunc := ⟨39, [.tmp 2],
 Rg [Op 2 (.move (.c (.bool false)))]
 (.seq (Rg [Mv 7 0, Op 8 (.eq (.ptr) false (.t 7) (.c (.nilPtr)))]
 (.cond (.t 8) (Rg [Op 2 (.move (.c (.bool false)))]
 (.ret))
 (.skip)))
 (Rg [Op 3 (.move (.c (.nilSlice))), Op 4 (.move (.c (.nilSlice)))]
 (.seq (Rg [Mv 9 0, Op 10 (Ca 18 [.t 9]), Op 11 (.len (.slice) (.t 10)), Op 12 (.move (Ci 0))]
 (.block 0 (.loop (Rg [Op 13 (.bin (.lss) (.t 12) (.t 11))]
 (.seq (.cond (.t 13) (.skip)
 (.exit 0))
 (.seq (.block 1 (Rg [Op 14 (.indexAddr 1 (.t 10) (.t 12)), Op 15 (.load false 1 (.t 14)), Mv 6 15]
 (Rg [Mv 16 4, Mv 17 0, Op 18 (.nilCheck (.t 17)), Op 19 (.fieldAddr 7 (.t 18)), Op 20 (.load false 1 (.t 19)), Mv 21 6, Op 22 (.lookup (.one (.int)) (.nilSlice) false (.t 20) (.t 21)), Op 23 (.buildSlice [.nilSlice] 1 [(0, 1, .t 22)]), Op 24 (.append 1 24 (.t 16) (.t 23)), Mv 4 24]
 (.region [Mv 25 3, Mv 26 0, Mv 27 6, Op 28 (Ca 19 [.t 26, .t 27]), Op 29 (.buildSlice [.nilSlice] 1 [(0, 1, .t 28)]), Op 30 (.append 1 24 (.t 25) (.t 29)), Mv 3 30]))))
 (.region [Op 31 (.bin (.add) (.t 12) (Ci 1)), Mv 12 31])))))))
 (Rg [Mv 32 0, Op 33 (.nilCheck (.t 32)), Op 34 (.fieldAddr 5 (.t 33)), Op 35 (.load false 1 (.t 34)), Mv 36 3, Mv 37 4, Op 38 (Ca 31 [.t 35, .t 36, .t 37]), Mv 2 38]
 (.ret)))))⟩
theorem ok23 : compFunc prog glb 23 p23 = some c23 := by kernel_rfl
def p24 : List Plan := []
def c24 : CFunc := ⟨17, [.tmp 6],
 Rg [Op 6 (.move (.c (.bool false)))]
 (Rg [Mv 10 0, Mv 11 1, Mv 12 2, Op 13 (Ca 54 [.t 10, .t 11, .t 12]), Mv 9 13, Op 14 (.extract (.t 9) 0), Op 15 (.extract (.t 9) 1), Mv 7 14, Mv 8 15]
 (Rg [Mv 16 8, Mv 6 16]
 (.ret)))⟩
theorem ok24 : compFunc prog glb 24 p24 = some c24 := by kernel_rfl
def p25 : List Plan := [⟨[(2, .quiet [0]), (1, .quiet [0]), (3, .eff), (4, .eff), (0, .quiet [0, 3, 4]), (5, .eff), (7, .quiet [0, 3, 4, 6]), (8, .quiet [0, 3, 4, 6]), (9, .quiet [0, 3, 4, 6]), (10, .quiet [0, 3, 4, 6]), (11, .quiet [0, 3, 4, 6]), (12, .eff), (13, .eff), (6, .quiet [0, 3, 4, 6, 12, 13]), (14, .eff), (15, .quiet [15]), (16, .quiet [15])], 0, [0, 0, 0, 6, 14, 31, 0, 0, 128, 384, 896, 1920, 4031, 8127, 16383, 32767, 65535]⟩, ⟨[(4, .quiet [0]), (5, .eff), (0, .quiet [0, 2]), (1, .quiet [0, 2]), (2, .quiet [0, 2]), (3, .quiet [0, 2]), (6, .eff), (7, .quiet [7])], 0, [0, 1, 3, 7, 0, 16, 63, 127]⟩]
def c25 : CFunc := ⟨80, [.tmp 2],
 Rg [Op 2 (.move (.c (.nilSlice)))]
 (.seq (Rg [Mv 11 0, Op 12 (.eq (.ptr) false (.t 11) (.c (.nilPtr)))]
 (.cond (.t 12) (Rg [Op 2 (.move (.c (.nilSlice)))]
 (.ret))
 (.skip)))
 (Rg [Mv 13 0, Op 14 (Ca 18 [.t 13]), Mv 3 14]
 (Rg [Op 4 (.move (.c (.nilSlice))), Op 5 (.move (.c (.nilSlice)))]
 (.seq (Rg [Mv 15 3, Op 16 (.len (.slice) (.t 15)), Op 17 (.move (Ci 0))]
 (.block 0 (.loop (Rg [Op 18 (.bin (.lss) (.t 17) (.t 16))]
 (.seq (.cond (.t 18) (.skip)
 (.exit 0))
 (.seq (.block 1 (Rg [Op 19 (.indexAddr 1 (.t 15) (.t 17)), Op 20 (.load false 1 (.t 19)), Mv 7 20]
 (.seq (.draw [⟨2, Mv 23 7, (.quiet [0])⟩,
 ⟨1, Mv 22 0, (.quiet [0])⟩,
 ⟨3, Op 24 (Ca 19 [.t 22, .t 23]), (.eff)⟩,
 ⟨4, Op 25 (.buildSlice [.nilSlice] 1 [(0, 1, .t 24)]), (.eff)⟩,
 ⟨0, Mv 21 4, (.quiet [0, 3, 4])⟩,
 ⟨5, Op 26 (.append 1 24 (.t 21) (.t 25)), (.eff)⟩,
 ⟨7, Mv 28 0, (.quiet [0, 3, 4, 6])⟩,
 ⟨8, Op 29 (.nilCheck (.t 28)), (.quiet [0, 3, 4, 6])⟩,
 ⟨9, Op 30 (.fieldAddr 0 (.t 29)), (.quiet [0, 3, 4, 6])⟩,
 ⟨10, Op 31 (.load false 1 (.t 30)), (.quiet [0, 3, 4, 6])⟩,
 ⟨11, Op 32 (.len (.slice) (.t 31)), (.quiet [0, 3, 4, 6])⟩,
 ⟨12, Op 33 (Ca 55 [.t 32]), (.eff)⟩,
 ⟨13, Op 34 (.buildSlice [.nilSlice] 1 [(0, 1, .t 33)]), (.eff)⟩,
 ⟨6, Mv 27 5, (.quiet [0, 3, 4, 6, 12, 13])⟩,
 ⟨14, Op 35 (.append 1 24 (.t 27) (.t 34)), (.eff)⟩,
 ⟨15, Mv 4 26, (.quiet [15])⟩,
 ⟨16, Mv 5 35, (.quiet [15])⟩] 0)
 (.seq (.draw [⟨4, Mv 40 7, (.quiet [0])⟩,
 ⟨5, Op 41 (Ca 57 [.t 40]), (.eff)⟩,
 ⟨0, Mv 36 0, (.quiet [0, 2])⟩,
 ⟨1, Op 37 (.nilCheck (.t 36)), (.quiet [0, 2])⟩,
 ⟨2, Op 38 (.fieldAddr 8 (.t 37)), (.quiet [0, 2])⟩,
 ⟨3, Op 39 (.load false 1 (.t 38)), (.quiet [0, 2])⟩,
 ⟨6, Op 42 (Ca 56 [.t 39, .t 41]), (.eff)⟩,
 ⟨7, Mv 8 42, (.quiet [7])⟩] 0)
 (Rg [Mv 43 8, Op 44 (.bin (.geq) (.t 43) (Ci 0))]
 (.cond (.t 44) (.region [Mv 45 5, Mv 46 5, Op 47 (.len (.slice) (.t 46)), Op 48 (.bin (.sub) (.t 47) (Ci 1)), Mv 49 0, Op 50 (.nilCheck (.t 49)), Op 51 (.fieldAddr 8 (.t 50)), Op 52 (.load false 1 (.t 51)), Mv 53 8, Op 54 (.indexAddr 2 (.t 52) (.t 53)), Op 55 (.fieldAddr 1 (.t 54)), Op 56 (.load false 1 (.t 55)), Op 57 (.indexAddr 1 (.t 45) (.t 48)), On (.store 1 (.t 57) (.t 56))])
 (.skip)))))))
 (.region [Op 58 (.bin (.add) (.t 17) (Ci 1)), Mv 17 58])))))))
 (.seq (Rg [Mv 59 0, Op 60 (.nilCheck (.t 59)), Op 61 (.fieldAddr 5 (.t 60)), Op 62 (.load false 1 (.t 61)), Mv 63 4, Mv 64 5, Op 65 (Ca 32 [.t 62, .t 63, .t 64]), Op 66 (.len (.slice) (.t 65)), Op 67 (.move (Ci 0))]
 (.block 2 (.loop (Rg [Op 68 (.bin (.lss) (.t 67) (.t 66))]
 (.seq (.cond (.t 68) (.skip)
 (.exit 2))
 (.seq (.block 3 (Rg [Op 69 (.indexAddr 1 (.t 65) (.t 67)), Op 70 (.load false 1 (.t 69)), Mv 10 70]
 (.region [Mv 71 2, Mv 72 3, Mv 73 10, Op 74 (.indexAddr 1 (.t 72) (.t 73)), Op 75 (.load false 1 (.t 74)), Op 76 (.buildSlice [.int (.i64) 0] 1 [(0, 1, .t 75)]), Op 77 (.append 1 8 (.t 71) (.t 76)), Mv 2 77])))
 (.region [Op 78 (.bin (.add) (.t 67) (Ci 1)), Mv 67 78])))))))
 (Rg [Mv 79 2, Mv 2 79]
 (.ret)))))))⟩
theorem ok25 : compFunc prog glb 25 p25 = some c25 := by kernel_rfl
def p26 : List Plan := [⟨[(3, .quiet [0]), (4, .quiet [0]), (5, .eff), (1, .quiet [0, 3]), (2, .quiet [0, 3]), (6, .quiet [3]), (7, .eff), (0, .quiet [0, 3, 7]), (8, .eff), (9, .quiet [9])], 0, [0, 0, 2, 0, 8, 24, 62, 126, 255, 511]⟩]
def c26 : CFunc := ⟨27, [.tmp 2],
 Rg [Op 2 (.move (.c (.nilSlice)))]
 (.seq (Rg [Mv 5 0, Op 6 (.eq (.ptr) false (.t 5) (.c (.nilPtr)))]
 (.cond (.t 6) (Rg [Op 2 (.move (.c (.nilSlice)))]
 (.ret))
 (.skip)))
 (.seq (Rg [Mv 7 0, Op 8 (.nilCheck (.t 7)), Op 9 (.fieldAddr 8 (.t 8)), Op 10 (.load false 1 (.t 9)), Op 11 (.len (.slice) (.t 10)), Op 12 (.move (Ci 0))]
 (.block 0 (.loop (Rg [Op 13 (.bin (.lss) (.t 12) (.t 11))]
 (.seq (.cond (.t 13) (.skip)
 (.exit 0))
 (.seq (.block 1 (Rg [Op 14 (.indexAddr 2 (.t 10) (.t 12)), Op 15 (.load true 2 (.t 14)), Op 4 (.new [.int (.i64) 0, .nilSlice]), On (.store 2 (.t 4) (.t 15))]
 (.draw [⟨3, Op 19 (.fieldAddr 1 (.t 4)), (.quiet [0])⟩,
 ⟨4, Op 20 (.load false 1 (.t 19)), (.quiet [0])⟩,
 ⟨5, Op 21 (Ca 40 [.t 20]), (.eff)⟩,
 ⟨1, Op 17 (.fieldAddr 0 (.t 4)), (.quiet [0, 3])⟩,
 ⟨2, Op 18 (.load false 1 (.t 17)), (.quiet [0, 3])⟩,
 ⟨6, Op 22 (.build [.int (.i64) 0, .nilSlice] [(0, 1, .t 18), (1, 1, .t 21)]), (.quiet [3])⟩,
 ⟨7, Op 23 (.buildSlice [.int (.i64) 0, .nilSlice] 1 [(0, 2, .t 22)]), (.eff)⟩,
 ⟨0, Mv 16 2, (.quiet [0, 3, 7])⟩,
 ⟨8, Op 24 (.append 2 32 (.t 16) (.t 23)), (.eff)⟩,
 ⟨9, Mv 2 24, (.quiet [9])⟩] 0)))
 (.region [Op 25 (.bin (.add) (.t 12) (Ci 1)), Mv 12 25])))))))
 (Rg [Mv 26 2, Mv 2 26]
 (.ret))))⟩
theorem ok26 : compFunc prog glb 26 p26 = some c26 := by kernel_rfl
def p27 : List Plan := [⟨[(7, .quiet [0]), (6, .quiet [0]), (8, .quiet [0]), (9, .quiet [0]), (3, .quiet [0]), (2, .quiet [0]), (4, .quiet [0]), (5, .quiet [0]), (10, .quiet [0]), (1, .quiet [0]), (0, .quiet [0]), (11, .quiet [0]), (12, .eff)], 0, [0, 0, 0, 0, 12, 28, 0, 0, 192, 448, 1020, 2047, 4095]⟩]
def c27 : CFunc := ⟨47, [.tmp 4, .tmp 5],
 Rg [Op 4 (.move (.c (.nilSlice))), Op 5 (.move (.c (.bool false)))]
 (.seq (Rg [Mv 8 0, Mv 9 1, Op 10 (.len (.slice) (.t 9)), Op 11 (Ca 41 [.t 8, .t 10]), Op 12 (.un (.not) (.t 11)), Mv 13 12, Mf 14 1 13, Mf 15 0 13, Of 16 (.len (.slice) (.t 15)) 13, Of 17 (Ca 41 [.t 14, .t 16]) 13, Of 18 (.un (.not) (.t 17)) 13, Op 19 (.pick (.t 13) (.c (.bool true)) (.t 18))]
 (.cond (.t 19) (Rg [Op 4 (.move (.c (.nilSlice))), Op 5 (.move (.c (.bool false)))]
 (.ret))
 (.skip)))
 (Rg [Mv 20 0, Op 21 (.len (.slice) (.t 20)), Op 22 (.makeSlice [.int (.i64) 0] 8 (.t 21) (.t 21)), Mv 6 22]
 (.seq (Rg [Op 7 (.move (Ci 0))]
 (.block 0 (.loop (.seq (Rg [Mv 23 7, Mv 24 0, Op 25 (.len (.slice) (.t 24)), Op 26 (.bin (.lss) (.t 23) (.t 25))]
 (.cond (.t 26) (.skip)
 (.exit 0)))
 (.seq (.block 1 (.draw [⟨7, Mv 36 7, (.quiet [0])⟩,
 ⟨6, Mv 35 1, (.quiet [0])⟩,
 ⟨8, Op 37 (.indexAddr 1 (.t 35) (.t 36)), (.quiet [0])⟩,
 ⟨9, Op 38 (.load false 1 (.t 37)), (.quiet [0])⟩,
 ⟨3, Mv 32 7, (.quiet [0])⟩,
 ⟨2, Mv 31 0, (.quiet [0])⟩,
 ⟨4, Op 33 (.indexAddr 1 (.t 31) (.t 32)), (.quiet [0])⟩,
 ⟨5, Op 34 (.load false 1 (.t 33)), (.quiet [0])⟩,
 ⟨10, Op 39 (.bin (.sub) (.t 34) (.t 38)), (.quiet [0])⟩,
 ⟨1, Mv 30 7, (.quiet [0])⟩,
 ⟨0, Mv 29 6, (.quiet [0])⟩,
 ⟨11, Op 40 (.indexAddr 1 (.t 29) (.t 30)), (.quiet [0])⟩,
 ⟨12, On (.store 1 (.t 40) (.t 39)), (.eff)⟩] 0))
 (.region [Mv 27 7, Op 28 (.bin (.add) (.t 27) (Ci 1)), Mv 7 28]))))))
 (.seq (Rg [Mv 41 6, Mv 42 6, Op 43 (.len (.slice) (.t 42)), Op 44 (Ca 41 [.t 41, .t 43]), Op 45 (.un (.not) (.t 44))]
 (.cond (.t 45) (Rg [Op 4 (.move (.c (.nilSlice))), Op 5 (.move (.c (.bool false)))]
 (.ret))
 (.skip)))
 (Rg [Mv 46 6, Mv 4 46, Op 5 (.move (.c (.bool true)))]
 (.ret))))))⟩
theorem ok27 : compFunc prog glb 27 p27 = some c27 := by kernel_rfl
def p28 : List Plan := []
def c28 : CFunc := ⟨20, [.tmp 4, .tmp 5],
 Rg [Op 4 (.move (Ci 0)), Op 5 (.move (.c (.bool false)))]
 (.seq (Rg [Op 6 (.move (Ci 0))]
 (.block 0 (.loop (.seq (Rg [Mv 7 6, Mv 8 0, Op 9 (.len (.slice) (.t 8)), Op 10 (.bin (.lss) (.t 7) (.t 9))]
 (.cond (.t 10) (.skip)
 (.exit 0)))
 (.seq (.block 1 (Rg [Mv 13 0, Mv 14 6, Op 15 (.indexAddr 1 (.t 13) (.t 14)), Op 16 (.load false 1 (.t 15)), Mv 17 1, Op 18 (.bin (.eql) (.t 16) (.t 17))]
 (.cond (.t 18) (Rg [Mv 19 6, Mv 4 19, Op 5 (.move (.c (.bool true)))]
 (.ret))
 (.skip))))
 (.region [Mv 11 6, Op 12 (.bin (.add) (.t 11) (Ci 1)), Mv 6 12]))))))
 (Rg [Op 4 (.move (Ci 0)), Op 5 (.move (.c (.bool false)))]
 (.ret)))⟩
theorem ok28 : compFunc prog glb 28 p28 = some c28 := by kernel_rfl
def p29 : List Plan := []
def c29 : CFunc := ⟨15, [.tmp 2],
 Rg [Op 2 (.move (.c (.bool false)))]
 (.seq (Rg [Op 3 (.move (Ci 0))]
 (.block 0 (.loop (.seq (Rg [Mv 4 3, Mv 5 0, Op 6 (.len (.slice) (.t 5)), Op 7 (.bin (.lss) (.t 4) (.t 6))]
 (.cond (.t 7) (.skip)
 (.exit 0)))
 (.seq (.block 1 (Rg [Mv 10 0, Mv 11 3, Op 12 (.indexAddr 1 (.t 10) (.t 11)), Op 13 (.load false 1 (.t 12)), Op 14 (.bin (.neq) (.t 13) (Ci 0))]
 (.cond (.t 14) (Rg [Op 2 (.move (.c (.bool false)))]
 (.ret))
 (.skip))))
 (.region [Mv 8 3, Op 9 (.bin (.add) (.t 8) (Ci 1)), Mv 3 9]))))))
 (Rg [Op 2 (.move (.c (.bool true)))]
 (.ret)))⟩
theorem ok29 : compFunc prog glb 29 p29 = some c29 := by kernel_rfl
def p30 : List Plan := [⟨[(7, .quiet [0]), (6, .quiet [0]), (8, .quiet [0]), (9, .quiet [0]), (3, .quiet [0]), (2, .quiet [0]), (4, .quiet [0]), (5, .quiet [0]), (10, .quiet [0]), (1, .quiet [0]), (0, .quiet [0]), (11, .quiet [0]), (12, .eff)], 0, [0, 0, 0, 0, 12, 28, 0, 0, 192, 448, 1020, 2047, 4095]⟩]
def c30 : CFunc := ⟨47, [.tmp 4, .tmp 5],
 Rg [Op 4 (.move (.c (.nilSlice))), Op 5 (.move (.c (.bool false)))]
 (.seq (Rg [Mv 8 0, Mv 9 1, Op 10 (.len (.slice) (.t 9)), Op 11 (Ca 41 [.t 8, .t 10]), Op 12 (.un (.not) (.t 11)), Mv 13 12, Mf 14 1 13, Mf 15 0 13, Of 16 (.len (.slice) (.t 15)) 13, Of 17 (Ca 41 [.t 14, .t 16]) 13, Of 18 (.un (.not) (.t 17)) 13, Op 19 (.pick (.t 13) (.c (.bool true)) (.t 18))]
 (.cond (.t 19) (Rg [Op 4 (.move (.c (.nilSlice))), Op 5 (.move (.c (.bool false)))]
 (.ret))
 (.skip)))
 (Rg [Mv 20 0, Op 21 (.len (.slice) (.t 20)), Op 22 (.makeSlice [.int (.i64) 0] 8 (.t 21) (.t 21)), Mv 6 22]
 (.seq (Rg [Op 7 (.move (Ci 0))]
 (.block 0 (.loop (.seq (Rg [Mv 23 7, Mv 24 0, Op 25 (.len (.slice) (.t 24)), Op 26 (.bin (.lss) (.t 23) (.t 25))]
 (.cond (.t 26) (.skip)
 (.exit 0)))
 (.seq (.block 1 (.draw [⟨7, Mv 36 7, (.quiet [0])⟩,
 ⟨6, Mv 35 1, (.quiet [0])⟩,
 ⟨8, Op 37 (.indexAddr 1 (.t 35) (.t 36)), (.quiet [0])⟩,
 ⟨9, Op 38 (.load false 1 (.t 37)), (.quiet [0])⟩,
 ⟨3, Mv 32 7, (.quiet [0])⟩,
 ⟨2, Mv 31 0, (.quiet [0])⟩,
 ⟨4, Op 33 (.indexAddr 1 (.t 31) (.t 32)), (.quiet [0])⟩,
 ⟨5, Op 34 (.load false 1 (.t 33)), (.quiet [0])⟩,
 ⟨10, Op 39 (.bin (.add) (.t 34) (.t 38)), (.quiet [0])⟩,
 ⟨1, Mv 30 7, (.quiet [0])⟩,
 ⟨0, Mv 29 6, (.quiet [0])⟩,
 ⟨11, Op 40 (.indexAddr 1 (.t 29) (.t 30)), (.quiet [0])⟩,
 ⟨12, On (.store 1 (.t 40) (.t 39)), (.eff)⟩] 0))
 (.region [Mv 27 7, Op 28 (.bin (.add) (.t 27) (Ci 1)), Mv 7 28]))))))
 (.seq (Rg [Mv 41 6, Mv 42 6, Op 43 (.len (.slice) (.t 42)), Op 44 (Ca 41 [.t 41, .t 43]), Op 45 (.un (.not) (.t 44))]
 (.cond (.t 45) (Rg [Op 4 (.move (.c (.nilSlice))), Op 5 (.move (.c (.bool false)))]
 (.ret))
 (.skip)))
 (Rg [Mv 46 6, Mv 4 46, Op 5 (.move (.c (.bool true)))]
 (.ret))))))⟩
theorem ok30 : compFunc prog glb 30 p30 = some c30 := by kernel_rfl
def p31 : List Plan := []
def c31 : CFunc := ⟨17, [.tmp 6],
 Rg [Op 6 (.move (.c (.bool false)))]
 (Rg [Mv 10 0, Mv 11 1, Mv 12 2, Op 13 (Ca 58 [.t 10, .t 11, .t 12]), Mv 9 13, Op 14 (.extract (.t 9) 0), Op 15 (.extract (.t 9) 1), Mv 7 14, Mv 8 15]
 (Rg [Mv 16 8, Mv 6 16]
 (.ret)))⟩
theorem ok31 : compFunc prog glb 31 p31 = some c31 := by kernel_rfl
def p32 : List Plan := []
def c32 : CFunc := ⟨32, [.tmp 6],
 Rg [Op 4 (.box (.t 1)), Op 5 (.box (.t 2)), Op 6 (.move (.c (.nilSlice)))]
 (.seq (Rg [Mv 12 0, Op 13 (.load false 1 (.t 4)), Op 14 (.load false 1 (.t 5)), Op 15 (Ca 59 [.t 12, .t 13, .t 14]), Op 16 (.un (.not) (.t 15))]
 (.cond (.t 16) (Rg [Op 6 (.move (.c (.nilSlice)))]
 (.ret))
 (.skip)))
 (Rg [Mv 17 0, Op 18 (Ca 40 [.t 17]), Op 7 (.new [.nilSlice]), On (.store 1 (.t 7) (.t 18))]
 (Rg [Op 19 (.newMap), Op 8 (.new [.nilMap]), On (.store 1 (.t 8) (.t 19))]
 (.seq (Rg [Op 20 (.load false 1 (.t 4)), Op 21 (.len (.slice) (.t 20)), Op 22 (.move (Ci 0))]
 (.block 0 (.loop (Rg [Op 23 (.bin (.lss) (.t 22) (.t 21))]
 (.seq (.cond (.t 23) (.skip)
 (.exit 0))
 (.seq (.block 1 (Rg [Mv 24 22, Mv 9 24]
 (.region [Op 25 (.load false 1 (.t 8)), Mv 26 9, On (.mapUpdate (.one (.int)) (.t 25) (.t 26) (.c (.bool true)))])))
 (.region [Op 27 (.bin (.add) (.t 22) (Ci 1)), Mv 22 27])))))))
 (Rg [Op 10 (.new [.nilSlice])]
 (Rg [Op 11 (.new [.nilFunc])]
 (Rg [Op 28 (.func 60 [] [.t 10, .t 4, .t 8, .t 5, .t 7, .t 11]), On (.store 1 (.t 11) (.t 28))]
 (Rg [Op 29 (.load false 1 (.t 11)), Op 30 (.call (.t 29) [])]
 (Rg [Op 31 (.load false 1 (.t 10)), Mv 6 31]
 (.ret))))))))))⟩
theorem ok32 : compFunc prog glb 32 p32 = some c32 := by kernel_rfl
def p33 : List Plan := [⟨[(8, .quiet [0]), (9, .eff), (4, .quiet [0, 2]), (5, .quiet [0, 2]), (6, .quiet [0, 2]), (7, .quiet [0, 2]), (0, .quiet [0, 2]), (1, .quiet [0, 2]), (2, .quiet [0, 2]), (3, .quiet [0, 2]), (10, .eff), (11, .quiet [11])], 0, [0, 1, 3, 7, 0, 16, 48, 112, 0, 256, 1023, 2047]⟩, ⟨[(6, .quiet [0]), (5, .quiet [0]), (7, .quiet [0]), (8, .quiet [0]), (1, .quiet [0]), (2, .quiet [0]), (3, .quiet [0]), (4, .quiet [0]), (9, .quiet [0]), (10, .quiet [0]), (11, .eff), (0, .quiet [0, 11]), (12, .eff), (13, .quiet [13])], 0, [0, 0, 2, 6, 14, 0, 0, 96, 224, 510, 1022, 2046, 4095, 8191]⟩]
def c33 : CFunc := ⟨38, [.tmp 2],
 Rg [Op 2 (.move (.c (.nilSlice)))]
 (.seq (.draw [⟨8, Mv 14 0, (.quiet [0])⟩,
 ⟨9, Op 15 (Ca 64 [.t 14]), (.eff)⟩,
 ⟨4, Mv 10 0, (.quiet [0, 2])⟩,
 ⟨5, Op 11 (.nilCheck (.t 10)), (.quiet [0, 2])⟩,
 ⟨6, Op 12 (.fieldAddr 4 (.t 11)), (.quiet [0, 2])⟩,
 ⟨7, Op 13 (.load false 1 (.t 12)), (.quiet [0, 2])⟩,
 ⟨0, Mv 6 0, (.quiet [0, 2])⟩,
 ⟨1, Op 7 (.nilCheck (.t 6)), (.quiet [0, 2])⟩,
 ⟨2, Op 8 (.fieldAddr 1 (.t 7)), (.quiet [0, 2])⟩,
 ⟨3, Op 9 (.load false 1 (.t 8)), (.quiet [0, 2])⟩,
 ⟨10, Op 16 (Ca 63 [.t 9, .t 13, .t 15]), (.eff)⟩,
 ⟨11, Mv 3 16, (.quiet [11])⟩] 0)
 (Rg [Op 17 (.buildSlice [.int (.i64) 0] 0 []), Mv 4 17]
 (.seq (Rg [Op 5 (.move (Ci 0))]
 (.block 0 (.loop (.seq (Rg [Mv 18 5, Mv 19 3, Op 20 (.len (.slice) (.t 19)), Op 21 (.bin (.lss) (.t 18) (.t 20))]
 (.cond (.t 21) (.skip)
 (.exit 0)))
 (.seq (.block 1 (.draw [⟨6, Mv 30 5, (.quiet [0])⟩,
 ⟨5, Mv 29 3, (.quiet [0])⟩,
 ⟨7, Op 31 (.indexAddr 1 (.t 29) (.t 30)), (.quiet [0])⟩,
 ⟨8, Op 32 (.load false 1 (.t 31)), (.quiet [0])⟩,
 ⟨1, Mv 25 0, (.quiet [0])⟩,
 ⟨2, Op 26 (.nilCheck (.t 25)), (.quiet [0])⟩,
 ⟨3, Op 27 (.fieldAddr 3 (.t 26)), (.quiet [0])⟩,
 ⟨4, Op 28 (.load false 1 (.t 27)), (.quiet [0])⟩,
 ⟨9, Op 33 (.indexAddr 1 (.t 28) (.t 32)), (.quiet [0])⟩,
 ⟨10, Op 34 (.load false 1 (.t 33)), (.quiet [0])⟩,
 ⟨11, Op 35 (.buildSlice [.int (.i64) 0] 1 [(0, 1, .t 34)]), (.eff)⟩,
 ⟨0, Mv 24 4, (.quiet [0, 11])⟩,
 ⟨12, Op 36 (.append 1 8 (.t 24) (.t 35)), (.eff)⟩,
 ⟨13, Mv 4 36, (.quiet [13])⟩] 0))
 (.region [Mv 22 5, Op 23 (.bin (.add) (.t 22) (Ci 1)), Mv 5 23]))))))
 (Rg [Mv 37 4, Mv 2 37]
 (.ret)))))⟩
theorem ok33 : compFunc prog glb 33 p33 = some c33 := by kernel_rfl
def p34 : List Plan := [⟨[(5, .eff), (6, .quiet [0, 1]), (7, .eff), (4, .quiet [0, 1, 3]), (0, .quiet [0, 1, 3]), (1, .quiet [0, 1, 3]), (2, .quiet [0, 1, 3]), (3, .quiet [0, 1, 3]), (8, .eff)], 0, [0, 1, 3, 7, 0, 0, 0, 96, 255]⟩]
def c34 : CFunc := ⟨52, [.tmp 6],
 Rg [Op 6 (.move (Ci 0))]
 (.seq (.block 0 (Rg [Mv 8 0, Op 9 (.eq (.ptr) false (.t 8) (.c (.nilPtr))), Mv 7 9]
 (.cond (.t 7) (Rg [Op 6 (.move (Ci 3))]
 (.ret))
 (Rg [Mv 11 1, Op 12 (.bin (.lss) (.t 11) (Ci 1)), Mv 13 12, Mf 14 0 13, Mf 15 2 13, Of 16 (Ca 65 [.t 14, .t 15]) 13, Of 17 (.un (.not) (.t 16)) 13, Op 18 (.pick (.t 13) (.c (.bool true)) (.t 17)), Mv 10 18]
 (.cond (.t 10) (Rg [Op 6 (.move (Ci 1))]
 (.ret))
 (Rg [Mv 20 0, Mv 21 1, Op 22 (Ca 53 [.t 20, .t 21]), Mv 19 22]
 (.cond (.t 19) (Rg [Op 6 (.move (Ci 4))]
 (.ret))
 (Rg [Mv 24 0, Op 25 (.nilCheck (.t 24)), Op 26 (.fieldAddr 7 (.t 25)), Op 27 (.load false 1 (.t 26)), Op 28 (.len (.map) (.t 27)), Op 29 (.bin (.geq) (.t 28) (Ci 32)), Mv 23 29]
 (.cond (.t 23) (Rg [Op 6 (.move (Ci 1))]
 (.ret))
 (Rg [Mv 31 0, Op 32 (.nilCheck (.t 31)), Op 33 (.fieldAddr 1 (.t 32)), Op 34 (.load false 1 (.t 33)), Mv 35 34, Mt 36 2 35, Mt 37 0 35, Ot 38 (.nilCheck (.t 37)) 35, Ot 39 (.fieldAddr 0 (.t 38)) 35, Ot 40 (.load false 1 (.t 39)) 35, Ot 41 (Ca 61 [.t 36, .t 40]) 35, Ot 42 (.un (.not) (.t 41)) 35, Op 43 (.pick (.t 35) (.t 42) (.c (.bool false))), Mv 30 43]
 (.cond (.t 30) (Rg [Op 6 (.move (Ci 35))]
 (.ret))
 (.skip))))))))))))
 (.seq (.draw [⟨5, Op 49 (.buildSlice [.int (.i64) 0] 0 []), (.eff)⟩,
 ⟨6, Mv 50 2, (.quiet [0, 1])⟩,
 ⟨7, Op 51 (.append 1 8 (.t 49) (.t 50)), (.eff)⟩,
 ⟨4, Mv 48 1, (.quiet [0, 1, 3])⟩,
 ⟨0, Mv 44 0, (.quiet [0, 1, 3])⟩,
 ⟨1, Op 45 (.nilCheck (.t 44)), (.quiet [0, 1, 3])⟩,
 ⟨2, Op 46 (.fieldAddr 7 (.t 45)), (.quiet [0, 1, 3])⟩,
 ⟨3, Op 47 (.load false 1 (.t 46)), (.quiet [0, 1, 3])⟩,
 ⟨8, On (.mapUpdate (.one (.int)) (.t 47) (.t 48) (.t 51)), (.eff)⟩] 0)
 (Rg [Op 6 (.move (Ci 0))]
 (.ret))))⟩
theorem ok34 : compFunc prog glb 34 p34 = some c34 := by kernel_rfl
def p35 : List Plan := [⟨[(4, .quiet [0]), (5, .eff), (0, .quiet [0, 2]), (1, .quiet [0, 2]), (2, .quiet [0, 2]), (3, .quiet [0, 2]), (6, .eff), (7, .quiet [7])], 0, [0, 1, 3, 7, 0, 16, 63, 127]⟩, ⟨[(13, .quiet [0]), (9, .quiet [0]), (8, .quiet [0]), (10, .quiet [0]), (11, .quiet [0]), (5, .quiet [0]), (4, .quiet [0]), (6, .quiet [0]), (0, .quiet [0]), (1, .quiet [0]), (2, .quiet [0]), (3, .quiet [0]), (7, .quiet [0]), (12, .quiet [0]), (14, .quiet [0])], 0, [0, 1, 3, 7, 0, 0, 48, 127, 0, 0, 768, 1792, 4095, 0, 16383]⟩, ⟨[(6, .quiet [0]), (7, .eff), (5, .quiet [0, 2]), (8, .quiet [2]), (9, .eff), (1, .quiet [0, 2, 5]), (2, .quiet [0, 2, 5]), (3, .quiet [0, 2, 5]), (4, .quiet [0, 2, 5]), (10, .eff), (0, .quiet [0, 2, 5, 10]), (11, .quiet [10]), (12, .quiet [10]), (13, .eff)], 0, [0, 0, 2, 6, 14, 0, 0, 64, 224, 480, 1022, 2047, 4095, 8191]⟩]
def c35 : CFunc := ⟨75, [.tmp 6, .tmp 7],
 Rg [Op 6 (.move (.c (.nilSlice))), Op 7 (.move (Ci 0))]
 (.seq (.block 0 (Rg [Mv 11 0, Mv 12 1, Op 13 (Ca 53 [.t 11, .t 12]), Op 14 (.un (.not) (.t 13)), Mv 10 14]
 (.cond (.t 10) (Rg [Op 6 (.move (.c (.nilSlice))), Op 7 (.move (Ci 3))]
 (.ret))
 (Rg [Mv 16 0, Mv 17 2, Op 18 (Ca 65 [.t 16, .t 17]), Op 19 (.un (.not) (.t 18)), Mv 15 19]
 (.cond (.t 15) (Rg [Op 6 (.move (.c (.nilSlice))), Op 7 (.move (Ci 1))]
 (.ret))
 (.seq (.draw [⟨4, Mv 25 1, (.quiet [0])⟩,
 ⟨5, Op 26 (Ca 57 [.t 25]), (.eff)⟩,
 ⟨0, Mv 21 0, (.quiet [0, 2])⟩,
 ⟨1, Op 22 (.nilCheck (.t 21)), (.quiet [0, 2])⟩,
 ⟨2, Op 23 (.fieldAddr 8 (.t 22)), (.quiet [0, 2])⟩,
 ⟨3, Op 24 (.load false 1 (.t 23)), (.quiet [0, 2])⟩,
 ⟨6, Op 27 (Ca 66 [.t 24, .t 26]), (.eff)⟩,
 ⟨7, Mv 20 27, (.quiet [7])⟩] 0)
 (.cond (.t 20) (Rg [Op 6 (.move (.c (.nilSlice))), Op 7 (.move (Ci 4))]
 (.ret))
 (.skip))))))))
 (.seq (Rg [Mv 28 0, Op 29 (.nilCheck (.t 28)), Op 30 (.fieldAddr 1 (.t 29)), Op 31 (.load false 1 (.t 30))]
 (.cond (.t 31) (Rg [Mv 32 0, Op 33 (.nilCheck (.t 32)), Op 34 (.fieldAddr 7 (.t 33)), Op 35 (.load false 1 (.t 34)), Mv 36 1, Op 37 (.lookup (.one (.int)) (.nilSlice) false (.t 35) (.t 36)), Op 38 (.len (.slice) (.t 37)), Op 39 (.move (Ci 0))]
 (.block 1 (.loop (Rg [Op 40 (.bin (.lss) (.t 39) (.t 38))]
 (.seq (.cond (.t 40) (.skip)
 (.exit 1))
 (.seq (.block 2 (Rg [Mv 41 39, Op 42 (.indexAddr 1 (.t 37) (.t 39)), Op 43 (.load false 1 (.t 42)), Mv 8 41, Mv 9 43]
 (.seq (.draw [⟨13, Mv 57 9, (.quiet [0])⟩,
 ⟨9, Mv 53 8, (.quiet [0])⟩,
 ⟨8, Mv 52 2, (.quiet [0])⟩,
 ⟨10, Op 54 (.indexAddr 1 (.t 52) (.t 53)), (.quiet [0])⟩,
 ⟨11, Op 55 (.load false 1 (.t 54)), (.quiet [0])⟩,
 ⟨5, Mv 49 8, (.quiet [0])⟩,
 ⟨4, Mv 48 1, (.quiet [0])⟩,
 ⟨6, Op 50 (.build [.int (.i64) 0, .int (.i64) 0] [(0, 1, .t 48), (1, 1, .t 49)]), (.quiet [0])⟩,
 ⟨0, Mv 44 0, (.quiet [0])⟩,
 ⟨1, Op 45 (.nilCheck (.t 44)), (.quiet [0])⟩,
 ⟨2, Op 46 (.fieldAddr 6 (.t 45)), (.quiet [0])⟩,
 ⟨3, Op 47 (.load false 1 (.t 46)), (.quiet [0])⟩,
 ⟨7, Op 51 (.lookup (.flat [.int, .int]) (.int (.i64) 0) false (.t 47) (.t 50)), (.quiet [0])⟩,
 ⟨12, Op 56 (.bin (.add) (.t 51) (.t 55)), (.quiet [0])⟩,
 ⟨14, Op 58 (.bin (.gtr) (.t 56) (.t 57)), (.quiet [0])⟩] 0)
 (.cond (.t 58) (Rg [Op 6 (.move (.c (.nilSlice))), Op 7 (.move (Ci 35))]
 (.ret))
 (.skip)))))
 (.region [Op 59 (.bin (.add) (.t 39) (Ci 1)), Mv 39 59])))))))
 (.skip)))
 (.seq (.draw [⟨6, Mv 66 2, (.quiet [0])⟩,
 ⟨7, Op 67 (Ca 40 [.t 66]), (.eff)⟩,
 ⟨5, Mv 65 1, (.quiet [0, 2])⟩,
 ⟨8, Op 68 (.build [.int (.i64) 0, .nilSlice] [(0, 1, .t 65), (1, 1, .t 67)]), (.quiet [2])⟩,
 ⟨9, Op 69 (.buildSlice [.int (.i64) 0, .nilSlice] 1 [(0, 2, .t 68)]), (.eff)⟩,
 ⟨1, Mv 61 0, (.quiet [0, 2, 5])⟩,
 ⟨2, Op 62 (.nilCheck (.t 61)), (.quiet [0, 2, 5])⟩,
 ⟨3, Op 63 (.fieldAddr 8 (.t 62)), (.quiet [0, 2, 5])⟩,
 ⟨4, Op 64 (.load false 1 (.t 63)), (.quiet [0, 2, 5])⟩,
 ⟨10, Op 70 (.append 2 32 (.t 64) (.t 69)), (.eff)⟩,
 ⟨0, Mv 60 0, (.quiet [0, 2, 5, 10])⟩,
 ⟨11, Op 71 (.nilCheck (.t 60)), (.quiet [10])⟩,
 ⟨12, Op 72 (.fieldAddr 8 (.t 71)), (.quiet [10])⟩,
 ⟨13, On (.store 1 (.t 72) (.t 70)), (.eff)⟩] 0)
 (Rg [Mv 73 0, Op 74 (Ca 67 [.t 73]), Mv 6 74, Op 7 (.move (Ci 0))]
 (.ret)))))⟩
theorem ok35 : compFunc prog glb 35 p35 = some c35 := by kernel_rfl
def p36 : List Plan := []
def c36 : CFunc := ⟨31, [.tmp 6, .tmp 7],
 Rg [Op 6 (.move (.c (.nilSlice))), Op 7 (.move (Ci 0))]
 (.seq (.block 0 (Rg [Mv 9 0, Mv 10 1, Op 11 (Ca 53 [.t 9, .t 10]), Op 12 (.un (.not) (.t 11)), Mv 8 12]
 (.cond (.t 8) (Rg [Op 6 (.move (.c (.nilSlice))), Op 7 (.move (Ci 3))]
 (.ret))
 (Rg [Mv 14 0, Mv 15 2, Op 16 (Ca 65 [.t 14, .t 15]), Op 17 (.un (.not) (.t 16)), Mv 13 17]
 (.cond (.t 13) (Rg [Op 6 (.move (.c (.nilSlice))), Op 7 (.move (Ci 1))]
 (.ret))
 (Rg [Mv 19 2, Mv 20 0, Mv 21 1, Op 22 (Ca 19 [.t 20, .t 21]), Op 23 (Ca 61 [.t 19, .t 22]), Op 24 (.un (.not) (.t 23)), Mv 18 24]
 (.cond (.t 18) (Rg [Op 6 (.move (.c (.nilSlice))), Op 7 (.move (Ci 36))]
 (.ret))
 (.skip))))))))
 (Rg [Mv 25 0, Mv 26 1, Mv 27 2, Op 28 (Ca 68 [.t 25, .t 26, .t 27, .c (.int (.i64) (-1))])]
 (Rg [Mv 29 0, Op 30 (Ca 67 [.t 29]), Mv 6 30, Op 7 (.move (Ci 0))]
 (.ret))))⟩
theorem ok36 : compFunc prog glb 36 p36 = some c36 := by kernel_rfl
def p37 : List Plan := [⟨[(3, .quiet [0]), (2, .quiet [0]), (4, .eff), (1, .quiet [0, 3]), (0, .quiet [0, 3]), (5, .eff)], 0, [0, 0, 0, 0, 12, 31]⟩, ⟨[(5, .quiet [0]), (6, .eff), (1, .quiet [0, 2]), (2, .quiet [0, 2]), (3, .quiet [0, 2]), (4, .quiet [0, 2]), (7, .eff), (0, .quiet [0, 2, 7]), (8, .quiet [7]), (9, .quiet [7]), (10, .eff)], 0, [0, 0, 2, 6, 14, 0, 32, 126, 255, 511, 1023]⟩, ⟨[(4, .quiet [0]), (0, .quiet [0]), (1, .quiet [0]), (2, .quiet [0]), (3, .quiet [0]), (5, .eff)], 0, [0, 1, 3, 7, 0, 31]⟩]
def c37 : CFunc := ⟨39, [.tmp 4, .tmp 5],
 Rg [Op 3 (.box (.t 1)), Op 4 (.move (.c (.nilSlice))), Op 5 (.move (.c (.bool false)))]
 (.seq (Rg [Mv 6 0, Op 7 (.load false 1 (.t 3)), Op 8 (Ca 53 [.t 6, .t 7]), Op 9 (.un (.not) (.t 8))]
 (.cond (.t 9) (Rg [Op 4 (.move (.c (.nilSlice))), Op 5 (.move (.c (.bool false)))]
 (.ret))
 (.skip)))
 (.seq (.draw [⟨3, Op 13 (.load false 1 (.t 3)), (.quiet [0])⟩,
 ⟨2, Mv 12 0, (.quiet [0])⟩,
 ⟨4, Op 14 (Ca 19 [.t 12, .t 13]), (.eff)⟩,
 ⟨1, Op 11 (.load false 1 (.t 3)), (.quiet [0, 3])⟩,
 ⟨0, Mv 10 0, (.quiet [0, 3])⟩,
 ⟨5, Op 15 (Ca 68 [.t 10, .t 11, .t 14, .c (.int (.i64) (-1))]), (.eff)⟩] 0)
 (.seq (.draw [⟨5, Op 21 (.load false 1 (.t 3)), (.quiet [0])⟩,
 ⟨6, Op 22 (Ca 57 [.t 21]), (.eff)⟩,
 ⟨1, Mv 17 0, (.quiet [0, 2])⟩,
 ⟨2, Op 18 (.nilCheck (.t 17)), (.quiet [0, 2])⟩,
 ⟨3, Op 19 (.fieldAddr 8 (.t 18)), (.quiet [0, 2])⟩,
 ⟨4, Op 20 (.load false 1 (.t 19)), (.quiet [0, 2])⟩,
 ⟨7, Op 23 (Ca 69 [.t 20, .t 22]), (.eff)⟩,
 ⟨0, Mv 16 0, (.quiet [0, 2, 7])⟩,
 ⟨8, Op 24 (.nilCheck (.t 16)), (.quiet [7])⟩,
 ⟨9, Op 25 (.fieldAddr 8 (.t 24)), (.quiet [7])⟩,
 ⟨10, On (.store 1 (.t 25) (.t 23)), (.eff)⟩] 0)
 (.seq (.draw [⟨4, Op 30 (.load false 1 (.t 3)), (.quiet [0])⟩,
 ⟨0, Mv 26 0, (.quiet [0])⟩,
 ⟨1, Op 27 (.nilCheck (.t 26)), (.quiet [0])⟩,
 ⟨2, Op 28 (.fieldAddr 7 (.t 27)), (.quiet [0])⟩,
 ⟨3, Op 29 (.load false 1 (.t 28)), (.quiet [0])⟩,
 ⟨5, On (.delete (.one (.int)) (.t 29) (.t 30)), (.eff)⟩] 0)
 (Rg [Mv 31 0, Op 32 (.nilCheck (.t 31)), Op 33 (.fieldAddr 6 (.t 32)), Op 34 (.load false 1 (.t 33)), Op 35 (.func 71 [] [.t 3]), Op 36 (Ca 70 [.t 34, .t 35])]
 (Rg [Mv 37 0, Op 38 (Ca 67 [.t 37]), Mv 4 38, Op 5 (.move (.c (.bool true)))]
 (.ret)))))))⟩
theorem ok37 : compFunc prog glb 37 p37 = some c37 := by kernel_rfl
def p38 : List Plan := []
def c38 : CFunc := ⟨13, [.tmp 4],
 Rg [Op 4 (.move (.c (.bool false)))]
 (Rg [Mv 5 0, Op 6 (.len (.slice) (.t 5)), Mv 7 1, Op 8 (.bin (.eql) (.t 6) (.t 7)), Mv 9 8, Mt 10 0 9, Ot 11 (Ca 72 [.t 10]) 9, Op 12 (.pick (.t 9) (.t 11) (.c (.bool false))), Mv 4 12]
 (.ret))⟩
theorem ok38 : compFunc prog glb 38 p38 = some c38 := by kernel_rfl
def p39 : List Plan := []
def c39 : CFunc := ⟨9, [.tmp 4],
 Rg [Op 4 (.move (.c (.bool false)))]
 (Rg [Mv 5 0, Mv 6 1, Op 7 (Ca 73 [.t 5, .t 6]), Op 8 (.bin (.geq) (.t 7) (Ci 0)), Mv 4 8]
 (.ret))⟩
theorem ok39 : compFunc prog glb 39 p39 = some c39 := by kernel_rfl
def p40 : List Plan := []
def c40 : CFunc := ⟨8, [.tmp 2],
 Rg [Op 2 (.move (.c (.nilSlice)))]
 (.seq (Rg [Mv 3 0, Op 4 (.eq (.slice) false (.t 3) (.c (.nilSlice)))]
 (.cond (.t 4) (Rg [Op 2 (.move (.c (.nilSlice)))]
 (.ret))
 (.skip)))
 (Rg [Op 5 (.buildSlice [.int (.i64) 0] 0 []), Mv 6 0, Op 7 (.append 1 8 (.t 5) (.t 6)), Mv 2 7]
 (.ret)))⟩
theorem ok40 : compFunc prog glb 40 p40 = some c40 := by kernel_rfl
def p41 : List Plan := []
def c41 : CFunc := ⟨22, [.tmp 4],
 Rg [Op 4 (.move (.c (.bool false)))]
 (.seq (Rg [Mv 6 0, Op 7 (.len (.slice) (.t 6)), Mv 8 1, Op 9 (.bin (.neq) (.t 7) (.t 8))]
 (.cond (.t 9) (Rg [Op 4 (.move (.c (.bool false)))]
 (.ret))
 (.skip)))
 (.seq (Rg [Op 5 (.move (Ci 0))]
 (.block 0 (.loop (.seq (Rg [Mv 10 5, Mv 11 0, Op 12 (.len (.slice) (.t 11)), Op 13 (.bin (.lss) (.t 10) (.t 12))]
 (.cond (.t 13) (.skip)
 (.exit 0)))
 (.seq (.block 1 (Rg [Mv 16 0, Mv 17 5, Op 18 (.indexAddr 1 (.t 16) (.t 17)), Op 19 (.load false 1 (.t 18)), Op 20 (Ca 74 [.t 19, Ci 0, Ci 1000]), Op 21 (.un (.not) (.t 20))]
 (.cond (.t 21) (Rg [Op 4 (.move (.c (.bool false)))]
 (.ret))
 (.skip))))
 (.region [Mv 14 5, Op 15 (.bin (.add) (.t 14) (Ci 1)), Mv 5 15]))))))
 (Rg [Op 4 (.move (.c (.bool true)))]
 (.ret))))⟩
theorem ok41 : compFunc prog glb 41 p41 = some c41 := by kernel_rfl
def p42 : List Plan := []
def c42 : CFunc := ⟨18, [.tmp 4],
 Rg [Op 4 (.move (.c (.bool false)))]
 (.seq (Rg [Op 5 (.move (Ci 0))]
 (.block 0 (.loop (.seq (Rg [Mv 6 5, Mv 7 0, Op 8 (.len (.slice) (.t 7)), Op 9 (.bin (.lss) (.t 6) (.t 8))]
 (.cond (.t 9) (.skip)
 (.exit 0)))
 (.seq (.block 1 (Rg [Mv 12 0, Mv 13 5, Op 14 (.indexAddr 1 (.t 12) (.t 13)), Op 15 (.load false 1 (.t 14)), Mv 16 1, Op 17 (.bin (.eql) (.t 15) (.t 16))]
 (.cond (.t 17) (Rg [Op 4 (.move (.c (.bool true)))]
 (.ret))
 (.skip))))
 (.region [Mv 10 5, Op 11 (.bin (.add) (.t 10) (Ci 1)), Mv 5 11]))))))
 (Rg [Op 4 (.move (.c (.bool false)))]
 (.ret)))⟩
theorem ok42 : compFunc prog glb 42 p42 = some c42 := by kernel_rfl
def p43 : List Plan := []
def c43 : CFunc := ⟨6, [.tmp 2],
 Rg [Op 2 (.move (.c (.nilSlice)))]
 (Rg [Op 3 (.buildSlice [.int (.i64) 0] 0 []), Mv 4 0, Op 5 (.append 1 8 (.t 3) (.t 4)), Mv 2 5]
 (.ret))⟩
theorem ok43 : compFunc prog glb 43 p43 = some c43 := by kernel_rfl
def p44 : List Plan := [⟨[(5, .quiet [0]), (1, .quiet [0]), (2, .quiet [0]), (3, .quiet [0]), (4, .quiet [0]), (6, .quiet [0]), (7, .eff), (8, .quiet [0, 7]), (9, .alloc 0), (10, .eff), (15, .quiet [0, 7, 10]), (11, .quiet [0, 7, 10]), (12, .quiet [0, 7, 10]), (13, .quiet [0, 7, 10]), (14, .quiet [0, 7, 10]), (16, .quiet [0, 7, 10]), (17, .eff), (0, .quiet [0, 7, 10, 17]), (18, .quiet [17]), (19, .quiet [17]), (20, .eff)], 1, [0, 0, 2, 6, 14, 0, 62, 126, 0, 256, 1022, 0, 2048, 6144, 14336, 0, 63488, 131070, 262143, 524287, 1048575]⟩, ⟨[(1, .eff), (6, .quiet [0, 1]), (2, .quiet [0, 1]), (3, .quiet [0, 1]), (4, .quiet [0, 1]), (5, .quiet [0, 1]), (7, .quiet [0, 1]), (8, .eff), (9, .quiet [0, 1, 8]), (10, .quiet [0, 1, 8]), (11, .quiet [0, 1, 8]), (12, .quiet [0, 1, 8]), (13, .quiet [0, 1, 8]), (14, .alloc 0), (15, .alloc 1), (16, .eff), (21, .quiet [0, 1, 8, 16]), (17, .quiet [0, 1, 8, 16]), (18, .quiet [0, 1, 8, 16]), (19, .quiet [0, 1, 8, 16]), (20, .quiet [0, 1, 8, 16]), (22, .quiet [0, 1, 8, 16]), (23, .eff), (0, .quiet [0, 1, 8, 16, 23]), (24, .quiet [23]), (25, .quiet [23]), (26, .eff)], 2, [0, 0, 0, 4, 12, 28, 0, 124, 254, 0, 512, 1536, 3584, 7680, 15872, 32256, 65534, 0, 131072, 393216, 917504, 0, 4063232, 8388606, 16777215, 33554431, 67108863]⟩, ⟨[(1, .eff), (6, .quiet [0, 1]), (2, .quiet [0, 1]), (3, .quiet [0, 1]), (4, .quiet [0, 1]), (5, .quiet [0, 1]), (7, .quiet [0, 1]), (8, .eff), (9, .quiet [0, 1, 8]), (10, .eff), (11, .eff), (12, .eff), (17, .quiet [0, 1, 8, 10, 11, 12]), (13, .quiet [0, 1, 8, 10, 11, 12]), (14, .quiet [0, 1, 8, 10, 11, 12]), (15, .quiet [0, 1, 8, 10, 11, 12]), (16, .quiet [0, 1, 8, 10, 11, 12]), (18, .quiet [0, 1, 8, 10, 11, 12]), (19, .eff), (0, .quiet [0, 1, 8, 10, 11, 12, 19]), (20, .quiet [19]), (21, .quiet [19]), (22, .eff)], 0, [0, 0, 0, 4, 12, 28, 0, 124, 254, 0, 1022, 2046, 4094, 0, 8192, 24576, 57344, 0, 253952, 524286, 1048575, 2097151, 4194303]⟩]
def c44 : CFunc := ⟨131, [.tmp 6],
 Rg [Op 6 (.move (Ci 0))]
 (.seq (Rg [Mv 8 1, Op 9 (.bin (.lss) (.t 8) (Ci 1)), Mv 10 9, Mf 11 2 10, Mf 12 0 10, Of 13 (.nilCheck (.t 12)) 10, Of 14 (.fieldAddr 0 (.t 13)) 10, Of 15 (.load false 1 (.t 14)) 10, Of 16 (.len (.slice) (.t 15)) 10, Of 17 (Ca 41 [.t 11, .t 16]) 10, Of 18 (.un (.not) (.t 17)) 10, Op 19 (.pick (.t 10) (.c (.bool true)) (.t 18))]
 (.cond (.t 19) (Rg [Op 6 (.move (Ci 1))]
 (.ret))
 (.skip)))
 (.seq (Rg [Mv 20 0, Mv 21 1, Op 22 (Ca 75 [.t 20, .t 21]), Op 23 (.bin (.geq) (.t 22) (Ci 0))]
 (.cond (.t 23) (Rg [Op 6 (.move (Ci 4))]
 (.ret))
 (.skip)))
 (.seq (Rg [Mv 24 0, Op 25 (.nilCheck (.t 24)), Op 26 (.fieldAddr 3 (.t 25)), Op 27 (.load false 1 (.t 26)), Op 28 (.len (.slice) (.t 27)), Op 29 (.bin (.geq) (.t 28) (Ci 32))]
 (.cond (.t 29) (Rg [Op 6 (.move (Ci 1))]
 (.ret))
 (.skip)))
 (.seq (Rg [Mv 30 0, Op 31 (.nilCheck (.t 30)), Op 32 (.fieldAddr 2 (.t 31)), Op 33 (.load false 1 (.t 32)), Mv 34 33, Mt 35 2 34, Mt 36 0 34, Ot 37 (.nilCheck (.t 36)) 34, Ot 38 (.fieldAddr 0 (.t 37)) 34, Ot 39 (.load false 1 (.t 38)) 34, Ot 40 (Ca 76 [.t 35, .t 39]) 34, Ot 41 (.un (.not) (.t 40)) 34, Op 42 (.pick (.t 34) (.t 41) (.c (.bool false)))]
 (.cond (.t 42) (Rg [Op 6 (.move (Ci 35))]
 (.ret))
 (.skip)))
 (Rg [Op 7 (.move (Ci 0))]
 (.seq (.block 0 (.loop (.seq (Rg [Mv 43 7, Mv 44 0, Op 45 (.nilCheck (.t 44)), Op 46 (.fieldAddr 3 (.t 45)), Op 47 (.load false 1 (.t 46)), Op 48 (.len (.slice) (.t 47)), Op 49 (.bin (.lss) (.t 43) (.t 48)), Mv 50 49, Mt 51 0 50, Ot 52 (.nilCheck (.t 51)) 50, Ot 53 (.fieldAddr 3 (.t 52)) 50, Ot 54 (.load false 1 (.t 53)) 50, Mt 55 7 50, Ot 56 (.indexAddr 1 (.t 54) (.t 55)) 50, Ot 57 (.load false 1 (.t 56)) 50, Mt 58 1 50, Ot 59 (.bin (.lss) (.t 57) (.t 58)) 50, Op 60 (.pick (.t 50) (.t 59) (.c (.bool false)))]
 (.cond (.t 60) (.skip)
 (.exit 0)))
 (.block 1 (.region [Mv 61 7, Op 62 (.bin (.add) (.t 61) (Ci 1)), Mv 7 62])))))
 (.seq (.draw [⟨5, Mv 68 7, (.quiet [0])⟩,
 ⟨1, Mv 64 0, (.quiet [0])⟩,
 ⟨2, Op 65 (.nilCheck (.t 64)), (.quiet [0])⟩,
 ⟨3, Op 66 (.fieldAddr 3 (.t 65)), (.quiet [0])⟩,
 ⟨4, Op 67 (.load false 1 (.t 66)), (.quiet [0])⟩,
 ⟨6, Op 69 (.slice 1 (.t 67) none (some (.t 68)) none), (.quiet [0])⟩,
 ⟨7, Op 70 (Ca 43 [.t 69]), (.eff)⟩,
 ⟨8, Mv 71 1, (.quiet [0, 7])⟩,
 ⟨9, Op 72 (.buildSlice [.int (.i64) 0] 1 [(0, 1, .t 71)]), (.alloc 0)⟩,
 ⟨10, Op 73 (.append 1 8 (.t 70) (.t 72)), (.eff)⟩,
 ⟨15, Mv 78 7, (.quiet [0, 7, 10])⟩,
 ⟨11, Mv 74 0, (.quiet [0, 7, 10])⟩,
 ⟨12, Op 75 (.nilCheck (.t 74)), (.quiet [0, 7, 10])⟩,
 ⟨13, Op 76 (.fieldAddr 3 (.t 75)), (.quiet [0, 7, 10])⟩,
 ⟨14, Op 77 (.load false 1 (.t 76)), (.quiet [0, 7, 10])⟩,
 ⟨16, Op 79 (.slice 1 (.t 77) (some (.t 78)) none none), (.quiet [0, 7, 10])⟩,
 ⟨17, Op 80 (.append 1 8 (.t 73) (.t 79)), (.eff)⟩,
 ⟨0, Mv 63 0, (.quiet [0, 7, 10, 17])⟩,
 ⟨18, Op 81 (.nilCheck (.t 63)), (.quiet [17])⟩,
 ⟨19, Op 82 (.fieldAddr 3 (.t 81)), (.quiet [17])⟩,
 ⟨20, On (.store 1 (.t 82) (.t 80)), (.eff)⟩] 1)
 (.seq (.draw [⟨1, Op 84 (.buildSlice [.nilSlice] 0 []), (.eff)⟩,
 ⟨6, Mv 89 7, (.quiet [0, 1])⟩,
 ⟨2, Mv 85 0, (.quiet [0, 1])⟩,
 ⟨3, Op 86 (.nilCheck (.t 85)), (.quiet [0, 1])⟩,
 ⟨4, Op 87 (.fieldAddr 4 (.t 86)), (.quiet [0, 1])⟩,
 ⟨5, Op 88 (.load false 1 (.t 87)), (.quiet [0, 1])⟩,
 ⟨7, Op 90 (.slice 1 (.t 88) none (some (.t 89)) none), (.quiet [0, 1])⟩,
 ⟨8, Op 91 (.append 1 24 (.t 84) (.t 90)), (.eff)⟩,
 ⟨9, Mv 92 0, (.quiet [0, 1, 8])⟩,
 ⟨10, Op 93 (.nilCheck (.t 92)), (.quiet [0, 1, 8])⟩,
 ⟨11, Op 94 (.fieldAddr 0 (.t 93)), (.quiet [0, 1, 8])⟩,
 ⟨12, Op 95 (.load false 1 (.t 94)), (.quiet [0, 1, 8])⟩,
 ⟨13, Op 96 (.len (.slice) (.t 95)), (.quiet [0, 1, 8])⟩,
 ⟨14, Op 97 (.makeSlice [.int (.i64) 0] 8 (.t 96) (.t 96)), (.alloc 0)⟩,
 ⟨15, Op 98 (.buildSlice [.nilSlice] 1 [(0, 1, .t 97)]), (.alloc 1)⟩,
 ⟨16, Op 99 (.append 1 24 (.t 91) (.t 98)), (.eff)⟩,
 ⟨21, Mv 104 7, (.quiet [0, 1, 8, 16])⟩,
 ⟨17, Mv 100 0, (.quiet [0, 1, 8, 16])⟩,
 ⟨18, Op 101 (.nilCheck (.t 100)), (.quiet [0, 1, 8, 16])⟩,
 ⟨19, Op 102 (.fieldAddr 4 (.t 101)), (.quiet [0, 1, 8, 16])⟩,
 ⟨20, Op 103 (.load false 1 (.t 102)), (.quiet [0, 1, 8, 16])⟩,
 ⟨22, Op 105 (.slice 1 (.t 103) (some (.t 104)) none none), (.quiet [0, 1, 8, 16])⟩,
 ⟨23, Op 106 (.append 1 24 (.t 99) (.t 105)), (.eff)⟩,
 ⟨0, Mv 83 0, (.quiet [0, 1, 8, 16, 23])⟩,
 ⟨24, Op 107 (.nilCheck (.t 83)), (.quiet [23])⟩,
 ⟨25, Op 108 (.fieldAddr 4 (.t 107)), (.quiet [23])⟩,
 ⟨26, On (.store 1 (.t 108) (.t 106)), (.eff)⟩] 2)
 (.seq (.draw [⟨1, Op 110 (.buildSlice [.nilSlice] 0 []), (.eff)⟩,
 ⟨6, Mv 115 7, (.quiet [0, 1])⟩,
 ⟨2, Mv 111 0, (.quiet [0, 1])⟩,
 ⟨3, Op 112 (.nilCheck (.t 111)), (.quiet [0, 1])⟩,
 ⟨4, Op 113 (.fieldAddr 5 (.t 112)), (.quiet [0, 1])⟩,
 ⟨5, Op 114 (.load false 1 (.t 113)), (.quiet [0, 1])⟩,
 ⟨7, Op 116 (.slice 1 (.t 114) none (some (.t 115)) none), (.quiet [0, 1])⟩,
 ⟨8, Op 117 (.append 1 24 (.t 110) (.t 116)), (.eff)⟩,
 ⟨9, Mv 118 2, (.quiet [0, 1, 8])⟩,
 ⟨10, Op 119 (Ca 43 [.t 118]), (.eff)⟩,
 ⟨11, Op 120 (.buildSlice [.nilSlice] 1 [(0, 1, .t 119)]), (.eff)⟩,
 ⟨12, Op 121 (.append 1 24 (.t 117) (.t 120)), (.eff)⟩,
 ⟨17, Mv 126 7, (.quiet [0, 1, 8, 10, 11, 12])⟩,
 ⟨13, Mv 122 0, (.quiet [0, 1, 8, 10, 11, 12])⟩,
 ⟨14, Op 123 (.nilCheck (.t 122)), (.quiet [0, 1, 8, 10, 11, 12])⟩,
 ⟨15, Op 124 (.fieldAddr 5 (.t 123)), (.quiet [0, 1, 8, 10, 11, 12])⟩,
 ⟨16, Op 125 (.load false 1 (.t 124)), (.quiet [0, 1, 8, 10, 11, 12])⟩,
 ⟨18, Op 127 (.slice 1 (.t 125) (some (.t 126)) none none), (.quiet [0, 1, 8, 10, 11, 12])⟩,
 ⟨19, Op 128 (.append 1 24 (.t 121) (.t 127)), (.eff)⟩,
 ⟨0, Mv 109 0, (.quiet [0, 1, 8, 10, 11, 12, 19])⟩,
 ⟨20, Op 129 (.nilCheck (.t 109)), (.quiet [19])⟩,
 ⟨21, Op 130 (.fieldAddr 5 (.t 129)), (.quiet [19])⟩,
 ⟨22, On (.store 1 (.t 130) (.t 128)), (.eff)⟩] 0)
 (Rg [Op 6 (.move (Ci 0))]
 (.ret)))))))))))⟩
theorem ok44 : compFunc prog glb 44 p44 = some c44 := by kernel_rfl
def p45 : List Plan := [⟨[(0, .quiet [0]), (1, .quiet [0]), (2, .quiet [0]), (3, .quiet [0]), (4, .quiet [0]), (12, .quiet [0]), (9, .quiet [0]), (5, .quiet [0]), (6, .quiet [0]), (7, .quiet [0]), (8, .quiet [0]), (10, .quiet [0]), (11, .quiet [0]), (13, .eff), (18, .quiet [0, 14]), (14, .quiet [0, 14]), (15, .quiet [0, 14]), (16, .quiet [0, 14]), (17, .quiet [0, 14]), (19, .quiet [0, 14]), (20, .quiet [0, 14]), (21, .eff), (22, .quiet [22]), (23, .quiet [22])], 0, [0, 1, 3, 7, 15, 31, 63, 127, 255, 31, 1023, 2047, 31, 8191, 31, 16415, 49183, 114719, 31, 507935, 1032223, 2097151, 4194303, 8388607]⟩]
def c45 : CFunc := ⟨67, [.tmp 6, .tmp 7],
 Rg [Op 6 (.move (.c (.nilSlice))), Op 7 (.move (Ci 0))]
 (Rg [Mv 9 0, Mv 10 1, Op 11 (Ca 75 [.t 9, .t 10]), Mv 8 11]
 (.seq (Rg [Mv 12 8, Op 13 (.bin (.lss) (.t 12) (Ci 0))]
 (.cond (.t 13) (Rg [Op 6 (.move (.c (.nilSlice))), Op 7 (.move (Ci 3))]
 (.ret))
 (.skip)))
 (.seq (Rg [Mv 14 2, Mv 15 0, Op 16 (.nilCheck (.t 15)), Op 17 (.fieldAddr 0 (.t 16)), Op 18 (.load false 1 (.t 17)), Op 19 (.len (.slice) (.t 18)), Op 20 (Ca 41 [.t 14, .t 19]), Op 21 (.un (.not) (.t 20))]
 (.cond (.t 21) (Rg [Op 6 (.move (.c (.nilSlice))), Op 7 (.move (Ci 1))]
 (.ret))
 (.skip)))
 (.seq (Rg [Mv 22 0, Mv 23 1, Op 24 (Ca 77 [.t 22, .t 23]), Op 25 (.bin (.geq) (.t 24) (Ci 0))]
 (.cond (.t 25) (Rg [Op 6 (.move (.c (.nilSlice))), Op 7 (.move (Ci 4))]
 (.ret))
 (.skip)))
 (.seq (.seq (.draw [⟨0, Mv 26 0, (.quiet [0])⟩,
 ⟨1, Op 27 (.nilCheck (.t 26)), (.quiet [0])⟩,
 ⟨2, Op 28 (.fieldAddr 2 (.t 27)), (.quiet [0])⟩,
 ⟨3, Op 29 (.load false 1 (.t 28)), (.quiet [0])⟩,
 ⟨4, Mv 30 29, (.quiet [0])⟩,
 ⟨12, Mt 38 2 30, (.quiet [0])⟩,
 ⟨9, Mt 35 8 30, (.quiet [0])⟩,
 ⟨5, Mt 31 0 30, (.quiet [0])⟩,
 ⟨6, Ot 32 (.nilCheck (.t 31)) 30, (.quiet [0])⟩,
 ⟨7, Ot 33 (.fieldAddr 4 (.t 32)) 30, (.quiet [0])⟩,
 ⟨8, Ot 34 (.load false 1 (.t 33)) 30, (.quiet [0])⟩,
 ⟨10, Ot 36 (.indexAddr 1 (.t 34) (.t 35)) 30, (.quiet [0])⟩,
 ⟨11, Ot 37 (.load false 1 (.t 36)) 30, (.quiet [0])⟩,
 ⟨13, Ot 39 (Ca 78 [.t 37, .t 38]) 30, (.eff)⟩,
 ⟨18, Mt 44 8 30, (.quiet [0, 14])⟩,
 ⟨14, Mt 40 0 30, (.quiet [0, 14])⟩,
 ⟨15, Ot 41 (.nilCheck (.t 40)) 30, (.quiet [0, 14])⟩,
 ⟨16, Ot 42 (.fieldAddr 5 (.t 41)) 30, (.quiet [0, 14])⟩,
 ⟨17, Ot 43 (.load false 1 (.t 42)) 30, (.quiet [0, 14])⟩,
 ⟨19, Ot 45 (.indexAddr 1 (.t 43) (.t 44)) 30, (.quiet [0, 14])⟩,
 ⟨20, Ot 46 (.load false 1 (.t 45)) 30, (.quiet [0, 14])⟩,
 ⟨21, Ot 47 (Ca 76 [.t 39, .t 46]) 30, (.eff)⟩,
 ⟨22, Ot 48 (.un (.not) (.t 47)) 30, (.quiet [22])⟩,
 ⟨23, Op 49 (.pick (.t 30) (.t 48) (.c (.bool false))), (.quiet [22])⟩] 0)
 (.cond (.t 49) (Rg [Op 6 (.move (.c (.nilSlice))), Op 7 (.move (Ci 35))]
 (.ret))
 (.skip)))
 (Rg [Mv 50 0, Op 51 (.buildSlice [.int (.i64) 0, .nilSlice] 0 []), Mv 52 0, Op 53 (.nilCheck (.t 52)), Op 54 (.fieldAddr 6 (.t 53)), Op 55 (.load false 1 (.t 54)), Op 56 (.append 2 32 (.t 51) (.t 55)), Mv 57 1, Mv 58 2, Op 59 (Ca 43 [.t 58]), Op 60 (.build [.int (.i64) 0, .nilSlice] [(0, 1, .t 57), (1, 1, .t 59)]), Op 61 (.buildSlice [.int (.i64) 0, .nilSlice] 1 [(0, 2, .t 60)]), Op 62 (.append 2 32 (.t 56) (.t 61)), Op 63 (.nilCheck (.t 50)), Op 64 (.fieldAddr 6 (.t 63)), On (.store 1 (.t 64) (.t 62))]
 (Rg [Mv 65 0, Op 66 (Ca 79 [.t 65]), Mv 6 66, Op 7 (.move (Ci 0))]
 (.ret))))))))⟩
theorem ok45 : compFunc prog glb 45 p45 = some c45 := by kernel_rfl
def p46 : List Plan := [⟨[(12, .quiet [0]), (9, .quiet [0]), (5, .quiet [0]), (6, .quiet [0]), (7, .quiet [0]), (8, .quiet [0]), (10, .quiet [0]), (11, .quiet [0]), (13, .eff), (14, .quiet [9]), (15, .quiet [9]), (4, .quiet [0, 9]), (0, .quiet [0, 9]), (1, .quiet [0, 9]), (2, .quiet [0, 9]), (3, .quiet [0, 9]), (17, .quiet [9]), (18, .eff), (16, .quiet [9, 18])], 0, [0, 1, 3, 7, 0, 0, 32, 96, 224, 0, 992, 2016, 0, 8160, 16352, 32736, 32736, 65535, 196607]⟩]
def c46 : CFunc := ⟨70, [.tmp 6, .tmp 7],
 Rg [Op 6 (.move (.c (.nilSlice))), Op 7 (.move (Ci 0))]
 (Rg [Mv 9 0, Mv 10 1, Op 11 (Ca 75 [.t 9, .t 10]), Mv 8 11]
 (.seq (Rg [Mv 12 8, Op 13 (.bin (.lss) (.t 12) (Ci 0))]
 (.cond (.t 13) (Rg [Op 6 (.move (.c (.nilSlice))), Op 7 (.move (Ci 3))]
 (.ret))
 (.skip)))
 (.seq (Rg [Mv 14 2, Mv 15 0, Op 16 (.nilCheck (.t 15)), Op 17 (.fieldAddr 0 (.t 16)), Op 18 (.load false 1 (.t 17)), Op 19 (.len (.slice) (.t 18)), Op 20 (Ca 41 [.t 14, .t 19]), Op 21 (.un (.not) (.t 20))]
 (.cond (.t 21) (Rg [Op 6 (.move (.c (.nilSlice))), Op 7 (.move (Ci 1))]
 (.ret))
 (.skip)))
 (.seq (Rg [Mv 22 2, Mv 23 0, Op 24 (.nilCheck (.t 23)), Op 25 (.fieldAddr 4 (.t 24)), Op 26 (.load false 1 (.t 25)), Mv 27 8, Op 28 (.indexAddr 1 (.t 26) (.t 27)), Op 29 (.load false 1 (.t 28)), Op 30 (Ca 76 [.t 22, .t 29]), Op 31 (.un (.not) (.t 30))]
 (.cond (.t 31) (Rg [Op 6 (.move (.c (.nilSlice))), Op 7 (.move (Ci 36))]
 (.ret))
 (.skip)))
 (Rg [Mv 32 0, Mv 33 0, Op 34 (.nilCheck (.t 33)), Op 35 (.fieldAddr 1 (.t 34)), Op 36 (.load false 1 (.t 35)), Mv 37 2, Op 38 (Ca 78 [.t 36, .t 37]), Op 39 (.nilCheck (.t 32)), Op 40 (.fieldAddr 1 (.t 39)), On (.store 1 (.t 40) (.t 38))]
 (Rg [Mv 41 0, Op 42 (.buildSlice [.nilSlice] 0 []), Mv 43 0, Op 44 (.nilCheck (.t 43)), Op 45 (.fieldAddr 4 (.t 44)), Op 46 (.load false 1 (.t 45)), Op 47 (.append 1 24 (.t 42) (.t 46)), Op 48 (.nilCheck (.t 41)), Op 49 (.fieldAddr 4 (.t 48)), On (.store 1 (.t 49) (.t 47))]
 (.seq (.draw [⟨12, Mv 63 2, (.quiet [0])⟩,
 ⟨9, Mv 60 8, (.quiet [0])⟩,
 ⟨5, Mv 56 0, (.quiet [0])⟩,
 ⟨6, Op 57 (.nilCheck (.t 56)), (.quiet [0])⟩,
 ⟨7, Op 58 (.fieldAddr 4 (.t 57)), (.quiet [0])⟩,
 ⟨8, Op 59 (.load false 1 (.t 58)), (.quiet [0])⟩,
 ⟨10, Op 61 (.indexAddr 1 (.t 59) (.t 60)), (.quiet [0])⟩,
 ⟨11, Op 62 (.load false 1 (.t 61)), (.quiet [0])⟩,
 ⟨13, Op 64 (Ca 27 [.t 62, .t 63]), (.eff)⟩,
 ⟨14, Mv 50 64, (.quiet [9])⟩,
 ⟨15, Op 65 (.extract (.t 50) 0), (.quiet [9])⟩,
 ⟨4, Mv 55 8, (.quiet [0, 9])⟩,
 ⟨0, Mv 51 0, (.quiet [0, 9])⟩,
 ⟨1, Op 52 (.nilCheck (.t 51)), (.quiet [0, 9])⟩,
 ⟨2, Op 53 (.fieldAddr 4 (.t 52)), (.quiet [0, 9])⟩,
 ⟨3, Op 54 (.load false 1 (.t 53)), (.quiet [0, 9])⟩,
 ⟨17, Op 67 (.indexAddr 1 (.t 54) (.t 55)), (.quiet [9])⟩,
 ⟨18, On (.store 1 (.t 67) (.t 65)), (.eff)⟩,
 ⟨16, Op 66 (.extract (.t 50) 1), (.quiet [9, 18])⟩] 0)
 (Rg [Mv 68 0, Op 69 (Ca 79 [.t 68]), Mv 6 69, Op 7 (.move (Ci 0))]
 (.ret)))))))))⟩
theorem ok46 : compFunc prog glb 46 p46 = some c46 := by kernel_rfl
def p47 : List Plan := [⟨[(9, .quiet [0]), (5, .quiet [0]), (6, .quiet [0]), (7, .quiet [0]), (8, .quiet [0]), (10, .quiet [0]), (11, .quiet [0]), (1, .quiet [0]), (2, .quiet [0]), (3, .quiet [0]), (4, .quiet [0]), (12, .eff), (0, .quiet [0, 12]), (13, .quiet [12]), (14, .quiet [12]), (15, .eff)], 0, [0, 0, 2, 6, 14, 0, 32, 96, 224, 0, 992, 2016, 4094, 8191, 16383, 32767]⟩, ⟨[(1, .eff), (6, .quiet [0, 1]), (2, .quiet [0, 1]), (3, .quiet [0, 1]), (4, .quiet [0, 1]), (5, .quiet [0, 1]), (7, .quiet [0, 1]), (8, .eff), (13, .quiet [0, 1, 8]), (14, .quiet [0, 1, 8]), (9, .quiet [0, 1, 8]), (10, .quiet [0, 1, 8]), (11, .quiet [0, 1, 8]), (12, .quiet [0, 1, 8]), (15, .quiet [0, 1, 8]), (16, .eff), (0, .quiet [0, 1, 8, 16]), (17, .quiet [16]), (18, .quiet [16]), (19, .eff)], 0, [0, 0, 0, 4, 12, 28, 0, 124, 254, 0, 512, 1536, 3584, 0, 8192, 32256, 65534, 131071, 262143, 524287]⟩, ⟨[(5, .quiet [0]), (1, .quiet [0]), (2, .quiet [0]), (3, .quiet [0]), (4, .quiet [0]), (6, .quiet [0]), (7, .eff), (12, .quiet [0, 7]), (13, .quiet [0, 7]), (8, .quiet [0, 7]), (9, .quiet [0, 7]), (10, .quiet [0, 7]), (11, .quiet [0, 7]), (14, .quiet [0, 7]), (15, .eff), (0, .quiet [0, 7, 15]), (16, .quiet [15]), (17, .quiet [15]), (18, .eff)], 0, [0, 0, 2, 6, 14, 0, 62, 126, 0, 256, 768, 1792, 0, 4096, 16128, 32766, 65535, 131071, 262143]⟩, ⟨[(1, .eff), (6, .quiet [0, 1]), (2, .quiet [0, 1]), (3, .quiet [0, 1]), (4, .quiet [0, 1]), (5, .quiet [0, 1]), (7, .quiet [0, 1]), (8, .eff), (13, .quiet [0, 1, 8]), (14, .quiet [0, 1, 8]), (9, .quiet [0, 1, 8]), (10, .quiet [0, 1, 8]), (11, .quiet [0, 1, 8]), (12, .quiet [0, 1, 8]), (15, .quiet [0, 1, 8]), (16, .eff), (0, .quiet [0, 1, 8, 16]), (17, .quiet [16]), (18, .quiet [16]), (19, .eff)], 0, [0, 0, 0, 4, 12, 28, 0, 124, 254, 0, 512, 1536, 3584, 0, 8192, 32256, 65534, 131071, 262143, 524287]⟩, ⟨[(1, .eff), (6, .quiet [0, 1]), (2, .quiet [0, 1]), (3, .quiet [0, 1]), (4, .quiet [0, 1]), (5, .quiet [0, 1]), (7, .quiet [0, 1]), (8, .eff), (13, .quiet [0, 1, 8]), (14, .quiet [0, 1, 8]), (9, .quiet [0, 1, 8]), (10, .quiet [0, 1, 8]), (11, .quiet [0, 1, 8]), (12, .quiet [0, 1, 8]), (15, .quiet [0, 1, 8]), (16, .eff), (0, .quiet [0, 1, 8, 16]), (17, .quiet [16]), (18, .quiet [16]), (19, .eff)], 0, [0, 0, 0, 4, 12, 28, 0, 124, 254, 0, 512, 1536, 3584, 0, 8192, 32256, 65534, 131071, 262143, 524287]⟩]
def c47 : CFunc := ⟨110, [.tmp 4, .tmp 5],
 Rg [Op 4 (.move (.c (.nilSlice))), Op 5 (.move (.c (.bool false)))]
 (Rg [Mv 8 0, Mv 9 1, Op 10 (Ca 75 [.t 8, .t 9]), Mv 6 10]
 (.seq (Rg [Mv 11 6, Op 12 (.bin (.lss) (.t 11) (Ci 0))]
 (.cond (.t 12) (Rg [Op 4 (.move (.c (.nilSlice))), Op 5 (.move (.c (.bool false)))]
 (.ret))
 (.skip)))
 (.seq (.draw [⟨9, Mv 22 6, (.quiet [0])⟩,
 ⟨5, Mv 18 0, (.quiet [0])⟩,
 ⟨6, Op 19 (.nilCheck (.t 18)), (.quiet [0])⟩,
 ⟨7, Op 20 (.fieldAddr 4 (.t 19)), (.quiet [0])⟩,
 ⟨8, Op 21 (.load false 1 (.t 20)), (.quiet [0])⟩,
 ⟨10, Op 23 (.indexAddr 1 (.t 21) (.t 22)), (.quiet [0])⟩,
 ⟨11, Op 24 (.load false 1 (.t 23)), (.quiet [0])⟩,
 ⟨1, Mv 14 0, (.quiet [0])⟩,
 ⟨2, Op 15 (.nilCheck (.t 14)), (.quiet [0])⟩,
 ⟨3, Op 16 (.fieldAddr 1 (.t 15)), (.quiet [0])⟩,
 ⟨4, Op 17 (.load false 1 (.t 16)), (.quiet [0])⟩,
 ⟨12, Op 25 (Ca 78 [.t 17, .t 24]), (.eff)⟩,
 ⟨0, Mv 13 0, (.quiet [0, 12])⟩,
 ⟨13, Op 26 (.nilCheck (.t 13)), (.quiet [12])⟩,
 ⟨14, Op 27 (.fieldAddr 1 (.t 26)), (.quiet [12])⟩,
 ⟨15, On (.store 1 (.t 27) (.t 25)), (.eff)⟩] 0)
 (Rg [Mv 28 0, Mv 29 1, Op 30 (Ca 77 [.t 28, .t 29]), Mv 7 30]
 (.seq (Rg [Mv 31 7, Op 32 (.bin (.geq) (.t 31) (Ci 0))]
 (.cond (.t 32) (.draw [⟨1, Op 34 (.buildSlice [.int (.i64) 0, .nilSlice] 0 []), (.eff)⟩,
 ⟨6, Mv 39 7, (.quiet [0, 1])⟩,
 ⟨2, Mv 35 0, (.quiet [0, 1])⟩,
 ⟨3, Op 36 (.nilCheck (.t 35)), (.quiet [0, 1])⟩,
 ⟨4, Op 37 (.fieldAddr 6 (.t 36)), (.quiet [0, 1])⟩,
 ⟨5, Op 38 (.load false 1 (.t 37)), (.quiet [0, 1])⟩,
 ⟨7, Op 40 (.slice 2 (.t 38) none (some (.t 39)) none), (.quiet [0, 1])⟩,
 ⟨8, Op 41 (.append 2 32 (.t 34) (.t 40)), (.eff)⟩,
 ⟨13, Mv 46 7, (.quiet [0, 1, 8])⟩,
 ⟨14, Op 47 (.bin (.add) (.t 46) (Ci 1)), (.quiet [0, 1, 8])⟩,
 ⟨9, Mv 42 0, (.quiet [0, 1, 8])⟩,
 ⟨10, Op 43 (.nilCheck (.t 42)), (.quiet [0, 1, 8])⟩,
 ⟨11, Op 44 (.fieldAddr 6 (.t 43)), (.quiet [0, 1, 8])⟩,
 ⟨12, Op 45 (.load false 1 (.t 44)), (.quiet [0, 1, 8])⟩,
 ⟨15, Op 48 (.slice 2 (.t 45) (some (.t 47)) none none), (.quiet [0, 1, 8])⟩,
 ⟨16, Op 49 (.append 2 32 (.t 41) (.t 48)), (.eff)⟩,
 ⟨0, Mv 33 0, (.quiet [0, 1, 8, 16])⟩,
 ⟨17, Op 50 (.nilCheck (.t 33)), (.quiet [16])⟩,
 ⟨18, Op 51 (.fieldAddr 6 (.t 50)), (.quiet [16])⟩,
 ⟨19, On (.store 1 (.t 51) (.t 49)), (.eff)⟩] 0)
 (.skip)))
 (.seq (.draw [⟨5, Mv 57 6, (.quiet [0])⟩,
 ⟨1, Mv 53 0, (.quiet [0])⟩,
 ⟨2, Op 54 (.nilCheck (.t 53)), (.quiet [0])⟩,
 ⟨3, Op 55 (.fieldAddr 3 (.t 54)), (.quiet [0])⟩,
 ⟨4, Op 56 (.load false 1 (.t 55)), (.quiet [0])⟩,
 ⟨6, Op 58 (.slice 1 (.t 56) none (some (.t 57)) none), (.quiet [0])⟩,
 ⟨7, Op 59 (Ca 43 [.t 58]), (.eff)⟩,
 ⟨12, Mv 64 6, (.quiet [0, 7])⟩,
 ⟨13, Op 65 (.bin (.add) (.t 64) (Ci 1)), (.quiet [0, 7])⟩,
 ⟨8, Mv 60 0, (.quiet [0, 7])⟩,
 ⟨9, Op 61 (.nilCheck (.t 60)), (.quiet [0, 7])⟩,
 ⟨10, Op 62 (.fieldAddr 3 (.t 61)), (.quiet [0, 7])⟩,
 ⟨11, Op 63 (.load false 1 (.t 62)), (.quiet [0, 7])⟩,
 ⟨14, Op 66 (.slice 1 (.t 63) (some (.t 65)) none none), (.quiet [0, 7])⟩,
 ⟨15, Op 67 (.append 1 8 (.t 59) (.t 66)), (.eff)⟩,
 ⟨0, Mv 52 0, (.quiet [0, 7, 15])⟩,
 ⟨16, Op 68 (.nilCheck (.t 52)), (.quiet [15])⟩,
 ⟨17, Op 69 (.fieldAddr 3 (.t 68)), (.quiet [15])⟩,
 ⟨18, On (.store 1 (.t 69) (.t 67)), (.eff)⟩] 0)
 (.seq (.draw [⟨1, Op 71 (.buildSlice [.nilSlice] 0 []), (.eff)⟩,
 ⟨6, Mv 76 6, (.quiet [0, 1])⟩,
 ⟨2, Mv 72 0, (.quiet [0, 1])⟩,
 ⟨3, Op 73 (.nilCheck (.t 72)), (.quiet [0, 1])⟩,
 ⟨4, Op 74 (.fieldAddr 4 (.t 73)), (.quiet [0, 1])⟩,
 ⟨5, Op 75 (.load false 1 (.t 74)), (.quiet [0, 1])⟩,
 ⟨7, Op 77 (.slice 1 (.t 75) none (some (.t 76)) none), (.quiet [0, 1])⟩,
 ⟨8, Op 78 (.append 1 24 (.t 71) (.t 77)), (.eff)⟩,
 ⟨13, Mv 83 6, (.quiet [0, 1, 8])⟩,
 ⟨14, Op 84 (.bin (.add) (.t 83) (Ci 1)), (.quiet [0, 1, 8])⟩,
 ⟨9, Mv 79 0, (.quiet [0, 1, 8])⟩,
 ⟨10, Op 80 (.nilCheck (.t 79)), (.quiet [0, 1, 8])⟩,
 ⟨11, Op 81 (.fieldAddr 4 (.t 80)), (.quiet [0, 1, 8])⟩,
 ⟨12, Op 82 (.load false 1 (.t 81)), (.quiet [0, 1, 8])⟩,
 ⟨15, Op 85 (.slice 1 (.t 82) (some (.t 84)) none none), (.quiet [0, 1, 8])⟩,
 ⟨16, Op 86 (.append 1 24 (.t 78) (.t 85)), (.eff)⟩,
 ⟨0, Mv 70 0, (.quiet [0, 1, 8, 16])⟩,
 ⟨17, Op 87 (.nilCheck (.t 70)), (.quiet [16])⟩,
 ⟨18, Op 88 (.fieldAddr 4 (.t 87)), (.quiet [16])⟩,
 ⟨19, On (.store 1 (.t 88) (.t 86)), (.eff)⟩] 0)
 (.seq (.draw [⟨1, Op 90 (.buildSlice [.nilSlice] 0 []), (.eff)⟩,
 ⟨6, Mv 95 6, (.quiet [0, 1])⟩,
 ⟨2, Mv 91 0, (.quiet [0, 1])⟩,
 ⟨3, Op 92 (.nilCheck (.t 91)), (.quiet [0, 1])⟩,
 ⟨4, Op 93 (.fieldAddr 5 (.t 92)), (.quiet [0, 1])⟩,
 ⟨5, Op 94 (.load false 1 (.t 93)), (.quiet [0, 1])⟩,
 ⟨7, Op 96 (.slice 1 (.t 94) none (some (.t 95)) none), (.quiet [0, 1])⟩,
 ⟨8, Op 97 (.append 1 24 (.t 90) (.t 96)), (.eff)⟩,
 ⟨13, Mv 102 6, (.quiet [0, 1, 8])⟩,
 ⟨14, Op 103 (.bin (.add) (.t 102) (Ci 1)), (.quiet [0, 1, 8])⟩,
 ⟨9, Mv 98 0, (.quiet [0, 1, 8])⟩,
 ⟨10, Op 99 (.nilCheck (.t 98)), (.quiet [0, 1, 8])⟩,
 ⟨11, Op 100 (.fieldAddr 5 (.t 99)), (.quiet [0, 1, 8])⟩,
 ⟨12, Op 101 (.load false 1 (.t 100)), (.quiet [0, 1, 8])⟩,
 ⟨15, Op 104 (.slice 1 (.t 101) (some (.t 103)) none none), (.quiet [0, 1, 8])⟩,
 ⟨16, Op 105 (.append 1 24 (.t 97) (.t 104)), (.eff)⟩,
 ⟨0, Mv 89 0, (.quiet [0, 1, 8, 16])⟩,
 ⟨17, Op 106 (.nilCheck (.t 89)), (.quiet [16])⟩,
 ⟨18, Op 107 (.fieldAddr 5 (.t 106)), (.quiet [16])⟩,
 ⟨19, On (.store 1 (.t 107) (.t 105)), (.eff)⟩] 0)
 (Rg [Mv 108 0, Op 109 (Ca 79 [.t 108]), Mv 4 109, Op 5 (.move (.c (.bool true)))]
 (.ret))))))))))⟩
theorem ok47 : compFunc prog glb 47 p47 = some c47 := by kernel_rfl
def p48 : List Plan := [⟨[(8, .quiet [0]), (9, .quiet [0]), (10, .quiet [0]), (11, .quiet [0]), (4, .quiet [0]), (5, .quiet [0]), (6, .quiet [0]), (7, .quiet [0]), (0, .quiet [0]), (1, .quiet [0]), (2, .quiet [0]), (3, .quiet [0]), (12, .eff), (13, .quiet [13])], 0, [0, 1, 3, 7, 0, 16, 48, 112, 0, 256, 768, 1792, 4095, 8191]⟩]
def c48 : CFunc := ⟨16, [.tmp 2],
 Rg [Op 2 (.move (.c (.bool false)))]
 (.seq (.draw [⟨8, Mv 11 0, (.quiet [0])⟩,
 ⟨9, Op 12 (.nilCheck (.t 11)), (.quiet [0])⟩,
 ⟨10, Op 13 (.fieldAddr 5 (.t 12)), (.quiet [0])⟩,
 ⟨11, Op 14 (.load false 1 (.t 13)), (.quiet [0])⟩,
 ⟨4, Mv 7 0, (.quiet [0])⟩,
 ⟨5, Op 8 (.nilCheck (.t 7)), (.quiet [0])⟩,
 ⟨6, Op 9 (.fieldAddr 4 (.t 8)), (.quiet [0])⟩,
 ⟨7, Op 10 (.load false 1 (.t 9)), (.quiet [0])⟩,
 ⟨0, Mv 3 0, (.quiet [0])⟩,
 ⟨1, Op 4 (.nilCheck (.t 3)), (.quiet [0])⟩,
 ⟨2, Op 5 (.fieldAddr 1 (.t 4)), (.quiet [0])⟩,
 ⟨3, Op 6 (.load false 1 (.t 5)), (.quiet [0])⟩,
 ⟨12, Op 15 (Ca 24 [.t 6, .t 10, .t 14]), (.eff)⟩,
 ⟨13, Mv 2 15, (.quiet [13])⟩] 0)
 (.ret))⟩
theorem ok48 : compFunc prog glb 48 p48 = some c48 := by kernel_rfl
def p49 : List Plan := []
def c49 : CFunc := ⟨26, [.tmp 6],
 Rg [Op 6 (.move (Ci 0))]
 (.seq (Rg [Mv 8 1, Mv 9 0, Op 10 (.len (.slice) (.t 9)), Op 11 (.bin (.geq) (.t 8) (.t 10))]
 (.cond (.t 11) (Rg [Mv 12 2, Op 13 (.bin (.sub) (.t 12) (Ci 1)), Mv 6 13]
 (.ret))
 (.skip)))
 (Rg [Mv 14 0, Mv 15 1, Op 16 (.indexAddr 1 (.t 14) (.t 15)), Op 17 (.load false 1 (.t 16)), Mv 18 2, Op 19 (.bin (.rem) (.t 17) (.t 18)), Mv 7 19]
 (.seq (Rg [Mv 20 7, Op 21 (.bin (.lss) (.t 20) (Ci 0))]
 (.cond (.t 21) (Rg [Mv 22 7, Mv 23 2, Op 24 (.bin (.add) (.t 22) (.t 23)), Mv 6 24]
 (.ret))
 (.skip)))
 (Rg [Mv 25 7, Mv 6 25]
 (.ret)))))⟩
theorem ok49 : compFunc prog glb 49 p49 = some c49 := by kernel_rfl
def p50 : List Plan := []
def c50 : CFunc := ⟨7, [],
 Rg [Op 1 (.box (.t 0))]
 (.region [Op 2 (.load false 1 (.t 1)), Op 3 (.nilCheck (.t 2)), Op 4 (.fieldAddr 2 (.t 3)), Op 5 (.func 81 [] [.t 1]), Op 6 (Ca 80 [.t 4, .t 5])])⟩
theorem ok50 : compFunc prog glb 50 p50 = some c50 := by kernel_rfl
def p53 : List Plan := []
def c53 : CFunc := ⟨21, [.tmp 4],
 Rg [Op 4 (.move (.c (.bool false)))]
 (.seq (Rg [Mv 7 0, Op 8 (.eq (.ptr) false (.t 7) (.c (.nilPtr)))]
 (.cond (.t 8) (Rg [Op 4 (.move (.c (.bool false)))]
 (.ret))
 (.skip)))
 (Rg [Mv 9 0, Op 10 (Ca 50 [.t 9])]
 (Rg [Mv 12 0, Op 13 (.nilCheck (.t 12)), Op 14 (.fieldAddr 7 (.t 13)), Op 15 (.load false 1 (.t 14)), Mv 16 1, Op 17 (.lookup (.one (.int)) (.nilSlice) true (.t 15) (.t 16)), Mv 11 17, Op 18 (.extract (.t 11) 0), Op 19 (.extract (.t 11) 1), Mv 5 18, Mv 6 19]
 (Rg [Mv 20 6, Mv 4 20]
 (.ret)))))⟩
theorem ok53 : compFunc prog glb 53 p53 = some c53 := by kernel_rfl
def p54 : List Plan := [⟨[(1, .quiet [0]), (0, .quiet [0]), (2, .eff), (3, .quiet [3]), (4, .quiet [3]), (11, .quiet [3]), (10, .quiet [3]), (12, .quiet [3]), (13, .quiet [3]), (7, .quiet [3]), (6, .quiet [3]), (8, .quiet [3]), (9, .quiet [3]), (5, .quiet [3]), (14, .eff), (15, .quiet [15])], 0, [0, 0, 3, 7, 15, 31, 31, 31, 223, 479, 31, 31, 3103, 7199, 16383, 32767]⟩]
def c54 : CFunc := ⟨64, [.tmp 6, .tmp 7],
 Rg [Op 6 (.move (.c (.nilSlice))), Op 7 (.move (.c (.bool false)))]
 (.seq (Rg [Mv 12 0, Mv 13 1, Mv 14 2, Op 15 (Ca 85 [.t 12, .t 13, .t 14]), Op 16 (.un (.not) (.t 15))]
 (.cond (.t 16) (Rg [Op 6 (.move (.c (.nilSlice))), Op 7 (.move (.c (.bool false)))]
 (.ret))
 (.skip)))
 (Rg [Op 17 (.buildSlice [.int (.i64) 0] 0 []), Mv 8 17]
 (Rg [Mv 18 0, Mv 9 18]
 (.seq (.block 0 (.loop (.seq (Rg [Mv 19 8, Op 20 (.len (.slice) (.t 19)), Mv 21 1, Op 22 (.len (.slice) (.t 21)), Op 23 (.bin (.lss) (.t 20) (.t 22))]
 (.cond (.t 23) (.skip)
 (.exit 0)))
 (.block 1 (Rg [Op 10 (.move (.c (.int (.i64) (-1))))]
 (.seq (Rg [Op 11 (.move (Ci 0))]
 (.block 2 (.loop (.seq (Rg [Mv 24 11, Mv 25 1, Op 26 (.len (.slice) (.t 25)), Op 27 (.bin (.lss) (.t 24) (.t 26)), Mv 28 27, Mt 29 10 28, Ot 30 (.bin (.lss) (.t 29) (Ci 0)) 28, Op 31 (.pick (.t 28) (.t 30) (.c (.bool false)))]
 (.cond (.t 31) (.skip)
 (.exit 2)))
 (.seq (.block 3 (.seq (.draw [⟨1, Mv 35 11, (.quiet [0])⟩,
 ⟨0, Mv 34 8, (.quiet [0])⟩,
 ⟨2, Op 36 (Ca 42 [.t 34, .t 35]), (.eff)⟩,
 ⟨3, Op 37 (.un (.not) (.t 36)), (.quiet [3])⟩,
 ⟨4, Mv 38 37, (.quiet [3])⟩,
 ⟨11, Mt 45 11 38, (.quiet [3])⟩,
 ⟨10, Mt 44 1 38, (.quiet [3])⟩,
 ⟨12, Ot 46 (.indexAddr 1 (.t 44) (.t 45)) 38, (.quiet [3])⟩,
 ⟨13, Ot 47 (.load false 1 (.t 46)) 38, (.quiet [3])⟩,
 ⟨7, Mt 41 11 38, (.quiet [3])⟩,
 ⟨6, Mt 40 2 38, (.quiet [3])⟩,
 ⟨8, Ot 42 (.indexAddr 1 (.t 40) (.t 41)) 38, (.quiet [3])⟩,
 ⟨9, Ot 43 (.load false 1 (.t 42)) 38, (.quiet [3])⟩,
 ⟨5, Mt 39 9 38, (.quiet [3])⟩,
 ⟨14, Ot 48 (Ca 86 [.t 39, .t 43, .t 47]) 38, (.eff)⟩,
 ⟨15, Op 49 (.pick (.t 38) (.t 48) (.c (.bool false))), (.quiet [15])⟩] 0)
 (.cond (.t 49) (.region [Mv 50 11, Mv 10 50])
 (.skip))))
 (.region [Mv 32 11, Op 33 (.bin (.add) (.t 32) (Ci 1)), Mv 11 33]))))))
 (.seq (Rg [Mv 51 10, Op 52 (.bin (.lss) (.t 51) (Ci 0))]
 (.cond (.t 52) (Rg [Op 6 (.move (.c (.nilSlice))), Op 7 (.move (.c (.bool false)))]
 (.ret))
 (.skip)))
 (Rg [Mv 53 8, Mv 54 10, Op 55 (.buildSlice [.int (.i64) 0] 1 [(0, 1, .t 54)]), Op 56 (.append 1 8 (.t 53) (.t 55)), Mv 8 56]
 (.region [Mv 57 9, Mv 58 1, Mv 59 10, Op 60 (.indexAddr 1 (.t 58) (.t 59)), Op 61 (.load false 1 (.t 60)), Op 62 (Ca 78 [.t 57, .t 61]), Mv 9 62])))))))))
 (Rg [Mv 63 8, Mv 6 63, Op 7 (.move (.c (.bool true)))]
 (.ret))))))⟩
theorem ok54 : compFunc prog glb 54 p54 = some c54 := by kernel_rfl
def p55 : List Plan := []
def c55 : CFunc := ⟨11, [.tmp 2],
 Rg [Op 2 (.move (.c (.nilSlice)))]
 (.seq (Rg [Mv 3 0, Op 4 (.bin (.lss) (.t 3) (Ci 1)), Mv 5 4, Mf 6 0 5, Of 7 (.bin (.gtr) (.t 6) (Ci 6)) 5, Op 8 (.pick (.t 5) (.c (.bool true)) (.t 7))]
 (.cond (.t 8) (Rg [Op 2 (.move (.c (.nilSlice)))]
 (.ret))
 (.skip)))
 (Rg [Mv 9 0, Op 10 (.makeSlice [.int (.i64) 0] 8 (.t 9) (.t 9)), Mv 2 10]
 (.ret)))⟩
theorem ok55 : compFunc prog glb 55 p55 = some c55 := by kernel_rfl
def p56 : List Plan := []
def c56 : CFunc := ⟨19, [.tmp 4],
 Rg [Op 4 (.move (Ci 0))]
 (.seq (Rg [Mv 6 0, Op 7 (.len (.slice) (.t 6)), Op 8 (.move (Ci 0))]
 (.block 0 (.loop (Rg [Op 9 (.bin (.lss) (.t 8) (.t 7))]
 (.seq (.cond (.t 9) (.skip)
 (.exit 0))
 (.seq (.block 1 (Rg [Mv 10 8, Mv 5 10]
 (Rg [Mv 11 1, Mv 12 0, Mv 13 5, Op 14 (.indexAddr 2 (.t 12) (.t 13)), Op 15 (.load true 2 (.t 14)), Op 16 (.call (.t 11) [.t 15])]
 (.cond (.t 16) (Rg [Mv 17 5, Mv 4 17]
 (.ret))
 (.skip)))))
 (.region [Op 18 (.bin (.add) (.t 8) (Ci 1)), Mv 8 18])))))))
 (Rg [Op 4 (.move (.c (.int (.i64) (-1))))]
 (.ret)))⟩
theorem ok56 : compFunc prog glb 56 p56 = some c56 := by kernel_rfl
def p57 : List Plan := []
def c57 : CFunc := ⟨4, [.tmp 2],
 Rg [Op 1 (.box (.t 0)), Op 2 (.move (.c (.nilFunc)))]
 (Rg [Op 3 (.func 87 [] [.t 1]), Mv 2 3]
 (.ret))⟩
theorem ok57 : compFunc prog glb 57 p57 = some c57 := by kernel_rfl
def p58 : List Plan := []
def c58 : CFunc := ⟨40, [.tmp 6, .tmp 7],
 Rg [Op 6 (.move (.c (.nilSlice))), Op 7 (.move (.c (.bool false)))]
 (.scope (.seq (Rg [Mv 10 0, Mv 11 1, Mv 12 2, Op 13 (Ca 88 [.t 10, .t 11, .t 12]), Op 14 (.un (.not) (.t 13))]
 (.cond (.t 14) (Rg [Op 6 (.move (.c (.nilSlice))), Op 7 (.move (.c (.bool false)))]
 (.ret))
 (.skip)))
 (Rg [Mv 15 0, Mv 16 1, Mv 17 2, Op 18 (Ca 89 [.t 15, .t 16, .t 17]), Op 8 (.new [.nilSlice, .nilMap, .nilMap]), On (.store 3 (.t 8) (.t 18))]
 (.seq (.skip)
 (.seq (.block 0 (.loop (.seq (Rg [Op 19 (.fieldAddr 1 (.t 8)), Op 20 (.load false 1 (.t 19)), Op 21 (.len (.map) (.t 20)), Op 22 (.bin (.gtr) (.t 21) (Ci 0))]
 (.cond (.t 22) (.skip)
 (.exit 0)))
 (.block 1 (.seq (Rg [Mv 23 1, Op 24 (.len (.slice) (.t 23)), Op 25 (.move (Ci 0))]
 (.block 2 (.loop (Rg [Op 26 (.bin (.lss) (.t 25) (.t 24))]
 (.seq (.cond (.t 26) (.skip)
 (.exit 2))
 (.seq (.block 3 (Rg [Mv 27 25, Mv 9 27]
 (Rg [Op 28 (.load true 3 (.t 8)), Mv 29 9, Op 30 (Ca 90 [.t 28, .t 29])]
 (.cond (.t 30) (Rg [Op 31 (.load true 3 (.t 8)), Mv 32 9, Op 33 (Ca 91 [.t 31, .t 32])]
 (Rg [Mv 34 6, Mv 35 9, Op 36 (.buildSlice [.int (.i64) 0] 1 [(0, 1, .t 35)]), Op 37 (.append 1 8 (.t 34) (.t 36)), Mv 6 37]
 (.exit 1)))
 (.skip)))))
 (.region [Op 38 (.bin (.add) (.t 25) (Ci 1)), Mv 25 38])))))))
 (Rg [Op 6 (.move (.c (.nilSlice))), Op 7 (.move (.c (.bool false)))]
 (.ret)))))))
 (Rg [Mv 39 6, Mv 6 39, Op 7 (.move (.c (.bool true)))]
 (.ret)))))) [(0, .seq (.skip)
 (.seq (.block 0 (.loop (.seq (Rg [Op 19 (.fieldAddr 1 (.t 8)), Op 20 (.load false 1 (.t 19)), Op 21 (.len (.map) (.t 20)), Op 22 (.bin (.gtr) (.t 21) (Ci 0))]
 (.cond (.t 22) (.skip)
 (.exit 0)))
 (.block 1 (.seq (Rg [Mv 23 1, Op 24 (.len (.slice) (.t 23)), Op 25 (.move (Ci 0))]
 (.block 2 (.loop (Rg [Op 26 (.bin (.lss) (.t 25) (.t 24))]
 (.seq (.cond (.t 26) (.skip)
 (.exit 2))
 (.seq (.block 3 (Rg [Mv 27 25, Mv 9 27]
 (Rg [Op 28 (.load true 3 (.t 8)), Mv 29 9, Op 30 (Ca 90 [.t 28, .t 29])]
 (.cond (.t 30) (Rg [Op 31 (.load true 3 (.t 8)), Mv 32 9, Op 33 (Ca 91 [.t 31, .t 32])]
 (Rg [Mv 34 6, Mv 35 9, Op 36 (.buildSlice [.int (.i64) 0] 1 [(0, 1, .t 35)]), Op 37 (.append 1 8 (.t 34) (.t 36)), Mv 6 37]
 (.exit 1)))
 (.skip)))))
 (.region [Op 38 (.bin (.add) (.t 25) (Ci 1)), Mv 25 38])))))))
 (Rg [Op 6 (.move (.c (.nilSlice))), Op 7 (.move (.c (.bool false)))]
 (.ret)))))))
 (Rg [Mv 39 6, Mv 6 39, Op 7 (.move (.c (.bool true)))]
 (.ret))))])⟩
theorem ok58 : compFunc prog glb 58 p58 = some c58 := by kernel_rfl
def p59 : List Plan := []
def c59 : CFunc := ⟨53, [.tmp 6],
 Rg [Op 6 (.move (.c (.bool false)))]
 (Rg [Mv 9 0, Op 10 (.len (.slice) (.t 9)), Mv 7 10]
 (.seq (Rg [Mv 11 7, Op 12 (.bin (.gtr) (.t 11) (Ci 6)), Mv 13 12, Mf 14 0 13, Mf 15 7 13, Of 16 (Ca 38 [.t 14, .t 15]) 13, Of 17 (.un (.not) (.t 16)) 13, Op 18 (.pick (.t 13) (.c (.bool true)) (.t 17)), Mv 19 18, Mf 20 1 19, Of 21 (.len (.slice) (.t 20)) 19, Mf 22 2 19, Of 23 (.len (.slice) (.t 22)) 19, Of 24 (.bin (.neq) (.t 21) (.t 23)) 19, Op 25 (.pick (.t 19) (.c (.bool true)) (.t 24)), Mv 26 25, Mf 27 1 26, Of 28 (.len (.slice) (.t 27)) 26, Of 29 (.bin (.gtr) (.t 28) (Ci 32)) 26, Op 30 (.pick (.t 26) (.c (.bool true)) (.t 29))]
 (.cond (.t 30) (Rg [Op 6 (.move (.c (.bool false)))]
 (.ret))
 (.skip)))
 (.seq (Rg [Mv 31 1, Op 32 (.len (.slice) (.t 31)), Op 33 (.move (Ci 0))]
 (.block 0 (.loop (Rg [Op 34 (.bin (.lss) (.t 33) (.t 32))]
 (.seq (.cond (.t 34) (.skip)
 (.exit 0))
 (.seq (.block 1 (Rg [Mv 35 33, Mv 8 35]
 (Rg [Mv 36 1, Mv 37 8, Op 38 (.indexAddr 1 (.t 36) (.t 37)), Op 39 (.load false 1 (.t 38)), Mv 40 7, Op 41 (Ca 38 [.t 39, .t 40]), Op 42 (.un (.not) (.t 41)), Mv 43 42, Mf 44 2 43, Mf 45 8 43, Of 46 (.indexAddr 1 (.t 44) (.t 45)) 43, Of 47 (.load false 1 (.t 46)) 43, Mf 48 7 43, Of 49 (Ca 38 [.t 47, .t 48]) 43, Of 50 (.un (.not) (.t 49)) 43, Op 51 (.pick (.t 43) (.c (.bool true)) (.t 50))]
 (.cond (.t 51) (Rg [Op 6 (.move (.c (.bool false)))]
 (.ret))
 (.skip)))))
 (.region [Op 52 (.bin (.add) (.t 33) (Ci 1)), Mv 33 52])))))))
 (Rg [Op 6 (.move (.c (.bool true)))]
 (.ret)))))⟩
theorem ok59 : compFunc prog glb 59 p59 = some c59 := by kernel_rfl
def p60 : List Plan := [⟨[(4, .quiet [0]), (1, .quiet [0]), (0, .quiet [0]), (2, .quiet [0]), (3, .quiet [0]), (5, .eff), (6, .quiet [6])], 0, [0, 0, 3, 7, 0, 31, 63]⟩, ⟨[(2, .quiet [0]), (1, .quiet [0]), (3, .quiet [0]), (4, .quiet [0]), (0, .quiet [0]), (5, .eff)], 0, [0, 0, 0, 6, 14, 31]⟩]
def c60 : CFunc := ⟨44, [],
 Rg [Op 8 (.load false 1 (.t 0)), On (.clear [.int (.i64) 0] (.t 8))]
 (Rg [Op 9 (.load false 1 (.t 0)), Op 10 (.slice 1 (.t 9) none (some (Ci 0)) none), On (.store 1 (.t 0) (.t 10))]
 (Rg [Op 6 (.move (.c (.bool false)))]
 (.seq (Rg [Op 11 (.load false 1 (.t 1)), Op 12 (.len (.slice) (.t 11)), Op 13 (.move (Ci 0))]
 (.block 0 (.loop (Rg [Op 14 (.bin (.lss) (.t 13) (.t 12))]
 (.seq (.cond (.t 14) (.skip)
 (.exit 0))
 (.seq (.block 1 (Rg [Mv 15 13, Mv 7 15]
 (.block 2 (Rg [Op 21 (.load false 1 (.t 2)), Mv 22 7, Op 23 (.lookup (.one (.int)) (.bool false) false (.t 21) (.t 22)), Op 24 (.un (.not) (.t 23)), Mv 20 24]
 (.cond (.t 20) (.skip)
 (.seq (.draw [⟨4, Op 30 (.load false 1 (.t 4)), (.quiet [0])⟩,
 ⟨1, Mv 27 7, (.quiet [0])⟩,
 ⟨0, Op 26 (.load false 1 (.t 3)), (.quiet [0])⟩,
 ⟨2, Op 28 (.indexAddr 1 (.t 26) (.t 27)), (.quiet [0])⟩,
 ⟨3, Op 29 (.load false 1 (.t 28)), (.quiet [0])⟩,
 ⟨5, Op 31 (Ca 61 [.t 29, .t 30]), (.eff)⟩,
 ⟨6, Mv 25 31, (.quiet [6])⟩] 0)
 (.cond (.t 25) (.seq (.draw [⟨2, Mv 34 7, (.quiet [0])⟩,
 ⟨1, Op 33 (.load false 1 (.t 1)), (.quiet [0])⟩,
 ⟨3, Op 35 (.indexAddr 1 (.t 33) (.t 34)), (.quiet [0])⟩,
 ⟨4, Op 36 (.load false 1 (.t 35)), (.quiet [0])⟩,
 ⟨0, Op 32 (.load false 1 (.t 4)), (.quiet [0])⟩,
 ⟨5, Op 37 (Ca 62 [.t 32, .t 36]), (.eff)⟩] 0)
 (.region [Op 38 (.load false 1 (.t 2)), Mv 39 7, On (.mapUpdate (.one (.int)) (.t 38) (.t 39) (.c (.bool false))), Op 6 (.move (.c (.bool true)))]))
 (.region [Op 16 (.load false 1 (.t 0)), Mv 17 7, Op 18 (.buildSlice [.int (.i64) 0] 1 [(0, 1, .t 17)]), Op 19 (.append 1 8 (.t 16) (.t 18)), On (.store 1 (.t 0) (.t 19))]))))))))
 (.region [Op 40 (.bin (.add) (.t 13) (Ci 1)), Mv 13 40])))))))
 (Rg [Mv 41 6]
 (.cond (.t 41) (.region [Op 42 (.load false 1 (.t 5)), Op 43 (.call (.t 42) [])])
 (.skip))))))⟩
theorem ok60 : compFunc prog glb 60 p60 = some c60 := by kernel_rfl
def p61 : List Plan := []
def c61 : CFunc := ⟨20, [.cell 4 false 1],
 Rg [Op 4 (.new [.bool false])]
 (.seq (Rg [Mv 7 0, Mv 8 1, Op 9 (Ca 92 [.t 7, .t 8])]
 (.block 0 (.rangeF 61 0 2 (.t 9))))
 (Rg [Mv 15 0, Op 16 (.len (.slice) (.t 15)), Mv 17 1, Op 18 (.len (.slice) (.t 17)), Op 19 (.bin (.eql) (.t 16) (.t 18)), On (.store 1 (.t 4) (.t 19))]
 (.ret)))⟩
theorem ok61 : compFunc prog glb 61 p61 = some c61 := by kernel_rfl
def pr61_0 : List Plan := []
def r61_0 : RoundC := ⟨[10, 11],
 (Rg [Mv 5 10]
 (.region [Mv 6 11])),
 (.block 1 (Rg [Mv 12 5, Mv 13 6, Op 14 (.bin (.gtr) (.t 12) (.t 13))]
 (.cond (.t 14) (Rg [On (.store 1 (.t 4) (.c (.bool false)))]
 (.ret))
 (.skip))))⟩
theorem okr61_0 : compRound prog glb 61 0 pr61_0 = some r61_0 := by kernel_rfl
def p62 : List Plan := []
def c62 : CFunc := ⟨21, [],
 Rg [Mv 6 1, Op 7 (.len (.slice) (.t 6)), Op 8 (.move (Ci 0))]
 (.block 0 (.loop (Rg [Op 9 (.bin (.lss) (.t 8) (.t 7))]
 (.seq (.cond (.t 9) (.skip)
 (.exit 0))
 (.seq (.block 1 (Rg [Mv 10 8, Op 11 (.indexAddr 1 (.t 6) (.t 8)), Op 12 (.load false 1 (.t 11)), Mv 4 10, Mv 5 12]
 (.region [Mv 13 0, Mv 14 4, Op 15 (.indexAddr 1 (.t 13) (.t 14)), Op 16 (.load false 1 (.t 15)), Mv 17 5, Op 18 (.bin (.add) (.t 16) (.t 17)), Op 19 (.indexAddr 1 (.t 13) (.t 14)), On (.store 1 (.t 19) (.t 18))])))
 (.region [Op 20 (.bin (.add) (.t 8) (Ci 1)), Mv 8 20]))))))⟩
theorem ok62 : compFunc prog glb 62 p62 = some c62 := by kernel_rfl
def p63 : List Plan := []
def c63 : CFunc := ⟨68, [.tmp 6],
 Rg [Op 6 (.move (.c (.nilSlice)))]
 (.seq (Rg [Mv 13 0, Mv 14 1, Mv 15 2, Op 16 (Ca 93 [.t 13, .t 14, .t 15]), Op 17 (.un (.not) (.t 16))]
 (.cond (.t 17) (Rg [Op 6 (.move (.c (.nilSlice)))]
 (.ret))
 (.skip)))
 (Rg [Mv 18 1, Op 19 (.len (.slice) (.t 18)), Op 20 (.makeSlice [.bool false] 1 (.t 19) (.t 19)), Mv 7 20]
 (Rg [Mv 21 0, Mv 8 21]
 (.seq (Rg [Op 9 (.move (.c (.bool true)))]
 (.block 0 (.loop (.seq (Rg [Mv 22 9]
 (.cond (.t 22) (.skip)
 (.exit 0)))
 (.block 1 (Rg [Op 9 (.move (.c (.bool false)))]
 (Rg [Op 10 (.move (Ci 0))]
 (.block 2 (.loop (.seq (Rg [Mv 23 10, Mv 24 1, Op 25 (.len (.slice) (.t 24)), Op 26 (.bin (.lss) (.t 23) (.t 25))]
 (.cond (.t 26) (.skip)
 (.exit 2)))
 (.seq (.block 3 (Rg [Mv 29 7, Mv 30 10, Op 31 (.indexAddr 1 (.t 29) (.t 30)), Op 32 (.load false 1 (.t 31)), Op 33 (.un (.not) (.t 32)), Mv 34 33, Mt 35 2 34, Mt 36 10 34, Ot 37 (.indexAddr 1 (.t 35) (.t 36)) 34, Ot 38 (.load false 1 (.t 37)) 34, Mt 39 8 34, Ot 40 (Ca 76 [.t 38, .t 39]) 34, Op 41 (.pick (.t 34) (.t 40) (.c (.bool false)))]
 (.cond (.t 41) (Rg [Mv 42 7, Mv 43 10, Op 44 (.indexAddr 1 (.t 42) (.t 43)), On (.store 1 (.t 44) (.c (.bool true)))]
 (Rg [Op 9 (.move (.c (.bool true)))]
 (.region [Mv 45 8, Mv 46 1, Mv 47 10, Op 48 (.indexAddr 1 (.t 46) (.t 47)), Op 49 (.load false 1 (.t 48)), Op 50 (Ca 78 [.t 45, .t 49]), Mv 8 50])))
 (.skip))))
 (.region [Mv 27 10, Op 28 (.bin (.add) (.t 27) (Ci 1)), Mv 10 28]))))))))))))
 (Rg [Op 51 (.buildSlice [.int (.i64) 0] 0 []), Mv 11 51]
 (.seq (Rg [Op 12 (.move (Ci 0))]
 (.block 4 (.loop (.seq (Rg [Mv 52 12, Mv 53 7, Op 54 (.len (.slice) (.t 53)), Op 55 (.bin (.lss) (.t 52) (.t 54))]
 (.cond (.t 55) (.skip)
 (.exit 4)))
 (.seq (.block 5 (Rg [Mv 58 7, Mv 59 12, Op 60 (.indexAddr 1 (.t 58) (.t 59)), Op 61 (.load false 1 (.t 60)), Op 62 (.un (.not) (.t 61))]
 (.cond (.t 62) (.region [Mv 63 11, Mv 64 12, Op 65 (.buildSlice [.int (.i64) 0] 1 [(0, 1, .t 64)]), Op 66 (.append 1 8 (.t 63) (.t 65)), Mv 11 66])
 (.skip))))
 (.region [Mv 56 12, Op 57 (.bin (.add) (.t 56) (Ci 1)), Mv 12 57]))))))
 (Rg [Mv 67 11, Mv 6 67]
 (.ret))))))))⟩
theorem ok63 : compFunc prog glb 63 p63 = some c63 := by kernel_rfl
def p64 : List Plan := []
def c64 : CFunc := ⟨47, [.tmp 2],
 Rg [Op 2 (.move (.c (.nilSlice)))]
 (Rg [Op 7 (.buildSlice [.nilSlice] 0 []), Mv 3 7]
 (.seq (Rg [Op 4 (.move (Ci 0))]
 (.block 0 (.loop (.seq (Rg [Mv 8 4, Mv 9 0, Op 10 (.nilCheck (.t 9)), Op 11 (.fieldAddr 3 (.t 10)), Op 12 (.load false 1 (.t 11)), Op 13 (.len (.slice) (.t 12)), Op 14 (.bin (.lss) (.t 8) (.t 13))]
 (.cond (.t 14) (.skip)
 (.exit 0)))
 (.seq (.block 1 (Rg [Mv 17 0, Op 18 (.nilCheck (.t 17)), Op 19 (.fieldAddr 0 (.t 18)), Op 20 (.load false 1 (.t 19)), Op 21 (.len (.slice) (.t 20)), Op 22 (.makeSlice [.int (.i64) 0] 8 (.t 21) (.t 21)), Mv 5 22]
 (Rg [Mv 23 0, Mv 24 0, Op 25 (.nilCheck (.t 24)), Op 26 (.fieldAddr 3 (.t 25)), Op 27 (.load false 1 (.t 26)), Mv 28 4, Op 29 (.indexAddr 1 (.t 27) (.t 28)), Op 30 (.load false 1 (.t 29)), Op 31 (Ca 77 [.t 23, .t 30]), Mv 6 31]
 (.seq (Rg [Mv 32 6, Op 33 (.bin (.geq) (.t 32) (Ci 0))]
 (.cond (.t 33) (.region [Mv 34 0, Op 35 (.nilCheck (.t 34)), Op 36 (.fieldAddr 6 (.t 35)), Op 37 (.load false 1 (.t 36)), Mv 38 6, Op 39 (.indexAddr 2 (.t 37) (.t 38)), Op 40 (.fieldAddr 1 (.t 39)), Op 41 (.load false 1 (.t 40)), Mv 5 41])
 (.skip)))
 (.region [Mv 42 3, Mv 43 5, Op 44 (.buildSlice [.nilSlice] 1 [(0, 1, .t 43)]), Op 45 (.append 1 24 (.t 42) (.t 44)), Mv 3 45])))))
 (.region [Mv 15 4, Op 16 (.bin (.add) (.t 15) (Ci 1)), Mv 4 16]))))))
 (Rg [Mv 46 3, Mv 2 46]
 (.ret))))⟩
theorem ok64 : compFunc prog glb 64 p64 = some c64 := by kernel_rfl
def p65 : List Plan := []
def c65 : CFunc := ⟨12, [.tmp 4],
 Rg [Op 4 (.move (.c (.bool false)))]
 (Rg [Mv 5 1, Mv 6 0, Op 7 (.nilCheck (.t 6)), Op 8 (.fieldAddr 0 (.t 7)), Op 9 (.load false 1 (.t 8)), Op 10 (.len (.slice) (.t 9)), Op 11 (Ca 38 [.t 5, .t 10]), Mv 4 11]
 (.ret))⟩
theorem ok65 : compFunc prog glb 65 p65 = some c65 := by kernel_rfl
def p66 : List Plan := []
def c66 : CFunc := ⟨9, [.tmp 4],
 Rg [Op 4 (.move (.c (.bool false)))]
 (Rg [Mv 5 0, Mv 6 1, Op 7 (Ca 56 [.t 5, .t 6]), Op 8 (.bin (.geq) (.t 7) (Ci 0)), Mv 4 8]
 (.ret))⟩
theorem ok66 : compFunc prog glb 66 p66 = some c66 := by kernel_rfl
def p67 : List Plan := []
def c67 : CFunc := ⟨43, [.tmp 2],
 Rg [Op 2 (.move (.c (.nilSlice)))]
 (Rg [Op 3 (.move (.c (.nilSlice)))]
 (.seq (Rg [Mv 6 0, Op 7 (.nilCheck (.t 6)), Op 8 (.fieldAddr 8 (.t 7)), Op 9 (.load false 1 (.t 8)), Op 10 (.len (.slice) (.t 9)), Op 11 (.move (Ci 0))]
 (.block 0 (.loop (Rg [Op 12 (.bin (.lss) (.t 11) (.t 10))]
 (.seq (.cond (.t 12) (.skip)
 (.exit 0))
 (.seq (.block 1 (Rg [Op 13 (.indexAddr 2 (.t 9) (.t 11)), Op 14 (.load true 2 (.t 13)), Op 5 (.new [.int (.i64) 0, .nilSlice]), On (.store 2 (.t 5) (.t 14))]
 (.seq (Rg [Mv 15 0, Op 16 (.load true 2 (.t 5)), Mv 17 3, Op 18 (.len (.slice) (.t 17)), Op 19 (.bin (.gtr) (.t 18) (Ci 0)), Op 20 (Ca 94 [.t 15, .t 16, .t 19]), Op 21 (.un (.not) (.t 20))]
 (.cond (.t 21) (Rg [Mv 22 3, Op 23 (.load true 2 (.t 5)), Op 24 (.buildSlice [.int (.i64) 0, .nilSlice] 1 [(0, 2, .t 23)]), Op 25 (.append 2 32 (.t 22) (.t 24)), Mv 3 25]
 (.exit 1))
 (.skip)))
 (Rg [Mv 26 0, Op 27 (.fieldAddr 0 (.t 5)), Op 28 (.load false 1 (.t 27)), Op 29 (.fieldAddr 1 (.t 5)), Op 30 (.load false 1 (.t 29)), Op 31 (Ca 68 [.t 26, .t 28, .t 30, Ci 1])]
 (.region [Mv 32 2, Op 33 (.fieldAddr 0 (.t 5)), Op 34 (.load false 1 (.t 33)), Op 35 (.buildSlice [.int (.i64) 0] 1 [(0, 1, .t 34)]), Op 36 (.append 1 8 (.t 32) (.t 35)), Mv 2 36])))))
 (.region [Op 37 (.bin (.add) (.t 11) (Ci 1)), Mv 11 37])))))))
 (Rg [Mv 38 0, Mv 39 3, Op 40 (.nilCheck (.t 38)), Op 41 (.fieldAddr 8 (.t 40)), On (.store 1 (.t 41) (.t 39))]
 (Rg [Mv 42 2, Mv 2 42]
 (.ret)))))⟩
theorem ok67 : compFunc prog glb 67 p67 = some c67 := by kernel_rfl
def p68 : List Plan := [⟨[(9, .quiet [0]), (8, .quiet [0]), (10, .quiet [0]), (5, .quiet [0]), (4, .quiet [0]), (6, .quiet [0]), (0, .quiet [0]), (1, .quiet [0]), (2, .quiet [0]), (3, .quiet [0]), (12, .eff), (13, .quiet [11]), (7, .quiet [0, 11]), (11, .quiet [0, 11]), (14, .eff)], 0, [0, 1, 3, 7, 0, 0, 48, 127, 0, 0, 768, 2047, 1919, 6015, 16383]⟩]
def c68 : CFunc := ⟨44, [],
 Rg [Mv 10 2, Op 11 (.len (.slice) (.t 10)), Op 12 (.move (Ci 0))]
 (.block 0 (.loop (Rg [Op 13 (.bin (.lss) (.t 12) (.t 11))]
 (.seq (.cond (.t 13) (.skip)
 (.exit 0))
 (.seq (.block 1 (Rg [Mv 14 12, Op 15 (.indexAddr 1 (.t 10) (.t 12)), Op 16 (.load false 1 (.t 15)), Mv 8 14, Mv 9 16]
 (Rg [Mv 17 0, Op 18 (.nilCheck (.t 17)), Op 19 (.fieldAddr 5 (.t 18)), Op 20 (.load false 1 (.t 19)), Mv 21 8, Op 22 (.indexAddr 1 (.t 20) (.t 21)), Op 23 (.load false 1 (.t 22)), Mv 24 3, Mv 25 9, Op 26 (.bin (.mul) (.t 24) (.t 25)), Op 27 (.bin (.sub) (.t 23) (.t 26)), Op 28 (.indexAddr 1 (.t 20) (.t 21)), On (.store 1 (.t 28) (.t 27))]
 (.draw [⟨9, Mv 38 9, (.quiet [0])⟩,
 ⟨8, Mv 37 3, (.quiet [0])⟩,
 ⟨10, Op 39 (.bin (.mul) (.t 37) (.t 38)), (.quiet [0])⟩,
 ⟨5, Mv 34 8, (.quiet [0])⟩,
 ⟨4, Mv 33 1, (.quiet [0])⟩,
 ⟨6, Op 35 (.build [.int (.i64) 0, .int (.i64) 0] [(0, 1, .t 33), (1, 1, .t 34)]), (.quiet [0])⟩,
 ⟨0, Mv 29 0, (.quiet [0])⟩,
 ⟨1, Op 30 (.nilCheck (.t 29)), (.quiet [0])⟩,
 ⟨2, Op 31 (.fieldAddr 6 (.t 30)), (.quiet [0])⟩,
 ⟨3, Op 32 (.load false 1 (.t 31)), (.quiet [0])⟩,
 ⟨12, Op 41 (.mapEntry (.flat [.int, .int]) (.int (.i64) 0) (.t 32) (.t 35)), (.eff)⟩,
 ⟨13, Op 42 (.extract (.t 41) 1), (.quiet [11])⟩,
 ⟨7, Op 36 (.lookup (.flat [.int, .int]) (.int (.i64) 0) false (.t 32) (.t 35)), (.quiet [0, 11])⟩,
 ⟨11, Op 40 (.bin (.add) (.t 36) (.t 39)), (.quiet [0, 11])⟩,
 ⟨14, On (.entryStore (.t 32) (.t 42) (.t 40)), (.eff)⟩] 0))))
 (.region [Op 43 (.bin (.add) (.t 12) (Ci 1)), Mv 12 43]))))))⟩
theorem ok68 : compFunc prog glb 68 p68 = some c68 := by kernel_rfl
def p69 : List Plan := []
def c69 : CFunc := ⟨42, [.tmp 4],
 Rg [Op 4 (.move (.c (.nilSlice)))]
 (Rg [Mv 8 0, Mv 9 1, Op 10 (Ca 56 [.t 8, .t 9]), Mv 5 10]
 (.seq (Rg [Mv 11 5, Op 12 (.bin (.eql) (.t 11) (.c (.int (.i64) (-1))))]
 (.cond (.t 12) (Rg [Mv 13 0, Mv 4 13]
 (.ret))
 (.skip)))
 (.seq (Rg [Mv 14 5, Op 15 (.bin (.add) (.t 14) (Ci 1)), Mv 6 15]
 (.block 0 (.loop (.seq (Rg [Mv 16 6, Mv 17 0, Op 18 (.len (.slice) (.t 17)), Op 19 (.bin (.lss) (.t 16) (.t 18))]
 (.cond (.t 19) (.skip)
 (.exit 0)))
 (.seq (.block 1 (Rg [Mv 22 0, Mv 23 6, Op 24 (.indexAddr 2 (.t 22) (.t 23)), Op 25 (.load true 2 (.t 24)), Op 7 (.new [.int (.i64) 0, .nilSlice]), On (.store 2 (.t 7) (.t 25))]
 (Rg [Mv 26 1, Op 27 (.load true 2 (.t 7)), Op 28 (.call (.t 26) [.t 27]), Op 29 (.un (.not) (.t 28))]
 (.cond (.t 29) (Rg [Mv 30 0, Mv 31 5, Op 32 (.load true 2 (.t 7)), Op 33 (.indexAddr 2 (.t 30) (.t 31)), On (.store 2 (.t 33) (.t 32))]
 (.region [Mv 34 5, Op 35 (.bin (.add) (.t 34) (Ci 1)), Mv 5 35]))
 (.skip)))))
 (.region [Mv 20 6, Op 21 (.bin (.add) (.t 20) (Ci 1)), Mv 6 21]))))))
 (Rg [Mv 36 0, Mv 37 5, Op 38 (.slice 2 (.t 36) (some (.t 37)) none none), On (.clear [.int (.i64) 0, .nilSlice] (.t 38))]
 (Rg [Mv 39 0, Mv 40 5, Op 41 (.slice 2 (.t 39) none (some (.t 40)) none), Mv 4 41]
 (.ret))))))⟩
theorem ok69 : compFunc prog glb 69 p69 = some c69 := by kernel_rfl
def p71 : List Plan := []
def c71 : CFunc := ⟨10, [.tmp 5],
 Rg [Op 3 (.box (.t 0)), Op 5 (.move (.c (.bool false)))]
 (Rg [Op 6 (.fieldAddr 0 (.t 3)), Op 7 (.load false 1 (.t 6)), Op 8 (.load false 1 (.t 2)), Op 9 (.bin (.eql) (.t 7) (.t 8)), Mv 5 9]
 (.ret))⟩
theorem ok71 : compFunc prog glb 71 p71 = some c71 := by kernel_rfl
def p72 : List Plan := []
def c72 : CFunc := ⟨18, [.tmp 2],
 Rg [Op 2 (.move (.c (.bool false)))]
 (.seq (Rg [Mv 5 0, Op 6 (.len (.slice) (.t 5)), Op 7 (.move (Ci 0))]
 (.block 0 (.loop (Rg [Op 8 (.bin (.lss) (.t 7) (.t 6))]
 (.seq (.cond (.t 8) (.skip)
 (.exit 0))
 (.seq (.block 1 (Rg [Op 9 (.indexAddr 1 (.t 5) (.t 7)), Op 10 (.load false 1 (.t 9)), Mv 4 10]
 (Rg [Mv 11 4, Op 12 (.bin (.lss) (.t 11) (Ci 0)), Mv 13 12, Mf 14 4 13, Of 15 (.bin (.gtr) (.t 14) (Ci 1000)) 13, Op 16 (.pick (.t 13) (.c (.bool true)) (.t 15))]
 (.cond (.t 16) (Rg [Op 2 (.move (.c (.bool false)))]
 (.ret))
 (.skip)))))
 (.region [Op 17 (.bin (.add) (.t 7) (Ci 1)), Mv 7 17])))))))
 (Rg [Op 2 (.move (.c (.bool true)))]
 (.ret)))⟩
theorem ok72 : compFunc prog glb 72 p72 = some c72 := by kernel_rfl
def p73 : List Plan := []
def c73 : CFunc := ⟨19, [.tmp 4],
 Rg [Op 4 (.move (Ci 0))]
 (.seq (Rg [Mv 6 0, Op 7 (.len (.slice) (.t 6)), Op 8 (.move (Ci 0))]
 (.block 0 (.loop (Rg [Op 9 (.bin (.lss) (.t 8) (.t 7))]
 (.seq (.cond (.t 9) (.skip)
 (.exit 0))
 (.seq (.block 1 (Rg [Mv 10 8, Mv 5 10]
 (Rg [Mv 11 1, Mv 12 0, Mv 13 5, Op 14 (.indexAddr 1 (.t 12) (.t 13)), Op 15 (.load false 1 (.t 14)), Op 16 (.bin (.eql) (.t 11) (.t 15))]
 (.cond (.t 16) (Rg [Mv 17 5, Mv 4 17]
 (.ret))
 (.skip)))))
 (.region [Op 18 (.bin (.add) (.t 8) (Ci 1)), Mv 8 18])))))))
 (Rg [Op 4 (.move (.c (.int (.i64) (-1))))]
 (.ret)))⟩
theorem ok73 : compFunc prog glb 73 p73 = some c73 := by kernel_rfl
def p74 : List Plan := []
def c74 : CFunc := ⟨15, [.tmp 6],
 Rg [Op 6 (.move (.c (.bool false)))]
 (Rg [Mv 7 0, Mv 8 1, Op 9 (.bin (.geq) (.t 7) (.t 8)), Mv 10 9, Mt 11 0 10, Mt 12 2 10, Ot 13 (.bin (.leq) (.t 11) (.t 12)) 10, Op 14 (.pick (.t 10) (.t 13) (.c (.bool false))), Mv 6 14]
 (.ret))⟩
theorem ok74 : compFunc prog glb 74 p74 = some c74 := by kernel_rfl
def p75 : List Plan := []
def c75 : CFunc := ⟨25, [.tmp 4],
 Rg [Op 4 (.move (Ci 0))]
 (.seq (Rg [Op 5 (.move (Ci 0))]
 (.block 0 (.loop (.seq (Rg [Mv 6 5, Mv 7 0, Op 8 (.nilCheck (.t 7)), Op 9 (.fieldAddr 3 (.t 8)), Op 10 (.load false 1 (.t 9)), Op 11 (.len (.slice) (.t 10)), Op 12 (.bin (.lss) (.t 6) (.t 11))]
 (.cond (.t 12) (.skip)
 (.exit 0)))
 (.seq (.block 1 (Rg [Mv 15 0, Op 16 (.nilCheck (.t 15)), Op 17 (.fieldAddr 3 (.t 16)), Op 18 (.load false 1 (.t 17)), Mv 19 5, Op 20 (.indexAddr 1 (.t 18) (.t 19)), Op 21 (.load false 1 (.t 20)), Mv 22 1, Op 23 (.bin (.eql) (.t 21) (.t 22))]
 (.cond (.t 23) (Rg [Mv 24 5, Mv 4 24]
 (.ret))
 (.skip))))
 (.region [Mv 13 5, Op 14 (.bin (.add) (.t 13) (Ci 1)), Mv 5 14]))))))
 (Rg [Op 4 (.move (.c (.int (.i64) (-1))))]
 (.ret)))⟩
theorem ok75 : compFunc prog glb 75 p75 = some c75 := by kernel_rfl
def p76 : List Plan := [⟨[(5, .quiet [0]), (4, .quiet [0]), (6, .quiet [0]), (7, .quiet [0]), (1, .quiet [0]), (0, .quiet [0]), (2, .quiet [0]), (3, .quiet [0]), (8, .quiet [0])], 0, [0, 0, 3, 7, 0, 0, 48, 112, 255]⟩]
def c76 : CFunc := ⟨26, [.tmp 4],
 Rg [Op 4 (.move (.c (.bool false)))]
 (.seq (Rg [Mv 6 0, Op 7 (.len (.slice) (.t 6)), Mv 8 1, Op 9 (.len (.slice) (.t 8)), Op 10 (.bin (.neq) (.t 7) (.t 9))]
 (.cond (.t 10) (Rg [Op 4 (.move (.c (.bool false)))]
 (.ret))
 (.skip)))
 (.seq (Rg [Op 5 (.move (Ci 0))]
 (.block 0 (.loop (.seq (Rg [Mv 11 5, Mv 12 0, Op 13 (.len (.slice) (.t 12)), Op 14 (.bin (.lss) (.t 11) (.t 13))]
 (.cond (.t 14) (.skip)
 (.exit 0)))
 (.seq (.block 1 (.seq (.draw [⟨5, Mv 22 5, (.quiet [0])⟩,
 ⟨4, Mv 21 1, (.quiet [0])⟩,
 ⟨6, Op 23 (.indexAddr 1 (.t 21) (.t 22)), (.quiet [0])⟩,
 ⟨7, Op 24 (.load false 1 (.t 23)), (.quiet [0])⟩,
 ⟨1, Mv 18 5, (.quiet [0])⟩,
 ⟨0, Mv 17 0, (.quiet [0])⟩,
 ⟨2, Op 19 (.indexAddr 1 (.t 17) (.t 18)), (.quiet [0])⟩,
 ⟨3, Op 20 (.load false 1 (.t 19)), (.quiet [0])⟩,
 ⟨8, Op 25 (.bin (.gtr) (.t 20) (.t 24)), (.quiet [0])⟩] 0)
 (.cond (.t 25) (Rg [Op 4 (.move (.c (.bool false)))]
 (.ret))
 (.skip))))
 (.region [Mv 15 5, Op 16 (.bin (.add) (.t 15) (Ci 1)), Mv 5 16]))))))
 (Rg [Op 4 (.move (.c (.bool true)))]
 (.ret))))⟩
theorem ok76 : compFunc prog glb 76 p76 = some c76 := by kernel_rfl
def p77 : List Plan := []
def c77 : CFunc := ⟨26, [.tmp 4],
 Rg [Op 4 (.move (Ci 0))]
 (.seq (Rg [Op 5 (.move (Ci 0))]
 (.block 0 (.loop (.seq (Rg [Mv 6 5, Mv 7 0, Op 8 (.nilCheck (.t 7)), Op 9 (.fieldAddr 6 (.t 8)), Op 10 (.load false 1 (.t 9)), Op 11 (.len (.slice) (.t 10)), Op 12 (.bin (.lss) (.t 6) (.t 11))]
 (.cond (.t 12) (.skip)
 (.exit 0)))
 (.seq (.block 1 (Rg [Mv 15 0, Op 16 (.nilCheck (.t 15)), Op 17 (.fieldAddr 6 (.t 16)), Op 18 (.load false 1 (.t 17)), Mv 19 5, Op 20 (.indexAddr 2 (.t 18) (.t 19)), Op 21 (.fieldAddr 0 (.t 20)), Op 22 (.load false 1 (.t 21)), Mv 23 1, Op 24 (.bin (.eql) (.t 22) (.t 23))]
 (.cond (.t 24) (Rg [Mv 25 5, Mv 4 25]
 (.ret))
 (.skip))))
 (.region [Mv 13 5, Op 14 (.bin (.add) (.t 13) (Ci 1)), Mv 5 14]))))))
 (Rg [Op 4 (.move (.c (.int (.i64) (-1))))]
 (.ret)))⟩
theorem ok77 : compFunc prog glb 77 p77 = some c77 := by kernel_rfl
def p78 : List Plan := [⟨[(7, .quiet [0]), (6, .quiet [0]), (8, .quiet [0]), (9, .quiet [0]), (3, .quiet [0]), (2, .quiet [0]), (4, .quiet [0]), (5, .quiet [0]), (10, .quiet [0]), (1, .quiet [0]), (0, .quiet [0]), (11, .quiet [0]), (12, .eff)], 0, [0, 0, 0, 0, 12, 28, 0, 0, 192, 448, 1020, 2047, 4095]⟩]
def c78 : CFunc := ⟨28, [.tmp 4],
 Rg [Op 4 (.move (.c (.nilSlice)))]
 (Rg [Mv 7 0, Op 8 (Ca 43 [.t 7]), Mv 5 8]
 (.seq (Rg [Op 6 (.move (Ci 0))]
 (.block 0 (.loop (.seq (Rg [Mv 9 6, Mv 10 5, Op 11 (.len (.slice) (.t 10)), Op 12 (.bin (.lss) (.t 9) (.t 11))]
 (.cond (.t 12) (.skip)
 (.exit 0)))
 (.seq (.block 1 (.draw [⟨7, Mv 22 6, (.quiet [0])⟩,
 ⟨6, Mv 21 1, (.quiet [0])⟩,
 ⟨8, Op 23 (.indexAddr 1 (.t 21) (.t 22)), (.quiet [0])⟩,
 ⟨9, Op 24 (.load false 1 (.t 23)), (.quiet [0])⟩,
 ⟨3, Mv 18 6, (.quiet [0])⟩,
 ⟨2, Mv 17 5, (.quiet [0])⟩,
 ⟨4, Op 19 (.indexAddr 1 (.t 17) (.t 18)), (.quiet [0])⟩,
 ⟨5, Op 20 (.load false 1 (.t 19)), (.quiet [0])⟩,
 ⟨10, Op 25 (.bin (.add) (.t 20) (.t 24)), (.quiet [0])⟩,
 ⟨1, Mv 16 6, (.quiet [0])⟩,
 ⟨0, Mv 15 5, (.quiet [0])⟩,
 ⟨11, Op 26 (.indexAddr 1 (.t 15) (.t 16)), (.quiet [0])⟩,
 ⟨12, On (.store 1 (.t 26) (.t 25)), (.eff)⟩] 0))
 (.region [Mv 13 6, Op 14 (.bin (.add) (.t 13) (Ci 1)), Mv 6 14]))))))
 (Rg [Mv 27 5, Mv 4 27]
 (.ret))))⟩
theorem ok78 : compFunc prog glb 78 p78 = some c78 := by kernel_rfl
def p79 : List Plan := [⟨[(5, .quiet [0]), (6, .quiet [0]), (1, .quiet [0]), (2, .quiet [0]), (3, .quiet [0]), (4, .quiet [0]), (7, .eff), (8, .quiet [7]), (9, .quiet [7]), (0, .quiet [0, 7]), (11, .quiet [7]), (12, .quiet [7]), (13, .eff), (10, .quiet [7, 13])], 0, [0, 0, 2, 6, 14, 0, 32, 126, 254, 510, 510, 1023, 3071, 7167]⟩, ⟨[(12, .quiet [0]), (13, .quiet [0]), (9, .quiet [0]), (5, .quiet [0]), (6, .quiet [0]), (7, .quiet [0]), (8, .quiet [0]), (10, .quiet [0]), (11, .quiet [0]), (14, .eff), (4, .quiet [0, 10]), (0, .quiet [0, 10]), (1, .quiet [0, 10]), (2, .quiet [0, 10]), (3, .quiet [0, 10]), (15, .quiet [10]), (16, .eff)], 0, [0, 1, 3, 7, 0, 0, 32, 96, 224, 0, 992, 2016, 0, 4096, 16352, 32767, 65535]⟩]
def c79 : CFunc := ⟨89, [.tmp 2],
 Rg [Op 2 (.move (.c (.nilSlice)))]
 (Rg [Op 8 (.buildSlice [.int (.i64) 0] 0 []), Mv 3 8]
 (Rg [Op 9 (.buildSlice [.int (.i64) 0, .nilSlice] 0 []), Mv 4 9]
 (.seq (Rg [Op 5 (.move (Ci 0))]
 (.block 0 (.loop (.seq (Rg [Mv 10 5, Mv 11 0, Op 12 (.nilCheck (.t 11)), Op 13 (.fieldAddr 6 (.t 12)), Op 14 (.load false 1 (.t 13)), Op 15 (.len (.slice) (.t 14)), Op 16 (.bin (.lss) (.t 10) (.t 15))]
 (.cond (.t 16) (.skip)
 (.exit 0)))
 (.seq (.block 1 (Rg [Mv 19 0, Op 20 (.nilCheck (.t 19)), Op 21 (.fieldAddr 6 (.t 20)), Op 22 (.load false 1 (.t 21)), Mv 23 5, Op 24 (.indexAddr 2 (.t 22) (.t 23)), Op 25 (.load true 2 (.t 24)), Op 6 (.new [.int (.i64) 0, .nilSlice]), On (.store 2 (.t 6) (.t 25))]
 (.seq (Rg [Mv 26 0, Op 27 (.load true 2 (.t 6)), Mv 28 4, Op 29 (.len (.slice) (.t 28)), Op 30 (.bin (.eql) (.t 29) (Ci 0)), Op 31 (Ca 95 [.t 26, .t 27, .t 30]), Op 32 (.un (.not) (.t 31))]
 (.cond (.t 32) (Rg [Mv 33 4, Op 34 (.load true 2 (.t 6)), Op 35 (.buildSlice [.int (.i64) 0, .nilSlice] 1 [(0, 2, .t 34)]), Op 36 (.append 2 32 (.t 33) (.t 35)), Mv 4 36]
 (.exit 1))
 (.skip)))
 (Rg [Mv 37 0, Op 38 (.fieldAddr 0 (.t 6)), Op 39 (.load false 1 (.t 38)), Op 40 (Ca 75 [.t 37, .t 39]), Mv 7 40]
 (.seq (.draw [⟨5, Op 47 (.fieldAddr 1 (.t 6)), (.quiet [0])⟩,
 ⟨6, Op 48 (.load false 1 (.t 47)), (.quiet [0])⟩,
 ⟨1, Mv 43 0, (.quiet [0])⟩,
 ⟨2, Op 44 (.nilCheck (.t 43)), (.quiet [0])⟩,
 ⟨3, Op 45 (.fieldAddr 1 (.t 44)), (.quiet [0])⟩,
 ⟨4, Op 46 (.load false 1 (.t 45)), (.quiet [0])⟩,
 ⟨7, Op 49 (Ca 27 [.t 46, .t 48]), (.eff)⟩,
 ⟨8, Mv 41 49, (.quiet [7])⟩,
 ⟨9, Op 50 (.extract (.t 41) 0), (.quiet [7])⟩,
 ⟨0, Mv 42 0, (.quiet [0, 7])⟩,
 ⟨11, Op 52 (.nilCheck (.t 42)), (.quiet [7])⟩,
 ⟨12, Op 53 (.fieldAddr 1 (.t 52)), (.quiet [7])⟩,
 ⟨13, On (.store 1 (.t 53) (.t 50)), (.eff)⟩,
 ⟨10, Op 51 (.extract (.t 41) 1), (.quiet [7, 13])⟩] 0)
 (Rg [Mv 54 0, Op 55 (.buildSlice [.nilSlice] 0 []), Mv 56 0, Op 57 (.nilCheck (.t 56)), Op 58 (.fieldAddr 4 (.t 57)), Op 59 (.load false 1 (.t 58)), Op 60 (.append 1 24 (.t 55) (.t 59)), Op 61 (.nilCheck (.t 54)), Op 62 (.fieldAddr 4 (.t 61)), On (.store 1 (.t 62) (.t 60))]
 (.seq (.draw [⟨12, Op 75 (.fieldAddr 1 (.t 6)), (.quiet [0])⟩,
 ⟨13, Op 76 (.load false 1 (.t 75)), (.quiet [0])⟩,
 ⟨9, Mv 72 7, (.quiet [0])⟩,
 ⟨5, Mv 68 0, (.quiet [0])⟩,
 ⟨6, Op 69 (.nilCheck (.t 68)), (.quiet [0])⟩,
 ⟨7, Op 70 (.fieldAddr 4 (.t 69)), (.quiet [0])⟩,
 ⟨8, Op 71 (.load false 1 (.t 70)), (.quiet [0])⟩,
 ⟨10, Op 73 (.indexAddr 1 (.t 71) (.t 72)), (.quiet [0])⟩,
 ⟨11, Op 74 (.load false 1 (.t 73)), (.quiet [0])⟩,
 ⟨14, Op 77 (Ca 78 [.t 74, .t 76]), (.eff)⟩,
 ⟨4, Mv 67 7, (.quiet [0, 10])⟩,
 ⟨0, Mv 63 0, (.quiet [0, 10])⟩,
 ⟨1, Op 64 (.nilCheck (.t 63)), (.quiet [0, 10])⟩,
 ⟨2, Op 65 (.fieldAddr 4 (.t 64)), (.quiet [0, 10])⟩,
 ⟨3, Op 66 (.load false 1 (.t 65)), (.quiet [0, 10])⟩,
 ⟨15, Op 78 (.indexAddr 1 (.t 66) (.t 67)), (.quiet [10])⟩,
 ⟨16, On (.store 1 (.t 78) (.t 77)), (.eff)⟩] 0)
 (.region [Mv 79 3, Op 80 (.fieldAddr 0 (.t 6)), Op 81 (.load false 1 (.t 80)), Op 82 (.buildSlice [.int (.i64) 0] 1 [(0, 1, .t 81)]), Op 83 (.append 1 8 (.t 79) (.t 82)), Mv 3 83]))))))))
 (.region [Mv 17 5, Op 18 (.bin (.add) (.t 17) (Ci 1)), Mv 5 18]))))))
 (Rg [Mv 84 0, Mv 85 4, Op 86 (.nilCheck (.t 84)), Op 87 (.fieldAddr 6 (.t 86)), On (.store 1 (.t 87) (.t 85))]
 (Rg [Mv 88 3, Mv 2 88]
 (.ret))))))⟩
theorem ok79 : compFunc prog glb 79 p79 = some c79 := by kernel_rfl
def p80 : List Plan := []
def c80 : CFunc := ⟨12, [],
 Rg [Mv 4 0, Op 5 (.nilCheck (.t 4)), Op 6 (.fieldAddr 0 (.t 5)), Op 7 (Ca 96 [.t 6]), Op 8 (.un (.not) (.t 7))]
 (.cond (.t 8) (.region [Mv 9 0, Mv 10 1, Op 11 (Ca 97 [.t 9, .t 10])])
 (.skip))⟩
theorem ok80 : compFunc prog glb 80 p80 = some c80 := by kernel_rfl
def p81 : List Plan := [⟨[(3, .quiet [0]), (4, .quiet [0]), (5, .quiet [0]), (6, .quiet [0]), (7, .eff), (0, .quiet [0, 5]), (10, .quiet [5]), (11, .quiet [5]), (12, .eff), (8, .alloc 0), (1, .quiet [0, 5, 9]), (13, .quiet [9]), (14, .quiet [9]), (15, .eff), (9, .alloc 1), (2, .quiet [0, 5, 9, 14]), (16, .quiet [14]), (17, .quiet [14]), (18, .eff)], 2, [0, 0, 0, 0, 8, 24, 56, 120, 0, 0, 249, 1273, 3321, 7675, 15867, 32251, 65535, 131071, 262143]⟩]
def c81 : CFunc := ⟨17, [],
 .draw [⟨3, Op 4 (.load false 1 (.t 0)), (.quiet [0])⟩,
 ⟨4, Op 5 (.nilCheck (.t 4)), (.quiet [0])⟩,
 ⟨5, Op 6 (.fieldAddr 0 (.t 5)), (.quiet [0])⟩,
 ⟨6, Op 7 (.load false 1 (.t 6)), (.quiet [0])⟩,
 ⟨7, Op 8 (Ca 40 [.t 7]), (.eff)⟩,
 ⟨0, Op 1 (.load false 1 (.t 0)), (.quiet [0, 5])⟩,
 ⟨10, Op 11 (.nilCheck (.t 1)), (.quiet [5])⟩,
 ⟨11, Op 12 (.fieldAddr 5 (.t 11)), (.quiet [5])⟩,
 ⟨12, On (.store 1 (.t 12) (.t 8)), (.eff)⟩,
 ⟨8, Op 9 (.newMap), (.alloc 0)⟩,
 ⟨1, Op 2 (.load false 1 (.t 0)), (.quiet [0, 5, 9])⟩,
 ⟨13, Op 13 (.nilCheck (.t 2)), (.quiet [9])⟩,
 ⟨14, Op 14 (.fieldAddr 6 (.t 13)), (.quiet [9])⟩,
 ⟨15, On (.store 1 (.t 14) (.t 9)), (.eff)⟩,
 ⟨9, Op 10 (.newMap), (.alloc 1)⟩,
 ⟨2, Op 3 (.load false 1 (.t 0)), (.quiet [0, 5, 9, 14])⟩,
 ⟨16, Op 15 (.nilCheck (.t 3)), (.quiet [14])⟩,
 ⟨17, Op 16 (.fieldAddr 7 (.t 15)), (.quiet [14])⟩,
 ⟨18, On (.store 1 (.t 16) (.t 10)), (.eff)⟩] 2⟩
theorem ok81 : compFunc prog glb 81 p81 = some c81 := by kernel_rfl
def p85 : List Plan := [⟨[(5, .quiet [0]), (4, .quiet [0]), (6, .quiet [0]), (7, .quiet [0]), (1, .quiet [0]), (0, .quiet [0]), (2, .quiet [0]), (3, .quiet [0]), (8, .eff), (9, .quiet [9])], 0, [0, 0, 3, 7, 0, 0, 48, 112, 255, 511]⟩]
def c85 : CFunc := ⟨29, [.tmp 6],
 Rg [Op 6 (.move (.c (.bool false)))]
 (.seq (Rg [Mv 8 0, Mv 9 1, Mv 10 2, Op 11 (Ca 101 [.t 8, .t 9, .t 10]), Op 12 (.un (.not) (.t 11))]
 (.cond (.t 12) (Rg [Op 6 (.move (.c (.bool false)))]
 (.ret))
 (.skip)))
 (.seq (Rg [Op 7 (.move (Ci 0))]
 (.block 0 (.loop (.seq (Rg [Mv 13 7, Mv 14 1, Op 15 (.len (.slice) (.t 14)), Op 16 (.bin (.lss) (.t 13) (.t 15))]
 (.cond (.t 16) (.skip)
 (.exit 0)))
 (.seq (.block 1 (.seq (.draw [⟨5, Mv 24 7, (.quiet [0])⟩,
 ⟨4, Mv 23 2, (.quiet [0])⟩,
 ⟨6, Op 25 (.indexAddr 1 (.t 23) (.t 24)), (.quiet [0])⟩,
 ⟨7, Op 26 (.load false 1 (.t 25)), (.quiet [0])⟩,
 ⟨1, Mv 20 7, (.quiet [0])⟩,
 ⟨0, Mv 19 1, (.quiet [0])⟩,
 ⟨2, Op 21 (.indexAddr 1 (.t 19) (.t 20)), (.quiet [0])⟩,
 ⟨3, Op 22 (.load false 1 (.t 21)), (.quiet [0])⟩,
 ⟨8, Op 27 (Ca 76 [.t 22, .t 26]), (.eff)⟩,
 ⟨9, Op 28 (.un (.not) (.t 27)), (.quiet [9])⟩] 0)
 (.cond (.t 28) (Rg [Op 6 (.move (.c (.bool false)))]
 (.ret))
 (.skip))))
 (.region [Mv 17 7, Op 18 (.bin (.add) (.t 17) (Ci 1)), Mv 7 18]))))))
 (Rg [Op 6 (.move (.c (.bool true)))]
 (.ret))))⟩
theorem ok85 : compFunc prog glb 85 p85 = some c85 := by kernel_rfl
def p86 : List Plan := [⟨[(10, .quiet [0]), (9, .quiet [0]), (11, .quiet [0]), (12, .quiet [0]), (5, .quiet [0]), (4, .quiet [0]), (6, .quiet [0]), (7, .quiet [0]), (1, .quiet [0]), (0, .quiet [0]), (2, .quiet [0]), (3, .quiet [0]), (8, .quiet [0]), (13, .quiet [0])], 0, [0, 0, 3, 7, 0, 0, 48, 112, 255, 0, 0, 1536, 3584, 8191]⟩]
def c86 : CFunc := ⟨28, [.tmp 6],
 Rg [Op 6 (.move (.c (.bool false)))]
 (.seq (Rg [Op 7 (.move (Ci 0))]
 (.block 0 (.loop (.seq (Rg [Mv 8 7, Mv 9 0, Op 10 (.len (.slice) (.t 9)), Op 11 (.bin (.lss) (.t 8) (.t 10))]
 (.cond (.t 11) (.skip)
 (.exit 0)))
 (.seq (.block 1 (.seq (.draw [⟨10, Mv 24 7, (.quiet [0])⟩,
 ⟨9, Mv 23 0, (.quiet [0])⟩,
 ⟨11, Op 25 (.indexAddr 1 (.t 23) (.t 24)), (.quiet [0])⟩,
 ⟨12, Op 26 (.load false 1 (.t 25)), (.quiet [0])⟩,
 ⟨5, Mv 19 7, (.quiet [0])⟩,
 ⟨4, Mv 18 2, (.quiet [0])⟩,
 ⟨6, Op 20 (.indexAddr 1 (.t 18) (.t 19)), (.quiet [0])⟩,
 ⟨7, Op 21 (.load false 1 (.t 20)), (.quiet [0])⟩,
 ⟨1, Mv 15 7, (.quiet [0])⟩,
 ⟨0, Mv 14 1, (.quiet [0])⟩,
 ⟨2, Op 16 (.indexAddr 1 (.t 14) (.t 15)), (.quiet [0])⟩,
 ⟨3, Op 17 (.load false 1 (.t 16)), (.quiet [0])⟩,
 ⟨8, Op 22 (.bin (.sub) (.t 17) (.t 21)), (.quiet [0])⟩,
 ⟨13, Op 27 (.bin (.gtr) (.t 22) (.t 26)), (.quiet [0])⟩] 0)
 (.cond (.t 27) (Rg [Op 6 (.move (.c (.bool false)))]
 (.ret))
 (.skip))))
 (.region [Mv 12 7, Op 13 (.bin (.add) (.t 12) (Ci 1)), Mv 7 13]))))))
 (Rg [Op 6 (.move (.c (.bool true)))]
 (.ret)))⟩
theorem ok86 : compFunc prog glb 86 p86 = some c86 := by kernel_rfl
def p87 : List Plan := []
def c87 : CFunc := ⟨8, [.tmp 3],
 Rg [Op 2 (.box (.t 0)), Op 3 (.move (.c (.bool false)))]
 (Rg [Op 4 (.fieldAddr 0 (.t 2)), Op 5 (.load false 1 (.t 4)), Op 6 (.load false 1 (.t 1)), Op 7 (.bin (.eql) (.t 5) (.t 6)), Mv 3 7]
 (.ret))⟩
theorem ok87 : compFunc prog glb 87 p87 = some c87 := by kernel_rfl
def p88 : List Plan := [⟨[(4, .quiet [0]), (1, .quiet [0]), (0, .quiet [0]), (2, .quiet [0]), (3, .quiet [0]), (5, .eff), (6, .quiet [6]), (7, .quiet [6]), (12, .quiet [6]), (9, .quiet [6]), (8, .quiet [6]), (10, .quiet [6]), (11, .quiet [6]), (13, .eff), (14, .quiet [14]), (15, .quiet [14]), (16, .quiet [14]), (22, .quiet [14]), (21, .quiet [14]), (23, .quiet [14]), (24, .quiet [14]), (18, .quiet [14]), (17, .quiet [14]), (19, .quiet [14]), (20, .quiet [14]), (25, .eff), (26, .quiet [26]), (27, .quiet [26])], 0, [0, 0, 3, 7, 0, 31, 63, 127, 255, 255, 1023, 2047, 255, 8191, 16383, 32767, 65535, 131071, 131071, 524287, 1048575, 131071, 131071, 6422527, 14811135, 33554431, 67108863, 134217727]⟩]
def c88 : CFunc := ⟨65, [.tmp 6],
 Rg [Op 6 (.move (.c (.bool false)))]
 (Rg [Mv 9 0, Op 10 (.len (.slice) (.t 9)), Mv 7 10]
 (.seq (Rg [Mv 11 7, Op 12 (.bin (.gtr) (.t 11) (Ci 6)), Mv 13 12, Mf 14 0 13, Mf 15 7 13, Of 16 (Ca 38 [.t 14, .t 15]) 13, Of 17 (.un (.not) (.t 16)) 13, Op 18 (.pick (.t 13) (.c (.bool true)) (.t 17)), Mv 19 18, Mf 20 1 19, Of 21 (.len (.slice) (.t 20)) 19, Mf 22 2 19, Of 23 (.len (.slice) (.t 22)) 19, Of 24 (.bin (.neq) (.t 21) (.t 23)) 19, Op 25 (.pick (.t 19) (.c (.bool true)) (.t 24)), Mv 26 25, Mf 27 1 26, Of 28 (.len (.slice) (.t 27)) 26, Of 29 (.bin (.gtr) (.t 28) (Ci 32)) 26, Op 30 (.pick (.t 26) (.c (.bool true)) (.t 29))]
 (.cond (.t 30) (Rg [Op 6 (.move (.c (.bool false)))]
 (.ret))
 (.skip)))
 (.seq (Rg [Mv 31 1, Op 32 (.len (.slice) (.t 31)), Op 33 (.move (Ci 0))]
 (.block 0 (.loop (Rg [Op 34 (.bin (.lss) (.t 33) (.t 32))]
 (.seq (.cond (.t 34) (.skip)
 (.exit 0))
 (.seq (.block 1 (Rg [Mv 35 33, Mv 8 35]
 (.seq (.draw [⟨4, Mv 40 7, (.quiet [0])⟩,
 ⟨1, Mv 37 8, (.quiet [0])⟩,
 ⟨0, Mv 36 1, (.quiet [0])⟩,
 ⟨2, Op 38 (.indexAddr 1 (.t 36) (.t 37)), (.quiet [0])⟩,
 ⟨3, Op 39 (.load false 1 (.t 38)), (.quiet [0])⟩,
 ⟨5, Op 41 (Ca 38 [.t 39, .t 40]), (.eff)⟩,
 ⟨6, Op 42 (.un (.not) (.t 41)), (.quiet [6])⟩,
 ⟨7, Mv 43 42, (.quiet [6])⟩,
 ⟨12, Mf 48 7 43, (.quiet [6])⟩,
 ⟨9, Mf 45 8 43, (.quiet [6])⟩,
 ⟨8, Mf 44 2 43, (.quiet [6])⟩,
 ⟨10, Of 46 (.indexAddr 1 (.t 44) (.t 45)) 43, (.quiet [6])⟩,
 ⟨11, Of 47 (.load false 1 (.t 46)) 43, (.quiet [6])⟩,
 ⟨13, Of 49 (Ca 38 [.t 47, .t 48]) 43, (.eff)⟩,
 ⟨14, Of 50 (.un (.not) (.t 49)) 43, (.quiet [14])⟩,
 ⟨15, Op 51 (.pick (.t 43) (.c (.bool true)) (.t 50)), (.quiet [14])⟩,
 ⟨16, Mv 52 51, (.quiet [14])⟩,
 ⟨22, Mf 58 8 52, (.quiet [14])⟩,
 ⟨21, Mf 57 2 52, (.quiet [14])⟩,
 ⟨23, Of 59 (.indexAddr 1 (.t 57) (.t 58)) 52, (.quiet [14])⟩,
 ⟨24, Of 60 (.load false 1 (.t 59)) 52, (.quiet [14])⟩,
 ⟨18, Mf 54 8 52, (.quiet [14])⟩,
 ⟨17, Mf 53 1 52, (.quiet [14])⟩,
 ⟨19, Of 55 (.indexAddr 1 (.t 53) (.t 54)) 52, (.quiet [14])⟩,
 ⟨20, Of 56 (.load false 1 (.t 55)) 52, (.quiet [14])⟩,
 ⟨25, Of 61 (Ca 61 [.t 56, .t 60]) 52, (.eff)⟩,
 ⟨26, Of 62 (.un (.not) (.t 61)) 52, (.quiet [26])⟩,
 ⟨27, Op 63 (.pick (.t 52) (.c (.bool true)) (.t 62)), (.quiet [26])⟩] 0)
 (.cond (.t 63) (Rg [Op 6 (.move (.c (.bool false)))]
 (.ret))
 (.skip)))))
 (.region [Op 64 (.bin (.add) (.t 33) (Ci 1)), Mv 33 64])))))))
 (Rg [Op 6 (.move (.c (.bool true)))]
 (.ret)))))⟩
theorem ok88 : compFunc prog glb 88 p88 = some c88 := by kernel_rfl
def p89 : List Plan := [⟨[(11, .quiet [0]), (10, .quiet [0]), (12, .quiet [0]), (13, .quiet [0]), (2, .quiet [0]), (0, .quiet [0]), (1, .quiet [0]), (14, .eff), (15, .quiet [8]), (7, .quiet [0, 8]), (6, .quiet [0, 8]), (8, .quiet [0, 8]), (9, .quiet [0, 8]), (16, .eff), (5, .quiet [0, 8, 14]), (3, .quiet [0, 8, 14]), (4, .quiet [0, 8, 14]), (17, .eff), (18, .quiet [18]), (19, .eff)], 0, [0, 1, 0, 0, 8, 0, 0, 0, 192, 448, 0, 0, 3072, 7168, 15367, 31751, 65479, 131071, 262143, 524287]⟩]
def c89 : CFunc := ⟨39, [.cell 6 true 3],
 Rg [Op 6 (.new [.nilSlice, .nilMap, .nilMap])]
 (Rg [Mv 9 0, Op 10 (Ca 40 [.t 9]), Op 11 (.newMap), Op 12 (.newMap), Op 13 (.build [.nilSlice, .nilMap, .nilMap] [(0, 1, .t 10), (1, 1, .t 11), (2, 1, .t 12)]), Op 7 (.new [.nilSlice, .nilMap, .nilMap]), On (.store 3 (.t 7) (.t 13))]
 (.seq (Rg [Mv 14 1, Op 15 (.len (.slice) (.t 14)), Op 16 (.move (Ci 0))]
 (.block 0 (.loop (Rg [Op 17 (.bin (.lss) (.t 16) (.t 15))]
 (.seq (.cond (.t 17) (.skip)
 (.exit 0))
 (.seq (.block 1 (Rg [Mv 18 16, Mv 8 18]
 (.draw [⟨11, Mv 30 8, (.quiet [0])⟩,
 ⟨10, Mv 29 2, (.quiet [0])⟩,
 ⟨12, Op 31 (.indexAddr 1 (.t 29) (.t 30)), (.quiet [0])⟩,
 ⟨13, Op 32 (.load false 1 (.t 31)), (.quiet [0])⟩,
 ⟨2, Mv 21 8, (.quiet [0])⟩,
 ⟨0, Op 19 (.fieldAddr 1 (.t 7)), (.quiet [0])⟩,
 ⟨1, Op 20 (.load false 1 (.t 19)), (.quiet [0])⟩,
 ⟨14, Op 33 (.mapEntry (.one (.int)) (.nilSlice) (.t 20) (.t 21)), (.eff)⟩,
 ⟨15, Op 34 (.extract (.t 33) 1), (.quiet [8])⟩,
 ⟨7, Mv 26 8, (.quiet [0, 8])⟩,
 ⟨6, Mv 25 1, (.quiet [0, 8])⟩,
 ⟨8, Op 27 (.indexAddr 1 (.t 25) (.t 26)), (.quiet [0, 8])⟩,
 ⟨9, Op 28 (.load false 1 (.t 27)), (.quiet [0, 8])⟩,
 ⟨16, On (.entryStore (.t 20) (.t 34) (.t 28)), (.eff)⟩,
 ⟨5, Mv 24 8, (.quiet [0, 8, 14])⟩,
 ⟨3, Op 22 (.fieldAddr 2 (.t 7)), (.quiet [0, 8, 14])⟩,
 ⟨4, Op 23 (.load false 1 (.t 22)), (.quiet [0, 8, 14])⟩,
 ⟨17, Op 35 (.mapEntry (.one (.int)) (.nilSlice) (.t 23) (.t 24)), (.eff)⟩,
 ⟨18, Op 36 (.extract (.t 35) 1), (.quiet [18])⟩,
 ⟨19, On (.entryStore (.t 23) (.t 36) (.t 32)), (.eff)⟩] 0)))
 (.region [Op 37 (.bin (.add) (.t 16) (Ci 1)), Mv 16 37])))))))
 (Rg [Op 38 (.load true 3 (.t 7)), On (.store 3 (.t 6) (.t 38))]
 (.ret))))⟩
theorem ok89 : compFunc prog glb 89 p89 = some c89 := by kernel_rfl
def p90 : List Plan := [⟨[(8, .quiet [0]), (6, .quiet [0]), (7, .quiet [0]), (9, .quiet [0]), (10, .quiet [0]), (2, .quiet [0]), (1, .quiet [0]), (3, .quiet [0]), (4, .quiet [0]), (0, .quiet [0]), (5, .quiet [0]), (11, .quiet [0])], 0, [0, 0, 0, 6, 14, 31, 0, 64, 0, 448, 960, 2047]⟩]
def c90 : CFunc := ⟨41, [.tmp 4],
 Rg [Op 2 (.box (.t 0)), Op 4 (.move (.c (.bool false)))]
 (Rg [Op 10 (.fieldAddr 1 (.t 2)), Op 11 (.load false 1 (.t 10)), Mv 12 1, Op 13 (.lookup (.one (.int)) (.nilSlice) true (.t 11) (.t 12)), Mv 9 13, Op 14 (.extract (.t 9) 0), Op 15 (.extract (.t 9) 1), Mv 5 14, Mv 6 15]
 (.seq (Rg [Mv 16 6, Op 17 (.un (.not) (.t 16))]
 (.cond (.t 17) (Rg [Op 4 (.move (.c (.bool false)))]
 (.ret))
 (.skip)))
 (.seq (Rg [Op 18 (.fieldAddr 2 (.t 2)), Op 19 (.load false 1 (.t 18)), Mv 20 1, Op 21 (.lookup (.one (.int)) (.nilSlice) false (.t 19) (.t 20)), Op 22 (.len (.slice) (.t 21)), Op 23 (.move (Ci 0))]
 (.block 0 (.loop (Rg [Op 24 (.bin (.lss) (.t 23) (.t 22))]
 (.seq (.cond (.t 24) (.skip)
 (.exit 0))
 (.seq (.block 1 (Rg [Mv 25 23, Op 26 (.indexAddr 1 (.t 21) (.t 23)), Op 27 (.load false 1 (.t 26)), Mv 7 25, Mv 8 27]
 (.seq (.draw [⟨8, Mv 36 7, (.quiet [0])⟩,
 ⟨6, Op 34 (.fieldAddr 0 (.t 2)), (.quiet [0])⟩,
 ⟨7, Op 35 (.load false 1 (.t 34)), (.quiet [0])⟩,
 ⟨9, Op 37 (.indexAddr 1 (.t 35) (.t 36)), (.quiet [0])⟩,
 ⟨10, Op 38 (.load false 1 (.t 37)), (.quiet [0])⟩,
 ⟨2, Mv 30 7, (.quiet [0])⟩,
 ⟨1, Mv 29 5, (.quiet [0])⟩,
 ⟨3, Op 31 (.indexAddr 1 (.t 29) (.t 30)), (.quiet [0])⟩,
 ⟨4, Op 32 (.load false 1 (.t 31)), (.quiet [0])⟩,
 ⟨0, Mv 28 8, (.quiet [0])⟩,
 ⟨5, Op 33 (.bin (.sub) (.t 28) (.t 32)), (.quiet [0])⟩,
 ⟨11, Op 39 (.bin (.gtr) (.t 33) (.t 38)), (.quiet [0])⟩] 0)
 (.cond (.t 39) (Rg [Op 4 (.move (.c (.bool false)))]
 (.ret))
 (.skip)))))
 (.region [Op 40 (.bin (.add) (.t 23) (Ci 1)), Mv 23 40])))))))
 (Rg [Op 4 (.move (.c (.bool true)))]
 (.ret)))))⟩
theorem ok90 : compFunc prog glb 90 p90 = some c90 := by kernel_rfl
def p91 : List Plan := []
def c91 : CFunc := ⟨28, [],
 Rg [Op 2 (.box (.t 0))]
 (.seq (Rg [Op 6 (.fieldAddr 1 (.t 2)), Op 7 (.load false 1 (.t 6)), Mv 8 1, Op 9 (.lookup (.one (.int)) (.nilSlice) false (.t 7) (.t 8)), Op 10 (.len (.slice) (.t 9)), Op 11 (.move (Ci 0))]
 (.block 0 (.loop (Rg [Op 12 (.bin (.lss) (.t 11) (.t 10))]
 (.seq (.cond (.t 12) (.skip)
 (.exit 0))
 (.seq (.block 1 (Rg [Mv 13 11, Op 14 (.indexAddr 1 (.t 9) (.t 11)), Op 15 (.load false 1 (.t 14)), Mv 4 13, Mv 5 15]
 (.region [Op 16 (.fieldAddr 0 (.t 2)), Op 17 (.load false 1 (.t 16)), Mv 18 4, Op 19 (.indexAddr 1 (.t 17) (.t 18)), Op 20 (.load false 1 (.t 19)), Mv 21 5, Op 22 (.bin (.add) (.t 20) (.t 21)), Op 23 (.indexAddr 1 (.t 17) (.t 18)), On (.store 1 (.t 23) (.t 22))])))
 (.region [Op 24 (.bin (.add) (.t 11) (Ci 1)), Mv 11 24])))))))
 (.region [Op 25 (.fieldAddr 1 (.t 2)), Op 26 (.load false 1 (.t 25)), Mv 27 1, On (.delete (.one (.int)) (.t 26) (.t 27))]))⟩
theorem ok91 : compFunc prog glb 91 p91 = some c91 := by kernel_rfl
def p92 : List Plan := []
def c92 : CFunc := ⟨6, [.tmp 4],
 Rg [Op 2 (.box (.t 0)), Op 3 (.box (.t 1)), Op 4 (.move (.c (.nilFunc)))]
 (Rg [Op 5 (.func 102 [] [.t 2, .t 3]), Mv 4 5]
 (.ret))⟩
theorem ok92 : compFunc prog glb 92 p92 = some c92 := by kernel_rfl
def p93 : List Plan := []
def c93 : CFunc := ⟨11, [.tmp 6],
 Rg [Op 6 (.move (.c (.bool false)))]
 (Rg [Mv 7 0, Mv 8 1, Mv 9 2, Op 10 (Ca 101 [.t 7, .t 8, .t 9]), Mv 6 10]
 (.ret))⟩
theorem ok93 : compFunc prog glb 93 p93 = some c93 := by kernel_rfl
def p94 : List Plan := [⟨[(2, .quiet [0]), (3, .quiet [0]), (4, .quiet [0]), (5, .quiet [0]), (0, .quiet [0]), (1, .quiet [0]), (6, .eff), (7, .quiet [7])], 0, [0, 1, 0, 4, 12, 28, 63, 127]⟩]
def c94 : CFunc := ⟨41, [.tmp 6],
 Rg [Op 4 (.box (.t 1)), Op 6 (.move (.c (.bool false)))]
 (.seq (.seq (.draw [⟨2, Mv 9 0, (.quiet [0])⟩,
 ⟨3, Op 10 (.nilCheck (.t 9)), (.quiet [0])⟩,
 ⟨4, Op 11 (.fieldAddr 5 (.t 10)), (.quiet [0])⟩,
 ⟨5, Op 12 (.load false 1 (.t 11)), (.quiet [0])⟩,
 ⟨0, Op 7 (.fieldAddr 1 (.t 4)), (.quiet [0])⟩,
 ⟨1, Op 8 (.load false 1 (.t 7)), (.quiet [0])⟩,
 ⟨6, Op 13 (Ca 61 [.t 8, .t 12]), (.eff)⟩,
 ⟨7, Op 14 (.un (.not) (.t 13)), (.quiet [7])⟩] 0)
 (.cond (.t 14) (Rg [Op 6 (.move (.c (.bool false)))]
 (.ret))
 (.skip)))
 (.seq (Rg [Mv 15 0, Op 16 (.nilCheck (.t 15)), Op 17 (.fieldAddr 1 (.t 16)), Op 18 (.load false 1 (.t 17)), Op 19 (.un (.not) (.t 18))]
 (.cond (.t 19) (Rg [Op 6 (.move (.c (.bool true)))]
 (.ret))
 (.skip)))
 (.seq (Rg [Mv 20 2, Mv 21 20, Mt 22 0 21, Ot 23 (.fieldAddr 0 (.t 4)) 21, Ot 24 (.load false 1 (.t 23)) 21, Ot 25 (Ca 19 [.t 22, .t 24]) 21, Ot 26 (Ca 103 [.t 25]) 21, Op 27 (.pick (.t 21) (.t 26) (.c (.bool false)))]
 (.cond (.t 27) (Rg [Op 6 (.move (.c (.bool false)))]
 (.ret))
 (.skip)))
 (Rg [Mv 28 0, Op 29 (.fieldAddr 0 (.t 4)), Op 30 (.load false 1 (.t 29)), Op 31 (.fieldAddr 1 (.t 4)), Op 32 (.load false 1 (.t 31)), Op 33 (Ca 68 [.t 28, .t 30, .t 32, Ci 1])]
 (Rg [Mv 34 0, Op 35 (.fieldAddr 0 (.t 4)), Op 36 (.load false 1 (.t 35)), Op 37 (.fieldAddr 1 (.t 4)), Op 38 (.load false 1 (.t 37)), On (.defer (.c (.func 68 [] [])) [.t 34, .t 36, .t 38, .c (.int (.i64) (-1))])]
 (Rg [Mv 39 0, Op 40 (Ca 23 [.t 39]), Mv 6 40]
 (.ret)))))))⟩
theorem ok94 : compFunc prog glb 94 p94 = some c94 := by kernel_rfl
def p95 : List Plan := [⟨[(2, .quiet [0]), (3, .quiet [0]), (4, .quiet [0]), (5, .quiet [0]), (0, .quiet [0]), (1, .quiet [0]), (6, .eff), (7, .quiet [7])], 0, [0, 1, 0, 4, 12, 28, 63, 127]⟩, ⟨[(4, .quiet [0]), (5, .quiet [0]), (0, .quiet [0]), (1, .quiet [0]), (2, .quiet [0]), (3, .quiet [0]), (6, .eff), (7, .quiet [7]), (8, .quiet [7]), (10, .quiet [7]), (9, .quiet [7]), (11, .quiet [7])], 0, [0, 1, 3, 7, 0, 16, 63, 127, 255, 255, 511, 2047]⟩, ⟨[(9, .quiet [0]), (10, .quiet [0]), (6, .quiet [0]), (2, .quiet [0]), (3, .quiet [0]), (4, .quiet [0]), (5, .quiet [0]), (7, .quiet [0]), (8, .quiet [0]), (11, .eff), (1, .quiet [0, 10]), (0, .quiet [0, 10]), (12, .quiet [10]), (13, .eff)], 0, [0, 0, 0, 4, 12, 28, 0, 124, 252, 0, 512, 2044, 4095, 8191]⟩]
def c95 : CFunc := ⟨76, [.tmp 6],
 Rg [Op 4 (.box (.t 1)), Op 6 (.move (.c (.bool false)))]
 (Rg [Mv 11 0, Op 12 (.fieldAddr 0 (.t 4)), Op 13 (.load false 1 (.t 12)), Op 14 (Ca 75 [.t 11, .t 13]), Mv 7 14]
 (.seq (.seq (.draw [⟨2, Mv 17 0, (.quiet [0])⟩,
 ⟨3, Op 18 (.nilCheck (.t 17)), (.quiet [0])⟩,
 ⟨4, Op 19 (.fieldAddr 1 (.t 18)), (.quiet [0])⟩,
 ⟨5, Op 20 (.load false 1 (.t 19)), (.quiet [0])⟩,
 ⟨0, Op 15 (.fieldAddr 1 (.t 4)), (.quiet [0])⟩,
 ⟨1, Op 16 (.load false 1 (.t 15)), (.quiet [0])⟩,
 ⟨6, Op 21 (Ca 76 [.t 16, .t 20]), (.eff)⟩,
 ⟨7, Op 22 (.un (.not) (.t 21)), (.quiet [7])⟩] 0)
 (.cond (.t 22) (Rg [Op 6 (.move (.c (.bool false)))]
 (.ret))
 (.skip)))
 (.seq (Rg [Mv 23 0, Op 24 (.nilCheck (.t 23)), Op 25 (.fieldAddr 2 (.t 24)), Op 26 (.load false 1 (.t 25)), Op 27 (.un (.not) (.t 26))]
 (.cond (.t 27) (Rg [Op 6 (.move (.c (.bool true)))]
 (.ret))
 (.skip)))
 (.seq (Rg [Mv 28 0, Op 29 (.nilCheck (.t 28)), Op 30 (.fieldAddr 4 (.t 29)), Op 31 (.load false 1 (.t 30)), Mv 32 7, Op 33 (.indexAddr 1 (.t 31) (.t 32)), Op 34 (.load false 1 (.t 33)), Op 35 (Ca 29 [.t 34]), Mv 36 35, Mt 37 2 36, Ot 38 (.un (.not) (.t 37)) 36, Op 39 (.pick (.t 36) (.t 38) (.c (.bool false)))]
 (.cond (.t 39) (Rg [Op 6 (.move (.c (.bool false)))]
 (.ret))
 (.skip)))
 (.seq (.draw [⟨4, Op 45 (.fieldAddr 1 (.t 4)), (.quiet [0])⟩,
 ⟨5, Op 46 (.load false 1 (.t 45)), (.quiet [0])⟩,
 ⟨0, Mv 41 0, (.quiet [0])⟩,
 ⟨1, Op 42 (.nilCheck (.t 41)), (.quiet [0])⟩,
 ⟨2, Op 43 (.fieldAddr 1 (.t 42)), (.quiet [0])⟩,
 ⟨3, Op 44 (.load false 1 (.t 43)), (.quiet [0])⟩,
 ⟨6, Op 47 (Ca 27 [.t 44, .t 46]), (.eff)⟩,
 ⟨7, Mv 40 47, (.quiet [7])⟩,
 ⟨8, Op 48 (.extract (.t 40) 0), (.quiet [7])⟩,
 ⟨10, Mv 8 48, (.quiet [7])⟩,
 ⟨9, Op 49 (.extract (.t 40) 1), (.quiet [7])⟩,
 ⟨11, Mv 9 49, (.quiet [7])⟩] 0)
 (Rg [Op 50 (.buildSlice [.nilSlice] 0 []), Mv 51 0, Op 52 (.nilCheck (.t 51)), Op 53 (.fieldAddr 4 (.t 52)), Op 54 (.load false 1 (.t 53)), Op 55 (.append 1 24 (.t 50) (.t 54)), Mv 10 55]
 (.seq (.draw [⟨9, Op 65 (.fieldAddr 1 (.t 4)), (.quiet [0])⟩,
 ⟨10, Op 66 (.load false 1 (.t 65)), (.quiet [0])⟩,
 ⟨6, Mv 62 7, (.quiet [0])⟩,
 ⟨2, Mv 58 0, (.quiet [0])⟩,
 ⟨3, Op 59 (.nilCheck (.t 58)), (.quiet [0])⟩,
 ⟨4, Op 60 (.fieldAddr 4 (.t 59)), (.quiet [0])⟩,
 ⟨5, Op 61 (.load false 1 (.t 60)), (.quiet [0])⟩,
 ⟨7, Op 63 (.indexAddr 1 (.t 61) (.t 62)), (.quiet [0])⟩,
 ⟨8, Op 64 (.load false 1 (.t 63)), (.quiet [0])⟩,
 ⟨11, Op 67 (Ca 78 [.t 64, .t 66]), (.eff)⟩,
 ⟨1, Mv 57 7, (.quiet [0, 10])⟩,
 ⟨0, Mv 56 10, (.quiet [0, 10])⟩,
 ⟨12, Op 68 (.indexAddr 1 (.t 56) (.t 57)), (.quiet [10])⟩,
 ⟨13, On (.store 1 (.t 68) (.t 67)), (.eff)⟩] 0)
 (Rg [Mv 69 8, Mv 70 10, Mv 71 0, Op 72 (.nilCheck (.t 71)), Op 73 (.fieldAddr 5 (.t 72)), Op 74 (.load false 1 (.t 73)), Op 75 (Ca 24 [.t 69, .t 70, .t 74]), Mv 6 75]
 (.ret)))))))))⟩
theorem ok95 : compFunc prog glb 95 p95 = some c95 := by kernel_rfl
def p96 : List Plan := []
def c96 : CFunc := ⟨8, [.tmp 2],
 Rg [Op 2 (.move (.c (.bool false)))]
 (Rg [Mv 3 0, Op 4 (.nilCheck (.t 3)), Op 5 (.fieldAddr 0 (.t 4)), Op 6 (.ext (Ext.atomicLoad (.u32)) [.t 5]), Op 7 (.bin (.neq) (.t 6) (.c (.int (.u32) 0))), Mv 2 7]
 (.ret))⟩
theorem ok96 : compFunc prog glb 96 p96 = some c96 := by kernel_rfl
def p97 : List Plan := []
def c97 : CFunc := ⟨21, [],
 Rg [Mv 4 0, Op 5 (.nilCheck (.t 4)), Op 6 (.fieldAddr 1 (.t 5)), Op 7 (Ca 105 [.t 6])]
 (Rg [Mv 8 0, Op 9 (.nilCheck (.t 8)), Op 10 (.fieldAddr 1 (.t 9)), On (.defer (.c (.func 106 [] [])) [.t 10])]
 (Rg [Mv 11 0, Op 12 (.nilCheck (.t 11)), Op 13 (.fieldAddr 0 (.t 12)), Op 14 (Ca 96 [.t 13]), Op 15 (.un (.not) (.t 14))]
 (.cond (.t 15) (Rg [Mv 16 0, Op 17 (.nilCheck (.t 16)), Op 18 (.fieldAddr 0 (.t 17)), On (.defer (.c (.func 107 [] [])) [.t 18, .c (.bool true)])]
 (.region [Mv 19 1, Op 20 (.call (.t 19) [])]))
 (.skip))))⟩
theorem ok97 : compFunc prog glb 97 p97 = some c97 := by kernel_rfl
def p101 : List Plan := []
def c101 : CFunc := ⟨54, [.tmp 6],
 Rg [Op 6 (.move (.c (.bool false)))]
 (.seq (Rg [Mv 8 0, Op 9 (.len (.slice) (.t 8)), Op 10 (.bin (.gtr) (.t 9) (Ci 6)), Mv 11 10, Mf 12 0 11, Mf 13 0 11, Of 14 (.len (.slice) (.t 13)) 11, Of 15 (Ca 41 [.t 12, .t 14]) 11, Of 16 (.un (.not) (.t 15)) 11, Op 17 (.pick (.t 11) (.c (.bool true)) (.t 16)), Mv 18 17, Mf 19 1 18, Of 20 (.len (.slice) (.t 19)) 18, Mf 21 2 18, Of 22 (.len (.slice) (.t 21)) 18, Of 23 (.bin (.neq) (.t 20) (.t 22)) 18, Op 24 (.pick (.t 18) (.c (.bool true)) (.t 23)), Mv 25 24, Mf 26 1 25, Of 27 (.len (.slice) (.t 26)) 25, Of 28 (.bin (.gtr) (.t 27) (Ci 32)) 25, Op 29 (.pick (.t 25) (.c (.bool true)) (.t 28))]
 (.cond (.t 29) (Rg [Op 6 (.move (.c (.bool false)))]
 (.ret))
 (.skip)))
 (.seq (Rg [Op 7 (.move (Ci 0))]
 (.block 0 (.loop (.seq (Rg [Mv 30 7, Mv 31 1, Op 32 (.len (.slice) (.t 31)), Op 33 (.bin (.lss) (.t 30) (.t 32))]
 (.cond (.t 33) (.skip)
 (.exit 0)))
 (.seq (.block 1 (Rg [Mv 36 1, Mv 37 7, Op 38 (.indexAddr 1 (.t 36) (.t 37)), Op 39 (.load false 1 (.t 38)), Mv 40 0, Op 41 (.len (.slice) (.t 40)), Op 42 (Ca 41 [.t 39, .t 41]), Op 43 (.un (.not) (.t 42)), Mv 44 43, Mf 45 2 44, Mf 46 7 44, Of 47 (.indexAddr 1 (.t 45) (.t 46)) 44, Of 48 (.load false 1 (.t 47)) 44, Mf 49 0 44, Of 50 (.len (.slice) (.t 49)) 44, Of 51 (Ca 41 [.t 48, .t 50]) 44, Of 52 (.un (.not) (.t 51)) 44, Op 53 (.pick (.t 44) (.c (.bool true)) (.t 52))]
 (.cond (.t 53) (Rg [Op 6 (.move (.c (.bool false)))]
 (.ret))
 (.skip))))
 (.region [Mv 34 7, Op 35 (.bin (.add) (.t 34) (Ci 1)), Mv 7 35]))))))
 (Rg [Op 6 (.move (.c (.bool true)))]
 (.ret))))⟩
theorem ok101 : compFunc prog glb 101 p101 = some c101 := by kernel_rfl
def p102 : List Plan := [⟨[(6, .quiet [0]), (5, .quiet [0]), (7, .quiet [0]), (8, .quiet [0]), (2, .quiet [0]), (1, .quiet [0]), (3, .quiet [0]), (4, .quiet [0]), (0, .quiet [0]), (9, .eff), (10, .quiet [10])], 0, [0, 0, 0, 6, 14, 0, 0, 96, 224, 511, 1023]⟩]
def c102 : CFunc := ⟨25, [],
 Rg [Op 5 (.load false 1 (.t 1)), Op 6 (.len (.slice) (.t 5)), Op 7 (.load false 1 (.t 2)), Op 8 (.len (.slice) (.t 7)), Op 9 (.maxmin false (.t 6) [.t 8]), Op 10 (.move (Ci 0))]
 (.block 0 (.loop (Rg [Op 11 (.bin (.lss) (.t 10) (.t 9))]
 (.seq (.cond (.t 11) (.skip)
 (.exit 0))
 (.seq (.block 1 (Rg [Mv 12 10, Mv 4 12]
 (.seq (.draw [⟨6, Mv 19 4, (.quiet [0])⟩,
 ⟨5, Op 18 (.load false 1 (.t 2)), (.quiet [0])⟩,
 ⟨7, Op 20 (.indexAddr 1 (.t 18) (.t 19)), (.quiet [0])⟩,
 ⟨8, Op 21 (.load false 1 (.t 20)), (.quiet [0])⟩,
 ⟨2, Mv 15 4, (.quiet [0])⟩,
 ⟨1, Op 14 (.load false 1 (.t 1)), (.quiet [0])⟩,
 ⟨3, Op 16 (.indexAddr 1 (.t 14) (.t 15)), (.quiet [0])⟩,
 ⟨4, Op 17 (.load false 1 (.t 16)), (.quiet [0])⟩,
 ⟨0, Mv 13 0, (.quiet [0])⟩,
 ⟨9, Op 22 (.call (.t 13) [.t 17, .t 21]), (.eff)⟩,
 ⟨10, Op 23 (.un (.not) (.t 22)), (.quiet [10])⟩] 0)
 (.cond (.t 23) (.ret)
 (.skip)))))
 (.region [Op 24 (.bin (.add) (.t 10) (Ci 1)), Mv 10 24]))))))⟩
theorem ok102 : compFunc prog glb 102 p102 = some c102 := by kernel_rfl
def p103 : List Plan := []
def c103 : CFunc := ⟨14, [.tmp 2],
 Rg [Op 2 (.move (.c (.bool false)))]
 (.seq (Rg [Mv 5 0, Op 6 (.len (.slice) (.t 5)), Op 7 (.move (Ci 0))]
 (.block 0 (.loop (Rg [Op 8 (.bin (.lss) (.t 7) (.t 6))]
 (.seq (.cond (.t 8) (.skip)
 (.exit 0))
 (.seq (.block 1 (Rg [Op 9 (.indexAddr 1 (.t 5) (.t 7)), Op 10 (.load false 1 (.t 9)), Mv 4 10]
 (Rg [Mv 11 4, Op 12 (.bin (.neq) (.t 11) (Ci 0))]
 (.cond (.t 12) (Rg [Op 2 (.move (.c (.bool false)))]
 (.ret))
 (.skip)))))
 (.region [Op 13 (.bin (.add) (.t 7) (Ci 1)), Mv 7 13])))))))
 (Rg [Op 2 (.move (.c (.bool true)))]
 (.ret)))⟩
theorem ok103 : compFunc prog glb 103 p103 = some c103 := by kernel_rfl
def p105 : List Plan := []
def c105 : CFunc := ⟨6, [],
 .region [Mv 2 0, Op 3 (.nilCheck (.t 2)), Op 4 (.fieldAddr 0 (.t 3)), Op 5 (Ca 119 [.t 4])]⟩
theorem ok105 : compFunc prog glb 105 p105 = some c105 := by kernel_rfl
def p106 : List Plan := []
def c106 : CFunc := ⟨6, [],
 .region [Mv 2 0, Op 3 (.nilCheck (.t 2)), Op 4 (.fieldAddr 0 (.t 3)), Op 5 (Ca 120 [.t 4])]⟩
theorem ok106 : compFunc prog glb 106 p106 = some c106 := by kernel_rfl
def p107 : List Plan := [⟨[(3, .quiet [0]), (4, .eff), (0, .quiet [0, 2]), (1, .quiet [0, 2]), (2, .quiet [0, 2]), (5, .eff)], 0, [0, 1, 3, 0, 8, 31]⟩]
def c107 : CFunc := ⟨10, [],
 .draw [⟨3, Mv 7 1, (.quiet [0])⟩,
 ⟨4, Op 8 (Ca 122 [.t 7]), (.eff)⟩,
 ⟨0, Mv 4 0, (.quiet [0, 2])⟩,
 ⟨1, Op 5 (.nilCheck (.t 4)), (.quiet [0, 2])⟩,
 ⟨2, Op 6 (.fieldAddr 0 (.t 5)), (.quiet [0, 2])⟩,
 ⟨5, Op 9 (.ext (Ext.atomicStore (.u32)) [.t 6, .t 8]), (.eff)⟩] 0⟩
theorem ok107 : compFunc prog glb 107 p107 = some c107 := by kernel_rfl
def p119 : List Plan := []
def c119 : CFunc := ⟨13, [],
 Rg [Op 2 (.ext (Ext.mark0) [])]
 (.seq (Rg [Mv 3 0, Op 4 (.nilCheck (.t 3)), Op 5 (.fieldAddr 0 (.t 4)), Op 6 (.ext (Ext.atomicCas (.i32)) [.t 5, .c (.int (.i32) 0), .c (.int (.i32) 1)])]
 (.cond (.t 6) (.seq (.cond (.c (.bool true)) (Rg [Op 7 (.ext (Ext.mark0) [])]
 (.region [Mv 8 0, Op 9 (.ext (Ext.uptr) [.t 8]), Op 10 (.ext (Ext.mark1) [.t 9])]))
 (.skip))
 (.ret))
 (.skip)))
 (.region [Mv 11 0, Op 12 (Ca 133 [.t 11])]))⟩
theorem ok119 : compFunc prog glb 119 p119 = some c119 := by kernel_rfl
def p120 : List Plan := []
def c120 : CFunc := ⟨21, [],
 .seq (.cond (.c (.bool true)) (Rg [Mv 3 0, Op 4 (.nilCheck (.t 3)), Op 5 (.fieldAddr 0 (.t 4)), Op 6 (.load false 1 (.t 5))]
 (Rg [Mv 7 0, Op 8 (.ext (Ext.uptr) [.t 7]), Op 9 (.ext (Ext.mark1) [.t 8])]
 (.region [Op 10 (.ext (Ext.mark0) [])])))
 (.skip))
 (Rg [Mv 11 0, Op 12 (.nilCheck (.t 11)), Op 13 (.fieldAddr 0 (.t 12)), Op 14 (.ext (Ext.atomicAdd (.i32)) [.t 13, .c (.int (.i32) (-1))]), Mv 2 14]
 (.seq (Rg [Mv 15 2, Op 16 (.bin (.neq) (.t 15) (.c (.int (.i32) 0)))]
 (.cond (.t 16) (.region [Mv 17 0, Mv 18 2, Op 19 (Ca 136 [.t 17, .t 18])])
 (.skip)))
 (.region [Op 20 (.ext (Ext.mark0) [])])))⟩
theorem ok120 : compFunc prog glb 120 p120 = some c120 := by kernel_rfl
def p122 : List Plan := []
def c122 : CFunc := ⟨4, [.tmp 2],
 Rg [Op 2 (.move (.c (.int (.u32) 0)))]
 (.seq (Rg [Mv 3 0]
 (.cond (.t 3) (Rg [Op 2 (.move (.c (.int (.u32) 1)))]
 (.ret))
 (.skip)))
 (Rg [Op 2 (.move (.c (.int (.u32) 0)))]
 (.ret)))⟩
theorem ok122 : compFunc prog glb 122 p122 = some c122 := by kernel_rfl
def p133 : List Plan := []
def c133 : CFunc := ⟨139, [],
 Rg [Op 2 (.move (Ci 0))]
 (Rg [Op 3 (.move (.c (.bool false)))]
 (Rg [Op 4 (.move (.c (.bool false)))]
 (Rg [Op 5 (.move (Ci 0))]
 (Rg [Mv 10 0, Op 11 (.nilCheck (.t 10)), Op 12 (.fieldAddr 0 (.t 11)), Op 13 (.load false 1 (.t 12)), Mv 6 13]
 (.seq (.block 0 (.loop (.block 1 (.seq (Rg [Mv 14 6, Op 15 (.bin (.and) (.t 14) (.c (.int (.i32) 5))), Op 16 (.bin (.eql) (.t 15) (.c (.int (.i32) 1))), Mv 17 16, Mt 18 5 17, Ot 19 (Ca 138 [.t 18]) 17, Op 20 (.pick (.t 17) (.t 19) (.c (.bool false)))]
 (.cond (.t 20) (.seq (Rg [Mv 21 4, Op 22 (.un (.not) (.t 21)), Mv 23 22, Mt 24 6 23, Ot 25 (.bin (.and) (.t 24) (.c (.int (.i32) 2))) 23, Ot 26 (.bin (.eql) (.t 25) (.c (.int (.i32) 0))) 23, Op 27 (.pick (.t 23) (.t 26) (.c (.bool false))), Mv 28 27, Mt 29 6 28, Ot 30 (.bin (.shr) (.t 29) (.c (.int (.u64) 3))) 28, Ot 31 (.bin (.neq) (.t 30) (.c (.int (.i32) 0))) 28, Op 32 (.pick (.t 28) (.t 31) (.c (.bool false))), Mv 33 32, Mt 34 0 33, Ot 35 (.nilCheck (.t 34)) 33, Ot 36 (.fieldAddr 0 (.t 35)) 33, Mt 37 6 33, Mt 38 6 33, Ot 39 (.bin (.or) (.t 38) (.c (.int (.i32) 2))) 33, Ot 40 (.ext (Ext.atomicCas (.i32)) [.t 36, .t 37, .t 39]) 33, Op 41 (.pick (.t 33) (.t 40) (.c (.bool false)))]
 (.cond (.t 41) (.region [Op 4 (.move (.c (.bool true)))])
 (.skip)))
 (Rg [Op 42 (Ca 139 [])]
 (Rg [Mv 43 5, Op 44 (.bin (.add) (.t 43) (Ci 1)), Mv 5 44]
 (Rg [Mv 45 0, Op 46 (.nilCheck (.t 45)), Op 47 (.fieldAddr 0 (.t 46)), Op 48 (.load false 1 (.t 47)), Mv 6 48]
 (.exit 1)))))
 (.skip)))
 (Rg [Mv 49 6, Mv 7 49]
 (.seq (Rg [Mv 50 6, Op 51 (.bin (.and) (.t 50) (.c (.int (.i32) 4))), Op 52 (.bin (.eql) (.t 51) (.c (.int (.i32) 0)))]
 (.cond (.t 52) (.region [Mv 53 7, Op 54 (.bin (.or) (.t 53) (.c (.int (.i32) 1))), Mv 7 54])
 (.skip)))
 (.seq (Rg [Mv 55 6, Op 56 (.bin (.and) (.t 55) (.c (.int (.i32) 5))), Op 57 (.bin (.neq) (.t 56) (.c (.int (.i32) 0)))]
 (.cond (.t 57) (.region [Mv 58 7, Op 59 (.bin (.add) (.t 58) (.c (.int (.i32) 8))), Mv 7 59])
 (.skip)))
 (.seq (Rg [Mv 60 3, Mv 61 60, Mt 62 6 61, Ot 63 (.bin (.and) (.t 62) (.c (.int (.i32) 1))) 61, Ot 64 (.bin (.neq) (.t 63) (.c (.int (.i32) 0))) 61, Op 65 (.pick (.t 61) (.t 64) (.c (.bool false)))]
 (.cond (.t 65) (.region [Mv 66 7, Op 67 (.bin (.or) (.t 66) (.c (.int (.i32) 4))), Mv 7 67])
 (.skip)))
 (.seq (Rg [Mv 68 4]
 (.cond (.t 68) (.seq (Rg [Mv 69 7, Op 70 (.bin (.and) (.t 69) (.c (.int (.i32) 2))), Op 71 (.bin (.eql) (.t 70) (.c (.int (.i32) 0)))]
 (.cond (.t 71) (.region [Op 72 (Ca 140 [.c (.str [115, 121, 110, 99, 58, 32, 105, 110, 99, 111, 110, 115, 105, 115, 116, 101, 110, 116, 32, 109, 117, 116, 101, 120, 32, 115, 116, 97, 116, 101])])])
 (.skip)))
 (.region [Mv 73 7, Op 74 (.bin (.andNot) (.t 73) (.c (.int (.i32) 2))), Mv 7 74]))
 (.skip)))
 (Rg [Mv 75 0, Op 76 (.nilCheck (.t 75)), Op 77 (.fieldAddr 0 (.t 76)), Mv 78 6, Mv 79 7, Op 80 (.ext (Ext.atomicCas (.i32)) [.t 77, .t 78, .t 79])]
 (.cond (.t 80) (.seq (Rg [Mv 81 6, Op 82 (.bin (.and) (.t 81) (.c (.int (.i32) 5))), Op 83 (.bin (.eql) (.t 82) (.c (.int (.i32) 0)))]
 (.cond (.t 83) (.exit 0)
 (.skip)))
 (Rg [Mv 84 2, Op 85 (.bin (.neq) (.t 84) (Ci 0)), Mv 8 85]
 (.seq (Rg [Mv 86 2, Op 87 (.bin (.eql) (.t 86) (Ci 0))]
 (.cond (.t 87) (.region [Op 88 (Ca 141 []), Mv 2 88])
 (.skip)))
 (Rg [Mv 89 0, Op 90 (.nilCheck (.t 89)), Op 91 (.fieldAddr 1 (.t 90)), Mv 92 8, Op 93 (Ca 142 [.t 91, .t 92, Ci 2])]
 (Rg [Mv 94 3, Mv 95 94, Of 96 (Ca 141 []) 95, Mf 97 2 95, Of 98 (.bin (.sub) (.t 96) (.t 97)) 95, Of 99 (.bin (.gtr) (.t 98) (Ci 1000000)) 95, Op 100 (.pick (.t 95) (.c (.bool true)) (.t 99)), Mv 3 100]
 (Rg [Mv 101 0, Op 102 (.nilCheck (.t 101)), Op 103 (.fieldAddr 0 (.t 102)), Op 104 (.load false 1 (.t 103)), Mv 6 104]
 (.seq (Rg [Mv 105 6, Op 106 (.bin (.and) (.t 105) (.c (.int (.i32) 4))), Op 107 (.bin (.neq) (.t 106) (.c (.int (.i32) 0)))]
 (.cond (.t 107) (.seq (Rg [Mv 108 6, Op 109 (.bin (.and) (.t 108) (.c (.int (.i32) 3))), Op 110 (.bin (.neq) (.t 109) (.c (.int (.i32) 0))), Mv 111 110, Mf 112 6 111, Of 113 (.bin (.shr) (.t 112) (.c (.int (.u64) 3))) 111, Of 114 (.bin (.eql) (.t 113) (.c (.int (.i32) 0))) 111, Op 115 (.pick (.t 111) (.c (.bool true)) (.t 114))]
 (.cond (.t 115) (.region [Op 116 (Ca 140 [.c (.str [115, 121, 110, 99, 58, 32, 105, 110, 99, 111, 110, 115, 105, 115, 116, 101, 110, 116, 32, 109, 117, 116, 101, 120, 32, 115, 116, 97, 116, 101])])])
 (.skip)))
 (Rg [Op 9 (.move (.c (.int (.i32) (-7))))]
 (.seq (Rg [Mv 117 3, Op 118 (.un (.not) (.t 117)), Mv 119 118, Mf 120 6 119, Of 121 (.bin (.shr) (.t 120) (.c (.int (.u64) 3))) 119, Of 122 (.bin (.eql) (.t 121) (.c (.int (.i32) 1))) 119, Op 123 (.pick (.t 119) (.c (.bool true)) (.t 122))]
 (.cond (.t 123) (.region [Mv 124 9, Op 125 (.bin (.sub) (.t 124) (.c (.int (.i32) 4))), Mv 9 125])
 (.skip)))
 (Rg [Mv 126 0, Op 127 (.nilCheck (.t 126)), Op 128 (.fieldAddr 0 (.t 127)), Mv 129 9, Op 130 (.ext (Ext.atomicAdd (.i32)) [.t 128, .t 129])]
 (.exit 0)))))
 (.skip)))
 (Rg [Op 4 (.move (.c (.bool true)))]
 (.region [Op 5 (.move (Ci 0))])))))))))
 (.region [Mv 131 0, Op 132 (.nilCheck (.t 131)), Op 133 (.fieldAddr 0 (.t 132)), Op 134 (.load false 1 (.t 133)), Mv 6 134]))))))))))))
 (.cond (.c (.bool true)) (Rg [Op 135 (.ext (Ext.mark0) [])]
 (.region [Mv 136 0, Op 137 (.ext (Ext.uptr) [.t 136]), Op 138 (.ext (Ext.mark1) [.t 137])]))
 (.skip)))))))⟩
theorem ok133 : compFunc prog glb 133 p133 = some c133 := by kernel_rfl
def p136 : List Plan := []
def c136 : CFunc := ⟨43, [],
 .seq (Rg [Mv 5 1, Op 6 (.bin (.add) (.t 5) (.c (.int (.i32) 1))), Op 7 (.bin (.and) (.t 6) (.c (.int (.i32) 1))), Op 8 (.bin (.eql) (.t 7) (.c (.int (.i32) 0)))]
 (.cond (.t 8) (.region [Op 9 (Ca 143 [.c (.str [115, 121, 110, 99, 58, 32, 117, 110, 108, 111, 99, 107, 32, 111, 102, 32, 117, 110, 108, 111, 99, 107, 101, 100, 32, 109, 117, 116, 101, 120])])])
 (.skip)))
 (Rg [Mv 10 1, Op 11 (.bin (.and) (.t 10) (.c (.int (.i32) 4))), Op 12 (.bin (.eql) (.t 11) (.c (.int (.i32) 0)))]
 (.cond (.t 12) (Rg [Mv 13 1, Mv 4 13]
 (.block 0 (.loop (.block 1 (.seq (Rg [Mv 14 4, Op 15 (.bin (.shr) (.t 14) (.c (.int (.u64) 3))), Op 16 (.bin (.eql) (.t 15) (.c (.int (.i32) 0))), Mv 17 16, Mf 18 4 17, Of 19 (.bin (.and) (.t 18) (.c (.int (.i32) 7))) 17, Of 20 (.bin (.neq) (.t 19) (.c (.int (.i32) 0))) 17, Op 21 (.pick (.t 17) (.c (.bool true)) (.t 20))]
 (.cond (.t 21) (.ret)
 (.skip)))
 (Rg [Mv 22 4, Op 23 (.bin (.sub) (.t 22) (.c (.int (.i32) 8))), Op 24 (.bin (.or) (.t 23) (.c (.int (.i32) 2))), Mv 1 24]
 (.seq (Rg [Mv 25 0, Op 26 (.nilCheck (.t 25)), Op 27 (.fieldAddr 0 (.t 26)), Mv 28 4, Mv 29 1, Op 30 (.ext (Ext.atomicCas (.i32)) [.t 27, .t 28, .t 29])]
 (.cond (.t 30) (Rg [Mv 31 0, Op 32 (.nilCheck (.t 31)), Op 33 (.fieldAddr 1 (.t 32)), Op 34 (Ca 144 [.t 33, .c (.bool false), Ci 2])]
 (.ret))
 (.skip)))
 (.region [Mv 35 0, Op 36 (.nilCheck (.t 35)), Op 37 (.fieldAddr 0 (.t 36)), Op 38 (.load false 1 (.t 37)), Mv 4 38]))))))))
 (.region [Mv 39 0, Op 40 (.nilCheck (.t 39)), Op 41 (.fieldAddr 1 (.t 40)), Op 42 (Ca 144 [.t 41, .c (.bool true), Ci 2])])))⟩
theorem ok136 : compFunc prog glb 136 p136 = some c136 := by kernel_rfl
end Go.Proofs.YtncmoaggkdlkhaaGreat.Cm
