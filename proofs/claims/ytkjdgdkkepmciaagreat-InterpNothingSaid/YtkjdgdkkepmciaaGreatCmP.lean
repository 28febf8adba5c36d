/-
  The clean machine, and what the law's functions do in it: part P of this claim's own texts. No conditions.
-/
import Derived.Test.YtkjdgdkkepmciaaGreatCmG
namespace Go.Proofs.YtkjdgdkkepmciaaGreat.Cm
def p174 : List Plan := []
def c174 : CFunc := ⟨3, [.tmp 0],
 Rg [Op 0 (.move (.c (.nilPtr)))]
 (Rg [Op 1 (.build [.int (.i64) 0, .nilSlice, .nilSlice] []), Op 2 (.box (.t 1)), Mv 0 2]
 (.ret))⟩
theorem ok174 : compFunc prog glb 174 p174 = some c174 := by kernel_rfl
def p175 : List Plan := []
def c175 : CFunc := ⟨13, [.tmp 4],
 Rg [Op 4 (.move (.c (.bool false)))]
 (Rg [Mv 5 0, Op 6 (.len (.slice) (.t 5)), Mv 7 1, Op 8 (.bin (.eql) (.t 6) (.t 7)), Mv 9 8, Mt 10 0 9, Ot 11 (Ca 148 [.t 10]) 9, Op 12 (.pick (.t 9) (.t 11) (.c (.bool false))), Mv 4 12]
 (.ret))⟩
theorem ok175 : compFunc prog glb 175 p175 = some c175 := by kernel_rfl
def p176 : List Plan := []
def c176 : CFunc := ⟨4, [],
 .region [Op 2 (.load false 1 (.t 0)), Op 3 (Ca 37 [.t 2]), On (.store 1 (.t 1) (.t 3))]⟩
theorem ok176 : compFunc prog glb 176 p176 = some c176 := by kernel_rfl
def p177 : List Plan := []
def c177 : CFunc := ⟨44, [.tmp 6, .tmp 7],
 Rg [Op 6 (.move (Ci 0)), Op 7 (.move (Ci 0))]
 (Rg [Mv 12 0, Op 13 (.nilCheck (.t 12)), Op 14 (.fieldAddr 0 (.t 13)), Op 15 (.load false 1 (.t 14)), Mv 16 1, Op 17 (Ca 232 [.t 15, .t 16]), Mv 11 17, Op 18 (.extract (.t 11) 0), Op 19 (.extract (.t 11) 1), Mv 8 18, Mv 9 19]
 (.seq (Rg [Mv 20 9, Op 21 (.bin (.neq) (.t 20) (Ci 0))]
 (.cond (.t 21) (Rg [Mv 22 9, Op 6 (.move (Ci 0)), Mv 7 22]
 (.ret))
 (.skip)))
 (.seq (Rg [Mv 23 0, Op 24 (.nilCheck (.t 23)), Op 25 (.fieldAddr 1 (.t 24)), Op 26 (.load false 1 (.t 25)), Mv 27 8, Mv 28 2, Op 29 (Ca 233 [.t 26, .t 27, .t 28]), Mv 10 29]
 (Rg [Mv 30 10, Op 31 (.bin (.neq) (.t 30) (Ci 0))]
 (.cond (.t 31) (Rg [Mv 32 0, Op 33 (.nilCheck (.t 32)), Op 34 (.fieldAddr 0 (.t 33)), Op 35 (.load false 1 (.t 34)), Mv 36 8, Mv 37 10, Op 38 (Ca 82 [.t 35, .t 36, .t 37])]
 (.region [Mv 39 0, Mv 40 8, Mv 41 10, Op 42 (Ca 38 [.t 39, Ci 4, .t 40, .t 41, Ci 0])]))
 (.skip))))
 (Rg [Mv 43 8, Mv 6 43, Op 7 (.move (Ci 0))]
 (.ret)))))⟩
theorem ok177 : compFunc prog glb 177 p177 = some c177 := by kernel_rfl
def p178 : List Plan := []
def c178 : CFunc := ⟨27, [.tmp 2],
 Rg [Op 1 (.box (.t 0)), Op 2 (.move (Ci 0))]
 (Rg [Op 3 (.move (Ci 0))]
 (.seq (Rg [Op 4 (.move (Ci 0))]
 (.block 0 (.loop (.seq (Rg [Mv 5 4, Op 6 (.fieldAddr 2 (.t 1)), Op 7 (.load false 1 (.t 6)), Op 8 (.len (.slice) (.t 7)), Op 9 (.bin (.lss) (.t 5) (.t 8))]
 (.cond (.t 9) (.skip)
 (.exit 0)))
 (.seq (.block 1 (Rg [Op 12 (.fieldAddr 2 (.t 1)), Op 13 (.load false 1 (.t 12)), Mv 14 4, Op 15 (.indexAddr 2 (.t 13) (.t 14)), Op 16 (.load true 2 (.t 15)), Op 17 (Ca 234 [.t 16]), Mv 18 3, Op 19 (.bin (.gtr) (.t 17) (.t 18))]
 (.cond (.t 19) (.region [Op 20 (.fieldAddr 2 (.t 1)), Op 21 (.load false 1 (.t 20)), Mv 22 4, Op 23 (.indexAddr 2 (.t 21) (.t 22)), Op 24 (.load true 2 (.t 23)), Op 25 (Ca 234 [.t 24]), Mv 3 25])
 (.skip))))
 (.region [Mv 10 4, Op 11 (.bin (.add) (.t 10) (Ci 1)), Mv 4 11]))))))
 (Rg [Mv 26 3, Mv 2 26]
 (.ret))))⟩
theorem ok178 : compFunc prog glb 178 p178 = some c178 := by kernel_rfl
def p179 : List Plan := []
def c179 : CFunc := ⟨10, [.tmp 2, .tmp 3],
 Rg [Op 2 (.move (.c (.nilPtr))), Op 3 (.move (Ci 0))]
 (.seq (Rg [Mv 4 0, Op 5 (Ca 235 [.t 4, Ci 1, Ci 32]), Op 6 (.un (.not) (.t 5))]
 (.cond (.t 6) (Rg [Op 2 (.move (.c (.nilPtr))), Op 3 (.move (Ci 1))]
 (.ret))
 (.skip)))
 (Rg [Mv 7 0, Op 8 (.build [.int (.i64) 0, .nilSlice] [(0, 1, .t 7)]), Op 9 (.box (.t 8)), Mv 2 9, Op 3 (.move (Ci 0))]
 (.ret)))⟩
theorem ok179 : compFunc prog glb 179 p179 = some c179 := by kernel_rfl
def p180 : List Plan := []
def c180 : CFunc := ⟨27, [.tmp 4, .tmp 5],
 Rg [Op 4 (.move (.c (.nilPtr))), Op 5 (.move (Ci 0))]
 (.seq (Rg [Mv 6 0, Op 7 (.len (.slice) (.t 6)), Op 8 (.bin (.gtr) (.t 7) (Ci 6)), Mv 9 8, Mf 10 0 9, Mf 11 0 9, Of 12 (.len (.slice) (.t 11)) 9, Of 13 (Ca 182 [.t 10, .t 12]) 9, Of 14 (.un (.not) (.t 13)) 9, Op 15 (.pick (.t 9) (.c (.bool true)) (.t 14)), Mv 16 15, Mf 17 0 16, Of 18 (Ca 236 [.t 17, Ci 0]) 16, Op 19 (.pick (.t 16) (.c (.bool true)) (.t 18))]
 (.cond (.t 19) (Rg [Op 4 (.move (.c (.nilPtr))), Op 5 (.move (Ci 1))]
 (.ret))
 (.skip)))
 (Rg [Mv 20 0, Op 21 (Ca 104 [.t 20]), Mv 22 0, Op 23 (Ca 104 [.t 22]), Mv 24 1, Op 25 (.build [.nilSlice, .nilSlice, .bool false, .nilSlice, .nilSlice, .nilSlice, .nilSlice] [(0, 1, .t 21), (1, 1, .t 23), (2, 1, .t 24)]), Op 26 (.box (.t 25)), Mv 4 26, Op 5 (.move (Ci 0))]
 (.ret)))⟩
theorem ok180 : compFunc prog glb 180 p180 = some c180 := by kernel_rfl
def p181 : List Plan := []
def c181 : CFunc := ⟨11, [.tmp 2, .tmp 3],
 Rg [Op 2 (.move (.c (.nilPtr))), Op 3 (.move (Ci 0))]
 (.seq (Rg [Mv 4 0, Op 5 (Ca 235 [.t 4, Ci 0, Ci 1000]), Op 6 (.un (.not) (.t 5))]
 (.cond (.t 6) (Rg [Op 2 (.move (.c (.nilPtr))), Op 3 (.move (Ci 1))]
 (.ret))
 (.skip)))
 (Rg [Mv 7 0, Mv 8 0, Op 9 (.build [.int (.i64) 0, .int (.i64) 0, .int (.i64) 0, .int (.i64) 0, .nilSlice] [(0, 1, .t 7), (1, 1, .t 8)]), Op 10 (.box (.t 9)), Mv 2 10, Op 3 (.move (Ci 0))]
 (.ret)))⟩
theorem ok181 : compFunc prog glb 181 p181 = some c181 := by kernel_rfl
def p182 : List Plan := []
def c182 : CFunc := ⟨22, [.tmp 4],
 Rg [Op 4 (.move (.c (.bool false)))]
 (.seq (Rg [Mv 6 0, Op 7 (.len (.slice) (.t 6)), Mv 8 1, Op 9 (.bin (.neq) (.t 7) (.t 8))]
 (.cond (.t 9) (Rg [Op 4 (.move (.c (.bool false)))]
 (.ret))
 (.skip)))
 (.seq (Rg [Op 5 (.move (Ci 0))]
 (.block 0 (.loop (.seq (Rg [Mv 10 5, Mv 11 0, Op 12 (.len (.slice) (.t 11)), Op 13 (.bin (.lss) (.t 10) (.t 12))]
 (.cond (.t 13) (.skip)
 (.exit 0)))
 (.seq (.block 1 (Rg [Mv 16 0, Mv 17 5, Op 18 (.indexAddr 1 (.t 16) (.t 17)), Op 19 (.load false 1 (.t 18)), Op 20 (Ca 235 [.t 19, Ci 0, Ci 1000]), Op 21 (.un (.not) (.t 20))]
 (.cond (.t 21) (Rg [Op 4 (.move (.c (.bool false)))]
 (.ret))
 (.skip))))
 (.region [Mv 14 5, Op 15 (.bin (.add) (.t 14) (Ci 1)), Mv 5 15]))))))
 (Rg [Op 4 (.move (.c (.bool true)))]
 (.ret))))⟩
theorem ok182 : compFunc prog glb 182 p182 = some c182 := by kernel_rfl
def p183 : List Plan := [⟨[(0, .quiet [0]), (1, .eff), (2, .quiet [0, 2]), (3, .quiet [0, 2]), (4, .quiet [0, 2]), (5, .quiet [0, 2]), (6, .quiet [2])], 0, [0, 1, 0, 4, 12, 28, 63]⟩]
def c183 : CFunc := ⟨39, [.tmp 4, .tmp 5],
 Rg [Op 4 (.move (Ci 0)), Op 5 (.move (Ci 0))]
 (.seq (Rg [Mv 6 1, Op 7 (.bin (.neq) (.t 6) (Ci 0)), Mv 8 7, Mt 9 0 8, Mt 10 1 8, Ot 11 (Ca 237 [.t 9, .t 10]) 8, Ot 12 (.un (.not) (.t 11)) 8, Op 13 (.pick (.t 8) (.t 12) (.c (.bool false)))]
 (.cond (.t 13) (Rg [Op 4 (.move (Ci 0)), Op 5 (.move (Ci 3))]
 (.ret))
 (.skip)))
 (.seq (.seq (.draw [⟨0, Mv 14 0, (.quiet [0])⟩,
 ⟨1, Op 15 (Ca 186 [.t 14]), (.eff)⟩,
 ⟨2, Mv 16 0, (.quiet [0, 2])⟩,
 ⟨3, Op 17 (.nilCheck (.t 16)), (.quiet [0, 2])⟩,
 ⟨4, Op 18 (.fieldAddr 0 (.t 17)), (.quiet [0, 2])⟩,
 ⟨5, Op 19 (.load false 1 (.t 18)), (.quiet [0, 2])⟩,
 ⟨6, Op 20 (.bin (.geq) (.t 15) (.t 19)), (.quiet [2])⟩] 0)
 (.cond (.t 20) (Rg [Op 4 (.move (Ci 0)), Op 5 (.move (Ci 42))]
 (.ret))
 (.skip)))
 (Rg [Mv 21 0, Op 22 (.buildSlice [.int (.i64) 0, .int (.i64) 0, .int (.i64) 0, .int (.i64) 0, .int (.i64) 0] 0 []), Mv 23 0, Op 24 (.nilCheck (.t 23)), Op 25 (.fieldAddr 1 (.t 24)), Op 26 (.load false 1 (.t 25)), Op 27 (.append 5 40 (.t 22) (.t 26)), Mv 28 1, Op 29 (.build [.int (.i64) 0, .int (.i64) 0, .int (.i64) 0, .int (.i64) 0, .int (.i64) 0] [(0, 1, .t 28), (1, 1, Ci 1)]), Op 30 (.buildSlice [.int (.i64) 0, .int (.i64) 0, .int (.i64) 0, .int (.i64) 0, .int (.i64) 0] 1 [(0, 5, .t 29)]), Op 31 (.append 5 40 (.t 27) (.t 30)), Op 32 (.nilCheck (.t 21)), Op 33 (.fieldAddr 1 (.t 32)), On (.store 1 (.t 33) (.t 31))]
 (Rg [Mv 34 0, Op 35 (.nilCheck (.t 34)), Op 36 (.fieldAddr 1 (.t 35)), Op 37 (.load false 1 (.t 36)), Op 38 (.len (.slice) (.t 37)), Mv 4 38, Op 5 (.move (Ci 0))]
 (.ret)))))⟩
theorem ok183 : compFunc prog glb 183 p183 = some c183 := by kernel_rfl
def p184 : List Plan := []
def c184 : CFunc := ⟨24, [.tmp 6],
 Rg [Op 6 (.move (.c (.nilSlice)))]
 (.seq (Rg [Mv 7 0, Op 8 (.nilCheck (.t 7)), Op 9 (.fieldAddr 1 (.t 8)), Op 10 (.load false 1 (.t 9)), Mv 11 1, Mv 12 2, Op 13 (Ca 238 [.t 10, .t 11, .t 12]), Op 14 (.bin (.eql) (.t 13) (Ci 35))]
 (.cond (.t 14) (Rg [Mv 15 0, Op 16 (.nilCheck (.t 15)), Op 17 (.fieldAddr 0 (.t 16)), Op 18 (.load false 1 (.t 17)), Mv 19 1, Op 20 (Ca 239 [.t 18, .t 19, Ci 35])]
 (Rg [Mv 21 1, Op 22 (.build [.int (.i64) 0, .int (.i64) 0, .int (.i64) 0, .int (.i64) 0, .int (.i64) 0] [(1, 1, Ci 4), (2, 1, .t 21), (3, 1, Ci 35)]), Op 23 (.buildSlice [.int (.i64) 0, .int (.i64) 0, .int (.i64) 0, .int (.i64) 0, .int (.i64) 0] 1 [(0, 5, .t 22)]), Mv 6 23]
 (.ret)))
 (.skip)))
 (Rg [Op 6 (.move (.c (.nilSlice)))]
 (.ret)))⟩
theorem ok184 : compFunc prog glb 184 p184 = some c184 := by kernel_rfl
def p185 : List Plan := []
def c185 : CFunc := ⟨33, [.cell 4 true 3, .tmp 5],
 Rg [Op 4 (.new [.int (.i64) 0, .int (.i64) 0, .int (.i64) 0]), Op 5 (.move (.c (.bool false)))]
 (.seq (Rg [Op 6 (.move (Ci 0))]
 (.block 0 (.loop (.seq (Rg [Mv 7 6, Mv 8 0, Op 9 (.nilCheck (.t 8)), Op 10 (.fieldAddr 0 (.t 9)), Op 11 (.load false 1 (.t 10)), Op 12 (.len (.slice) (.t 11)), Op 13 (.bin (.lss) (.t 7) (.t 12))]
 (.cond (.t 13) (.skip)
 (.exit 0)))
 (.seq (.block 1 (Rg [Mv 16 0, Op 17 (.nilCheck (.t 16)), Op 18 (.fieldAddr 0 (.t 17)), Op 19 (.load false 1 (.t 18)), Mv 20 6, Op 21 (.indexAddr 1 (.t 19) (.t 20)), Op 22 (.load false 1 (.t 21)), Mv 23 1, Op 24 (.bin (.eql) (.t 22) (.t 23))]
 (.cond (.t 24) (Rg [Mv 25 0, Op 26 (.nilCheck (.t 25)), Op 27 (.fieldAddr 1 (.t 26)), Op 28 (.load false 1 (.t 27)), Mv 29 6, Op 30 (.indexAddr 3 (.t 28) (.t 29)), Op 31 (.load true 3 (.t 30)), On (.store 3 (.t 4) (.t 31)), Op 5 (.move (.c (.bool true)))]
 (.ret))
 (.skip))))
 (.region [Mv 14 6, Op 15 (.bin (.add) (.t 14) (Ci 1)), Mv 6 15]))))))
 (Rg [Op 32 (.build [.int (.i64) 0, .int (.i64) 0, .int (.i64) 0] []), On (.store 3 (.t 4) (.t 32)), Op 5 (.move (.c (.bool false)))]
 (.ret)))⟩
theorem ok185 : compFunc prog glb 185 p185 = some c185 := by kernel_rfl
def p186 : List Plan := []
def c186 : CFunc := ⟨10, [.tmp 2],
 Rg [Op 2 (.move (Ci 0))]
 (Rg [Mv 3 0, Op 4 (Ca 188 [.t 3, Ci 1]), Op 5 (.len (.slice) (.t 4)), Mv 6 0, Op 7 (Ca 188 [.t 6, Ci 2]), Op 8 (.len (.slice) (.t 7)), Op 9 (.bin (.add) (.t 5) (.t 8)), Mv 2 9]
 (.ret))⟩
theorem ok186 : compFunc prog glb 186 p186 = some c186 := by kernel_rfl
def p187 : List Plan := []
def c187 : CFunc := ⟨13, [],
 Rg [Mv 4 0, Mv 5 1, Op 6 (.nilCheck (.t 4)), Op 7 (.fieldAddr 13 (.t 6)), On (.store 1 (.t 7) (.t 5))]
 (.region [Mv 8 0, Mv 9 1, Op 10 (.build [.int (.i64) 0, .int (.i64) 0, .int (.i64) 0, .int (.i64) 0, .int (.i64) 0] [(1, 1, Ci 6), (3, 1, .t 9)]), Op 11 (.buildSlice [.int (.i64) 0, .int (.i64) 0, .int (.i64) 0, .int (.i64) 0, .int (.i64) 0] 1 [(0, 5, .t 10)]), Op 12 (Ca 109 [.t 8, .t 11])])⟩
theorem ok187 : compFunc prog glb 187 p187 = some c187 := by kernel_rfl
def p188 : List Plan := []
def c188 : CFunc := ⟨33, [.tmp 4],
 Rg [Op 4 (.move (.c (.nilSlice)))]
 (Rg [Op 7 (.buildSlice [.int (.i64) 0] 0 []), Mv 5 7]
 (.seq (Rg [Op 6 (.move (Ci 0))]
 (.block 0 (.loop (.seq (Rg [Mv 8 6, Mv 9 0, Op 10 (.nilCheck (.t 9)), Op 11 (.fieldAddr 1 (.t 10)), Op 12 (.load false 1 (.t 11)), Op 13 (.len (.slice) (.t 12)), Op 14 (.bin (.lss) (.t 8) (.t 13))]
 (.cond (.t 14) (.skip)
 (.exit 0)))
 (.seq (.block 1 (Rg [Mv 17 0, Op 18 (.nilCheck (.t 17)), Op 19 (.fieldAddr 1 (.t 18)), Op 20 (.load false 1 (.t 19)), Mv 21 6, Op 22 (.indexAddr 5 (.t 20) (.t 21)), Op 23 (.fieldAddr 1 (.t 22)), Op 24 (.load false 1 (.t 23)), Mv 25 1, Op 26 (.bin (.eql) (.t 24) (.t 25))]
 (.cond (.t 26) (.region [Mv 27 5, Mv 28 6, Op 29 (.bin (.add) (.t 28) (Ci 1)), Op 30 (.buildSlice [.int (.i64) 0] 1 [(0, 1, .t 29)]), Op 31 (.append 1 8 (.t 27) (.t 30)), Mv 5 31])
 (.skip))))
 (.region [Mv 15 6, Op 16 (.bin (.add) (.t 15) (Ci 1)), Mv 6 16]))))))
 (Rg [Mv 32 5, Mv 4 32]
 (.ret))))⟩
theorem ok188 : compFunc prog glb 188 p188 = some c188 := by kernel_rfl
def p189 : List Plan := []
def c189 : CFunc := ⟨4, [.tmp 2],
 Rg [Op 2 (.move (Ci 0))]
 (.seq (Rg [Mv 3 0]
 (.cond (.t 3) (Rg [Op 2 (.move (Ci 1))]
 (.ret))
 (.skip)))
 (Rg [Op 2 (.move (Ci 0))]
 (.ret)))⟩
theorem ok189 : compFunc prog glb 189 p189 = some c189 := by kernel_rfl
def p190 : List Plan := []
def c190 : CFunc := ⟨8, [.tmp 3, .tmp 4],
 Rg [Op 3 (.move (.c (.nilSlice))), Op 4 (.move (Ci 0))]
 (Rg [Mv 5 0, Op 6 (.load false 1 (.t 1)), Op 7 (Ca 30 [.t 5, .t 6])]
 (Rg [Op 3 (.move (.c (.nilSlice))), Op 4 (.move (Ci 0))]
 (.ret)))⟩
theorem ok190 : compFunc prog glb 190 p190 = some c190 := by kernel_rfl
def p191 : List Plan := []
def c191 : CFunc := ⟨15, [.tmp 4, .tmp 5],
 Rg [Op 4 (.move (.c (.nilSlice))), Op 5 (.move (Ci 0))]
 (.seq (Rg [Mv 6 0, Op 7 (Ca 54 [.t 6]), Op 8 (.bin (.neq) (.t 7) (Ci 0))]
 (.cond (.t 8) (.region [Mv 9 0, Op 10 (.load false 1 (.t 1)), Op 11 (Ca 30 [.t 9, .t 10])])
 (.region [Mv 12 0, Op 13 (.load false 1 (.t 2)), Op 14 (Ca 30 [.t 12, .t 13])])))
 (Rg [Op 4 (.move (.c (.nilSlice))), Op 5 (.move (Ci 0))]
 (.ret)))⟩
theorem ok191 : compFunc prog glb 191 p191 = some c191 := by kernel_rfl
def p192 : List Plan := []
def c192 : CFunc := ⟨21, [.tmp 4, .tmp 5],
 Rg [Op 4 (.move (Ci 0)), Op 5 (.move (.c (.bool false)))]
 (.seq (Rg [Mv 8 0, Op 9 (.eq (.ptr) false (.t 8) (.c (.nilPtr)))]
 (.cond (.t 9) (Rg [Op 4 (.move (Ci 0)), Op 5 (.move (.c (.bool false)))]
 (.ret))
 (.skip)))
 (Rg [Mv 11 0, Op 12 (.nilCheck (.t 11)), Op 13 (.fieldAddr 1 (.t 12)), Op 14 (.load false 1 (.t 13)), Mv 15 1, Op 16 (.lookup (.one (.str)) (.int (.i64) 0) true (.t 14) (.t 15)), Mv 10 16, Op 17 (.extract (.t 10) 0), Op 18 (.extract (.t 10) 1), Mv 6 17, Mv 7 18]
 (Rg [Mv 19 6, Mv 20 7, Mv 4 19, Mv 5 20]
 (.ret))))⟩
theorem ok192 : compFunc prog glb 192 p192 = some c192 := by kernel_rfl
def p193 : List Plan := []
def c193 : CFunc := ⟨14, [.tmp 2],
 Rg [Op 2 (.move (.c (.bool false)))]
 (.seq (Rg [Mv 5 0, Op 6 (.len (.slice) (.t 5)), Op 7 (.move (Ci 0))]
 (.block 0 (.loop (Rg [Op 8 (.bin (.lss) (.t 7) (.t 6))]
 (.seq (.cond (.t 8) (.skip)
 (.exit 0))
 (.seq (.block 1 (Rg [Op 9 (.indexAddr 1 (.t 5) (.t 7)), Op 10 (.load false 1 (.t 9)), Mv 4 10]
 (Rg [Mv 11 4, Op 12 (.bin (.neq) (.t 11) (Ci 0))]
 (.cond (.t 12) (Rg [Op 2 (.move (.c (.bool false)))]
 (.ret))
 (.skip)))))
 (.region [Op 13 (.bin (.add) (.t 7) (Ci 1)), Mv 7 13])))))))
 (Rg [Op 2 (.move (.c (.bool true)))]
 (.ret)))⟩
theorem ok193 : compFunc prog glb 193 p193 = some c193 := by kernel_rfl
def p194 : List Plan := []
def c194 : CFunc := ⟨4, [],
 .region [Op 2 (.load false 1 (.t 0)), Op 3 (Ca 37 [.t 2]), On (.store 1 (.t 1) (.t 3))]⟩
theorem ok194 : compFunc prog glb 194 p194 = some c194 := by kernel_rfl
def p195 : List Plan := []
def c195 : CFunc := ⟨4, [],
 .region [Op 2 (.load false 1 (.t 0)), Op 3 (Ca 37 [.t 2]), On (.store 1 (.t 1) (.t 3))]⟩
theorem ok195 : compFunc prog glb 195 p195 = some c195 := by kernel_rfl
def p196 : List Plan := []
def c196 : CFunc := ⟨13, [.tmp 4],
 Rg [Op 4 (.move (.c (.bool false)))]
 (.seq (Rg [Mv 5 0, Mv 6 1, Op 7 (Ca 85 [.t 5, .t 6]), Op 8 (.bin (.eql) (.t 7) (Ci 0))]
 (.cond (.t 8) (Rg [Op 4 (.move (.c (.bool true)))]
 (.ret))
 (.skip)))
 (Rg [Mv 9 0, Mv 10 1, Op 11 (.build [.int (.i64) 0, .int (.i64) 0] [(0, 1, Ci 5)]), Op 12 (Ca 240 [.t 9, .t 10, .t 11])]
 (Rg [Op 4 (.move (.c (.bool false)))]
 (.ret))))⟩
theorem ok196 : compFunc prog glb 196 p196 = some c196 := by kernel_rfl
def p197 : List Plan := []
def c197 : CFunc := ⟨27, [.tmp 4],
 Rg [Op 4 (.move (.c (.nilPtr)))]
 (.seq (Rg [Mv 5 0, Op 6 (.eq (.ptr) false (.t 5) (.c (.nilPtr))), Mv 7 6, Mf 8 1 7, Of 9 (.bin (.lss) (.t 8) (Ci 0)) 7, Op 10 (.pick (.t 7) (.c (.bool true)) (.t 9)), Mv 11 10, Mf 12 1 11, Mf 13 0 11, Of 14 (.nilCheck (.t 13)) 11, Of 15 (.fieldAddr 2 (.t 14)) 11, Of 16 (.load false 1 (.t 15)) 11, Of 17 (.len (.slice) (.t 16)) 11, Of 18 (.bin (.geq) (.t 12) (.t 17)) 11, Op 19 (.pick (.t 11) (.c (.bool true)) (.t 18))]
 (.cond (.t 19) (Rg [Op 4 (.move (.c (.nilPtr)))]
 (.ret))
 (.skip)))
 (Rg [Mv 20 0, Op 21 (.nilCheck (.t 20)), Op 22 (.fieldAddr 2 (.t 21)), Op 23 (.load false 1 (.t 22)), Mv 24 1, Op 25 (.indexAddr 1 (.t 23) (.t 24)), Op 26 (.load false 1 (.t 25)), Mv 4 26]
 (.ret)))⟩
theorem ok197 : compFunc prog glb 197 p197 = some c197 := by kernel_rfl
def p198 : List Plan := []
def c198 : CFunc := ⟨4, [],
 .region [Op 2 (.load false 1 (.t 0)), Op 3 (Ca 37 [.t 2]), On (.store 1 (.t 1) (.t 3))]⟩
theorem ok198 : compFunc prog glb 198 p198 = some c198 := by kernel_rfl
def p199 : List Plan := []
def c199 : CFunc := ⟨39, [.tmp 4],
 Rg [Op 4 (.move (.c (.bool false)))]
 (.seq (.block 0 (Rg [Mv 6 0, Op 7 (.eq (.ptr) false (.t 6) (.c (.nilPtr))), Mv 8 7, Mf 9 1 8, Of 10 (.bin (.lss) (.t 9) (Ci 1)) 8, Op 11 (.pick (.t 8) (.c (.bool true)) (.t 10)), Mv 5 11]
 (.cond (.t 5) (Rg [Op 4 (.move (.c (.bool false)))]
 (.ret))
 (Rg [Mv 13 0, Op 14 (.nilCheck (.t 13)), Op 15 (.fieldAddr 0 (.t 14)), Op 16 (Ca 151 [.t 15]), Op 17 (.bin (.gtr) (.t 16) (Ci 0)), Mv 12 17]
 (.cond (.t 12) (Rg [Mv 18 0, Op 19 (.nilCheck (.t 18)), Op 20 (.fieldAddr 0 (.t 19)), Op 21 (Ca 241 [.t 20, .c (.int (.i64) (-1))])]
 (Rg [Mv 22 0, Op 23 (.nilCheck (.t 22)), Op 24 (.fieldAddr 2 (.t 23)), Op 25 (.load false 1 (.t 24)), Op 26 (.bin (.add) (.t 25) (Ci 1)), Op 27 (.nilCheck (.t 22)), Op 28 (.fieldAddr 2 (.t 27)), On (.store 1 (.t 28) (.t 26))]
 (Rg [Op 4 (.move (.c (.bool true)))]
 (.ret))))
 (.skip))))))
 (Rg [Mv 29 0, Mv 30 0, Op 31 (.nilCheck (.t 30)), Op 32 (.fieldAddr 4 (.t 31)), Op 33 (.load false 1 (.t 32)), Mv 34 1, Op 35 (.buildSlice [.int (.i64) 0] 1 [(0, 1, .t 34)]), Op 36 (.append 1 8 (.t 33) (.t 35)), Op 37 (.nilCheck (.t 29)), Op 38 (.fieldAddr 4 (.t 37)), On (.store 1 (.t 38) (.t 36))]
 (Rg [Op 4 (.move (.c (.bool false)))]
 (.ret))))⟩
theorem ok199 : compFunc prog glb 199 p199 = some c199 := by kernel_rfl
def p200 : List Plan := []
def c200 : CFunc := ⟨22, [],
 Rg [Mv 8 0, Op 9 (.nilCheck (.t 8)), Op 10 (.fieldAddr 0 (.t 9)), Op 11 (.load false 1 (.t 10)), Mv 12 1, Mv 13 2, Mv 14 3, Op 15 (.build [.int (.i64) 0, .int (.i64) 0] [(0, 1, .t 13), (1, 1, .t 14)]), Op 16 (Ca 240 [.t 11, .t 12, .t 15])]
 (.region [Mv 17 0, Mv 18 1, Mv 19 2, Mv 20 3, Op 21 (Ca 38 [.t 17, Ci 2, .t 18, .t 19, .t 20])])⟩
theorem ok200 : compFunc prog glb 200 p200 = some c200 := by kernel_rfl
def p201 : List Plan := []
def c201 : CFunc := ⟨45, [.tmp 2],
 Rg [Op 2 (.move (Ci 0))]
 (.seq (Rg [Mv 4 0, Op 5 (.eq (.ptr) false (.t 4) (.c (.nilPtr)))]
 (.cond (.t 5) (Rg [Op 2 (.move (Ci 0))]
 (.ret))
 (.skip)))
 (Rg [Mv 6 0, Op 7 (.nilCheck (.t 6)), Op 8 (.fieldAddr 3 (.t 7)), Op 9 (.load false 1 (.t 8)), Op 10 (.bin (.add) (.t 9) (Ci 1)), Op 11 (.nilCheck (.t 6)), Op 12 (.fieldAddr 3 (.t 11)), On (.store 1 (.t 12) (.t 10))]
 (.seq (Rg [Mv 13 0, Op 14 (.nilCheck (.t 13)), Op 15 (.fieldAddr 4 (.t 14)), Op 16 (.load false 1 (.t 15)), Op 17 (.len (.slice) (.t 16)), Op 18 (.bin (.eql) (.t 17) (Ci 0))]
 (.cond (.t 18) (Rg [Mv 19 0, Op 20 (.nilCheck (.t 19)), Op 21 (.fieldAddr 0 (.t 20)), Op 22 (Ca 241 [.t 21, Ci 1])]
 (Rg [Op 2 (.move (Ci 0))]
 (.ret)))
 (.skip)))
 (Rg [Mv 23 0, Op 24 (.nilCheck (.t 23)), Op 25 (.fieldAddr 4 (.t 24)), Op 26 (.load false 1 (.t 25)), Op 27 (.indexAddr 1 (.t 26) (Ci 0)), Op 28 (.load false 1 (.t 27)), Mv 3 28]
 (Rg [Mv 29 0, Mv 30 0, Op 31 (.nilCheck (.t 30)), Op 32 (.fieldAddr 4 (.t 31)), Op 33 (.load false 1 (.t 32)), Op 34 (.slice 1 (.t 33) (some (Ci 1)) none none), Op 35 (.nilCheck (.t 29)), Op 36 (.fieldAddr 4 (.t 35)), On (.store 1 (.t 36) (.t 34))]
 (Rg [Mv 37 0, Op 38 (.nilCheck (.t 37)), Op 39 (.fieldAddr 2 (.t 38)), Op 40 (.load false 1 (.t 39)), Op 41 (.bin (.add) (.t 40) (Ci 1)), Op 42 (.nilCheck (.t 37)), Op 43 (.fieldAddr 2 (.t 42)), On (.store 1 (.t 43) (.t 41))]
 (Rg [Mv 44 3, Mv 2 44]
 (.ret))))))))⟩
theorem ok201 : compFunc prog glb 201 p201 = some c201 := by kernel_rfl
def p202 : List Plan := [⟨[(4, .quiet [0]), (5, .eff), (0, .quiet [0, 2]), (1, .quiet [0, 2]), (2, .quiet [0, 2]), (3, .quiet [0, 2]), (6, .eff), (7, .quiet [7])], 0, [0, 1, 3, 7, 0, 16, 63, 127]⟩, ⟨[(13, .quiet [0]), (9, .quiet [0]), (8, .quiet [0]), (10, .quiet [0]), (11, .quiet [0]), (5, .quiet [0]), (4, .quiet [0]), (6, .quiet [0]), (0, .quiet [0]), (1, .quiet [0]), (2, .quiet [0]), (3, .quiet [0]), (7, .quiet [0]), (12, .quiet [0]), (14, .quiet [0])], 0, [0, 1, 3, 7, 0, 0, 48, 127, 0, 0, 768, 1792, 4095, 0, 16383]⟩, ⟨[(6, .quiet [0]), (7, .eff), (5, .quiet [0, 2]), (8, .quiet [2]), (9, .eff), (1, .quiet [0, 2, 5]), (2, .quiet [0, 2, 5]), (3, .quiet [0, 2, 5]), (4, .quiet [0, 2, 5]), (10, .eff), (0, .quiet [0, 2, 5, 10]), (11, .quiet [10]), (12, .quiet [10]), (13, .eff)], 0, [0, 0, 2, 6, 14, 0, 0, 64, 224, 480, 1022, 2047, 4095, 8191]⟩]
def c202 : CFunc := ⟨75, [.tmp 6, .tmp 7],
 Rg [Op 6 (.move (.c (.nilSlice))), Op 7 (.move (Ci 0))]
 (.seq (.block 0 (Rg [Mv 11 0, Mv 12 1, Op 13 (Ca 71 [.t 11, .t 12]), Op 14 (.un (.not) (.t 13)), Mv 10 14]
 (.cond (.t 10) (Rg [Op 6 (.move (.c (.nilSlice))), Op 7 (.move (Ci 3))]
 (.ret))
 (Rg [Mv 16 0, Mv 17 2, Op 18 (Ca 242 [.t 16, .t 17]), Op 19 (.un (.not) (.t 18)), Mv 15 19]
 (.cond (.t 15) (Rg [Op 6 (.move (.c (.nilSlice))), Op 7 (.move (Ci 1))]
 (.ret))
 (.seq (.draw [⟨4, Mv 25 1, (.quiet [0])⟩,
 ⟨5, Op 26 (Ca 75 [.t 25]), (.eff)⟩,
 ⟨0, Mv 21 0, (.quiet [0, 2])⟩,
 ⟨1, Op 22 (.nilCheck (.t 21)), (.quiet [0, 2])⟩,
 ⟨2, Op 23 (.fieldAddr 8 (.t 22)), (.quiet [0, 2])⟩,
 ⟨3, Op 24 (.load false 1 (.t 23)), (.quiet [0, 2])⟩,
 ⟨6, Op 27 (Ca 243 [.t 24, .t 26]), (.eff)⟩,
 ⟨7, Mv 20 27, (.quiet [7])⟩] 0)
 (.cond (.t 20) (Rg [Op 6 (.move (.c (.nilSlice))), Op 7 (.move (Ci 4))]
 (.ret))
 (.skip))))))))
 (.seq (Rg [Mv 28 0, Op 29 (.nilCheck (.t 28)), Op 30 (.fieldAddr 1 (.t 29)), Op 31 (.load false 1 (.t 30))]
 (.cond (.t 31) (Rg [Mv 32 0, Op 33 (.nilCheck (.t 32)), Op 34 (.fieldAddr 7 (.t 33)), Op 35 (.load false 1 (.t 34)), Mv 36 1, Op 37 (.lookup (.one (.int)) (.nilSlice) false (.t 35) (.t 36)), Op 38 (.len (.slice) (.t 37)), Op 39 (.move (Ci 0))]
 (.block 1 (.loop (Rg [Op 40 (.bin (.lss) (.t 39) (.t 38))]
 (.seq (.cond (.t 40) (.skip)
 (.exit 1))
 (.seq (.block 2 (Rg [Mv 41 39, Op 42 (.indexAddr 1 (.t 37) (.t 39)), Op 43 (.load false 1 (.t 42)), Mv 8 41, Mv 9 43]
 (.seq (.draw [⟨13, Mv 57 9, (.quiet [0])⟩,
 ⟨9, Mv 53 8, (.quiet [0])⟩,
 ⟨8, Mv 52 2, (.quiet [0])⟩,
 ⟨10, Op 54 (.indexAddr 1 (.t 52) (.t 53)), (.quiet [0])⟩,
 ⟨11, Op 55 (.load false 1 (.t 54)), (.quiet [0])⟩,
 ⟨5, Mv 49 8, (.quiet [0])⟩,
 ⟨4, Mv 48 1, (.quiet [0])⟩,
 ⟨6, Op 50 (.build [.int (.i64) 0, .int (.i64) 0] [(0, 1, .t 48), (1, 1, .t 49)]), (.quiet [0])⟩,
 ⟨0, Mv 44 0, (.quiet [0])⟩,
 ⟨1, Op 45 (.nilCheck (.t 44)), (.quiet [0])⟩,
 ⟨2, Op 46 (.fieldAddr 6 (.t 45)), (.quiet [0])⟩,
 ⟨3, Op 47 (.load false 1 (.t 46)), (.quiet [0])⟩,
 ⟨7, Op 51 (.lookup (.flat [.int, .int]) (.int (.i64) 0) false (.t 47) (.t 50)), (.quiet [0])⟩,
 ⟨12, Op 56 (.bin (.add) (.t 51) (.t 55)), (.quiet [0])⟩,
 ⟨14, Op 58 (.bin (.gtr) (.t 56) (.t 57)), (.quiet [0])⟩] 0)
 (.cond (.t 58) (Rg [Op 6 (.move (.c (.nilSlice))), Op 7 (.move (Ci 35))]
 (.ret))
 (.skip)))))
 (.region [Op 59 (.bin (.add) (.t 39) (Ci 1)), Mv 39 59])))))))
 (.skip)))
 (.seq (.draw [⟨6, Mv 66 2, (.quiet [0])⟩,
 ⟨7, Op 67 (Ca 25 [.t 66]), (.eff)⟩,
 ⟨5, Mv 65 1, (.quiet [0, 2])⟩,
 ⟨8, Op 68 (.build [.int (.i64) 0, .nilSlice] [(0, 1, .t 65), (1, 1, .t 67)]), (.quiet [2])⟩,
 ⟨9, Op 69 (.buildSlice [.int (.i64) 0, .nilSlice] 1 [(0, 2, .t 68)]), (.eff)⟩,
 ⟨1, Mv 61 0, (.quiet [0, 2, 5])⟩,
 ⟨2, Op 62 (.nilCheck (.t 61)), (.quiet [0, 2, 5])⟩,
 ⟨3, Op 63 (.fieldAddr 8 (.t 62)), (.quiet [0, 2, 5])⟩,
 ⟨4, Op 64 (.load false 1 (.t 63)), (.quiet [0, 2, 5])⟩,
 ⟨10, Op 70 (.append 2 32 (.t 64) (.t 69)), (.eff)⟩,
 ⟨0, Mv 60 0, (.quiet [0, 2, 5, 10])⟩,
 ⟨11, Op 71 (.nilCheck (.t 60)), (.quiet [10])⟩,
 ⟨12, Op 72 (.fieldAddr 8 (.t 71)), (.quiet [10])⟩,
 ⟨13, On (.store 1 (.t 72) (.t 70)), (.eff)⟩] 0)
 (Rg [Mv 73 0, Op 74 (Ca 78 [.t 73]), Mv 6 74, Op 7 (.move (Ci 0))]
 (.ret)))))⟩
theorem ok202 : compFunc prog glb 202 p202 = some c202 := by kernel_rfl
def p203 : List Plan := []
def c203 : CFunc := ⟨4, [],
 .region [Op 2 (.load false 1 (.t 0)), Op 3 (Ca 37 [.t 2]), On (.store 1 (.t 1) (.t 3))]⟩
theorem ok203 : compFunc prog glb 203 p203 = some c203 := by kernel_rfl
def p204 : List Plan := []
def c204 : CFunc := ⟨9, [.tmp 4],
 Rg [Op 4 (.move (.c (.bool false)))]
 (Rg [Mv 5 0, Mv 6 1, Op 7 (Ca 244 [.t 5, .t 6]), Op 8 (.bin (.geq) (.t 7) (Ci 0)), Mv 4 8]
 (.ret))⟩
theorem ok204 : compFunc prog glb 204 p204 = some c204 := by kernel_rfl
def p205 : List Plan := []
def c205 : CFunc := ⟨7, [],
 .seq (Rg [Op 3 (.move (.c (.nilIface))), Op 4 (.eq (.iface) true (.t 3) (.c (.nilIface)))]
 (.cond (.t 4) (.region [On (.store 1 (.t 0) (Ci 4))])
 (.skip)))
 (.region [Op 5 (.load false 1 (.t 1)), Op 6 (Ca 37 [.t 5]), On (.store 1 (.t 2) (.t 6))])⟩
theorem okd205 : compFuncD prog glb 205 p205 = some c205 := by kernel_rfl
def p206 : List Plan := []
def c206 : CFunc := ⟨31, [.tmp 6, .tmp 7],
 Rg [Op 6 (.move (.c (.nilSlice))), Op 7 (.move (Ci 0))]
 (.seq (.block 0 (Rg [Mv 9 0, Mv 10 1, Op 11 (Ca 71 [.t 9, .t 10]), Op 12 (.un (.not) (.t 11)), Mv 8 12]
 (.cond (.t 8) (Rg [Op 6 (.move (.c (.nilSlice))), Op 7 (.move (Ci 3))]
 (.ret))
 (Rg [Mv 14 0, Mv 15 2, Op 16 (Ca 242 [.t 14, .t 15]), Op 17 (.un (.not) (.t 16)), Mv 13 17]
 (.cond (.t 13) (Rg [Op 6 (.move (.c (.nilSlice))), Op 7 (.move (Ci 1))]
 (.ret))
 (Rg [Mv 19 2, Mv 20 0, Mv 21 1, Op 22 (Ca 73 [.t 20, .t 21]), Op 23 (Ca 215 [.t 19, .t 22]), Op 24 (.un (.not) (.t 23)), Mv 18 24]
 (.cond (.t 18) (Rg [Op 6 (.move (.c (.nilSlice))), Op 7 (.move (Ci 36))]
 (.ret))
 (.skip))))))))
 (Rg [Mv 25 0, Mv 26 1, Mv 27 2, Op 28 (Ca 72 [.t 25, .t 26, .t 27, .c (.int (.i64) (-1))])]
 (Rg [Mv 29 0, Op 30 (Ca 78 [.t 29]), Mv 6 30, Op 7 (.move (Ci 0))]
 (.ret))))⟩
theorem ok206 : compFunc prog glb 206 p206 = some c206 := by kernel_rfl
def p207 : List Plan := []
def c207 : CFunc := ⟨27, [.tmp 4],
 Rg [Op 4 (.move (.c (.nilPtr)))]
 (.seq (Rg [Mv 5 0, Op 6 (.eq (.ptr) false (.t 5) (.c (.nilPtr))), Mv 7 6, Mf 8 1 7, Of 9 (.bin (.lss) (.t 8) (Ci 0)) 7, Op 10 (.pick (.t 7) (.c (.bool true)) (.t 9)), Mv 11 10, Mf 12 1 11, Mf 13 0 11, Of 14 (.nilCheck (.t 13)) 11, Of 15 (.fieldAddr 3 (.t 14)) 11, Of 16 (.load false 1 (.t 15)) 11, Of 17 (.len (.slice) (.t 16)) 11, Of 18 (.bin (.geq) (.t 12) (.t 17)) 11, Op 19 (.pick (.t 11) (.c (.bool true)) (.t 18))]
 (.cond (.t 19) (Rg [Op 4 (.move (.c (.nilPtr)))]
 (.ret))
 (.skip)))
 (Rg [Mv 20 0, Op 21 (.nilCheck (.t 20)), Op 22 (.fieldAddr 3 (.t 21)), Op 23 (.load false 1 (.t 22)), Mv 24 1, Op 25 (.indexAddr 1 (.t 23) (.t 24)), Op 26 (.load false 1 (.t 25)), Mv 4 26]
 (.ret)))⟩
theorem ok207 : compFunc prog glb 207 p207 = some c207 := by kernel_rfl
def p208 : List Plan := []
def c208 : CFunc := ⟨4, [],
 .region [Op 2 (.load false 1 (.t 0)), Op 3 (Ca 37 [.t 2]), On (.store 1 (.t 1) (.t 3))]⟩
theorem ok208 : compFunc prog glb 208 p208 = some c208 := by kernel_rfl
def p209 : List Plan := []
def c209 : CFunc := ⟨26, [.tmp 4],
 Rg [Op 4 (.move (.c (.bool false)))]
 (.seq (Rg [Mv 5 0, Op 6 (.eq (.ptr) false (.t 5) (.c (.nilPtr))), Mv 7 6, Mf 8 1 7, Of 9 (.bin (.lss) (.t 8) (Ci 1)) 7, Op 10 (.pick (.t 7) (.c (.bool true)) (.t 9))]
 (.cond (.t 10) (Rg [Op 4 (.move (.c (.bool false)))]
 (.ret))
 (.skip)))
 (.seq (Rg [Mv 11 0, Op 12 (.nilCheck (.t 11)), Op 13 (.fieldAddr 0 (.t 12)), Op 14 (.load false 1 (.t 13)), Op 15 (.bin (.neq) (.t 14) (Ci 0))]
 (.cond (.t 15) (Rg [Mv 16 0, Op 17 (.nilCheck (.t 16)), Op 18 (.fieldAddr 1 (.t 17)), Mv 19 1, Op 20 (.buildSlice [.int (.i64) 0] 1 [(0, 1, .t 19)]), Op 21 (Ca 245 [.t 18, .t 20])]
 (Rg [Op 4 (.move (.c (.bool false)))]
 (.ret)))
 (.skip)))
 (Rg [Mv 22 0, Mv 23 1, Op 24 (.nilCheck (.t 22)), Op 25 (.fieldAddr 0 (.t 24)), On (.store 1 (.t 25) (.t 23))]
 (Rg [Op 4 (.move (.c (.bool true)))]
 (.ret)))))⟩
theorem ok209 : compFunc prog glb 209 p209 = some c209 := by kernel_rfl
def p210 : List Plan := []
def c210 : CFunc := ⟨28, [.tmp 6],
 Rg [Op 6 (.move (Ci 0))]
 (.seq (.block 0 (Rg [Mv 8 0, Mv 9 1, Op 10 (Ca 35 [.t 8, .t 9]), Op 11 (.un (.not) (.t 10)), Mv 7 11]
 (.cond (.t 7) (Rg [Op 6 (.move (Ci 4))]
 (.ret))
 (Rg [Mv 13 0, Mv 14 2, Op 15 (Ca 207 [.t 13, .t 14]), Op 16 (.eq (.ptr) false (.t 15) (.c (.nilPtr))), Mv 12 16]
 (.cond (.t 12) (Rg [Op 6 (.move (Ci 3))]
 (.ret))
 (Rg [Mv 18 0, Op 19 (.nilCheck (.t 18)), Op 20 (.fieldAddr 3 (.t 19)), Op 21 (.load false 1 (.t 20)), Mv 22 2, Op 23 (.indexAddr 1 (.t 21) (.t 22)), Op 24 (.load false 1 (.t 23)), Op 25 (Ca 142 [.t 24]), Mv 26 1, Op 27 (.bin (.neq) (.t 25) (.t 26)), Mv 17 27]
 (.cond (.t 17) (Rg [Op 6 (.move (Ci 38))]
 (.ret))
 (.skip))))))))
 (Rg [Op 6 (.move (Ci 0))]
 (.ret)))⟩
theorem ok210 : compFunc prog glb 210 p210 = some c210 := by kernel_rfl
def p211 : List Plan := [⟨[(1, .quiet [0]), (2, .quiet [0]), (3, .eff), (5, .quiet [0, 3]), (4, .quiet [0, 3]), (6, .eff), (7, .quiet [6]), (8, .eff), (9, .eff), (0, .quiet [0, 3, 6, 8, 9]), (10, .eff)], 0, [0, 0, 2, 6, 0, 0, 62, 126, 254, 510, 1023]⟩, ⟨[(12, .quiet [0]), (11, .quiet [0]), (7, .quiet [0]), (8, .quiet [0]), (9, .quiet [0]), (10, .quiet [0]), (0, .quiet [0]), (1, .quiet [0]), (2, .quiet [0]), (3, .quiet [0]), (4, .quiet [0]), (5, .quiet [0]), (6, .quiet [0]), (13, .eff), (14, .quiet [14]), (15, .quiet [14]), (18, .quiet [14]), (16, .quiet [14]), (19, .quiet [14]), (17, .quiet [14]), (20, .quiet [14])], 0, [0, 1, 3, 7, 15, 31, 63, 0, 128, 384, 896, 0, 0, 8191, 16383, 32767, 32767, 32767, 65535, 393215, 1048575]⟩]
def c211 : CFunc := ⟨46, [.tmp 4, .tmp 5],
 Rg [Op 4 (.move (.c (.nilSlice))), Op 5 (.move (Ci 0))]
 (Rg [Mv 10 0, Op 11 (Ca 54 [.t 10]), Op 12 (.bin (.neq) (.t 11) (Ci 0)), Mv 6 12]
 (.seq (Rg [Mv 13 6, Op 14 (.un (.not) (.t 13))]
 (.cond (.t 14) (.draw [⟨1, Op 16 (.fieldAddr 3 (.t 1)), (.quiet [0])⟩,
 ⟨2, Op 17 (.load false 1 (.t 16)), (.quiet [0])⟩,
 ⟨3, Op 18 (Ca 31 [.t 17]), (.eff)⟩,
 ⟨5, Op 20 (.load false 1 (.t 2)), (.quiet [0, 3])⟩,
 ⟨4, Op 19 (.load true 8 (.t 1)), (.quiet [0, 3])⟩,
 ⟨6, Op 21 (Ca 141 [.t 19, .t 20]), (.eff)⟩,
 ⟨7, Op 22 (.iface 78 (.t 21)), (.quiet [6])⟩,
 ⟨8, Op 23 (.buildSlice [.nilIface] 1 [(0, 1, .t 22)]), (.eff)⟩,
 ⟨9, Op 24 (.append 1 16 (.t 18) (.t 23)), (.eff)⟩,
 ⟨0, Mv 15 0, (.quiet [0, 3, 6, 8, 9])⟩,
 ⟨10, Op 25 (Ca 30 [.t 15, .t 24]), (.eff)⟩] 0)
 (.skip)))
 (.seq (.draw [⟨12, Mv 39 6, (.quiet [0])⟩,
 ⟨11, Op 38 (.load false 1 (.t 2)), (.quiet [0])⟩,
 ⟨7, Mv 34 0, (.quiet [0])⟩,
 ⟨8, Op 35 (.nilCheck (.t 34)), (.quiet [0])⟩,
 ⟨9, Op 36 (.fieldAddr 1 (.t 35)), (.quiet [0])⟩,
 ⟨10, Op 37 (.load false 1 (.t 36)), (.quiet [0])⟩,
 ⟨0, Mv 27 0, (.quiet [0])⟩,
 ⟨1, Op 28 (.nilCheck (.t 27)), (.quiet [0])⟩,
 ⟨2, Op 29 (.fieldAddr 0 (.t 28)), (.quiet [0])⟩,
 ⟨3, Op 30 (.load false 1 (.t 29)), (.quiet [0])⟩,
 ⟨4, Op 31 (.nilCheck (.t 30)), (.quiet [0])⟩,
 ⟨5, Op 32 (.fieldAddr 9 (.t 31)), (.quiet [0])⟩,
 ⟨6, Op 33 (.load false 1 (.t 32)), (.quiet [0])⟩,
 ⟨13, Op 40 (Ca 212 [.t 33, .t 37, .t 38, .t 39]), (.eff)⟩,
 ⟨14, Mv 26 40, (.quiet [14])⟩,
 ⟨15, Op 41 (.extract (.t 26) 0), (.quiet [14])⟩,
 ⟨18, Mv 7 41, (.quiet [14])⟩,
 ⟨16, Op 42 (.extract (.t 26) 1), (.quiet [14])⟩,
 ⟨19, Mv 8 42, (.quiet [14])⟩,
 ⟨17, Op 43 (.extract (.t 26) 2), (.quiet [14])⟩,
 ⟨20, Mv 9 43, (.quiet [14])⟩] 0)
 (Rg [Mv 44 8, Mv 45 9, Mv 4 44, Mv 5 45]
 (.ret)))))⟩
theorem ok211 : compFunc prog glb 211 p211 = some c211 := by kernel_rfl
def p212 : List Plan := []
def c212 : CFunc := ⟨49, [.tmp 8, .cell 9 false 1, .tmp 10],
 Rg [Op 4 (.box (.t 0)), Op 8 (.move (.c (.bool false))), Op 9 (.new [.nilSlice]), Op 10 (.move (Ci 0))]
 (.seq (Rg [Op 14 (.load false 1 (.t 4)), Mv 15 1, Mv 16 2, Op 17 (Ca 210 [.t 14, .t 15, .t 16]), Mv 11 17]
 (Rg [Mv 18 11, Op 19 (.bin (.neq) (.t 18) (Ci 0)), Mv 20 19, Mf 21 3 20, Op 22 (.pick (.t 20) (.c (.bool true)) (.t 21))]
 (.cond (.t 22) (Rg [Mv 23 11, Op 24 (.bin (.eql) (.t 23) (Ci 0)), Mv 25 11, Mv 8 24, On (.store 1 (.t 9) (.c (.nilSlice))), Mv 10 25]
 (.ret))
 (.skip))))
 (Rg [Op 26 (.func 246 [] [.t 4, .t 9]), On (.defer (.t 26) [])]
 (Rg [Op 28 (.load false 1 (.t 4)), Op 29 (.nilCheck (.t 28)), Op 30 (.fieldAddr 3 (.t 29)), Op 31 (.load false 1 (.t 30)), Mv 32 2, Op 33 (.indexAddr 1 (.t 31) (.t 32)), Op 34 (.load false 1 (.t 33)), Mv 35 1, Op 36 (Ca 247 [.t 34, .t 35]), Mv 27 36, Op 37 (.extract (.t 27) 0), Op 38 (.extract (.t 27) 1), Mv 12 37, Mv 13 38]
 (Rg [Op 39 (.load false 1 (.t 4)), Mv 40 1, Mv 41 2, Op 42 (Ca 200 [.t 39, .t 40, Ci 3, .t 41])]
 (Rg [Op 43 (.load false 1 (.t 4)), Op 44 (.nilCheck (.t 43)), Op 45 (.fieldAddr 0 (.t 44)), Op 46 (.load false 1 (.t 45)), Mv 47 12, Op 48 (Ca 40 [.t 46, .t 47])]
 (Rg [Op 8 (.move (.c (.bool false))), On (.store 1 (.t 9) (.c (.nilSlice))), Op 10 (.move (Ci 0))]
 (.ret)))))))⟩
theorem ok212 : compFunc prog glb 212 p212 = some c212 := by kernel_rfl
def p213 : List Plan := []
def c213 : CFunc := ⟨12, [],
 Rg [Mv 4 0, Op 5 (.nilCheck (.t 4)), Op 6 (.fieldAddr 0 (.t 5)), Op 7 (Ca 248 [.t 6]), Op 8 (.un (.not) (.t 7))]
 (.cond (.t 8) (.region [Mv 9 0, Mv 10 1, Op 11 (Ca 249 [.t 9, .t 10])])
 (.skip))⟩
theorem ok213 : compFunc prog glb 213 p213 = some c213 := by kernel_rfl
def p214 : List Plan := [⟨[(3, .quiet [0]), (4, .quiet [0]), (5, .quiet [0]), (6, .quiet [0]), (7, .eff), (0, .quiet [0, 5]), (10, .quiet [5]), (11, .quiet [5]), (12, .eff), (8, .alloc 0), (1, .quiet [0, 5, 9]), (13, .quiet [9]), (14, .quiet [9]), (15, .eff), (9, .alloc 1), (2, .quiet [0, 5, 9, 14]), (16, .quiet [14]), (17, .quiet [14]), (18, .eff)], 2, [0, 0, 0, 0, 8, 24, 56, 120, 0, 0, 249, 1273, 3321, 7675, 15867, 32251, 65535, 131071, 262143]⟩]
def c214 : CFunc := ⟨17, [],
 .draw [⟨3, Op 4 (.load false 1 (.t 0)), (.quiet [0])⟩,
 ⟨4, Op 5 (.nilCheck (.t 4)), (.quiet [0])⟩,
 ⟨5, Op 6 (.fieldAddr 0 (.t 5)), (.quiet [0])⟩,
 ⟨6, Op 7 (.load false 1 (.t 6)), (.quiet [0])⟩,
 ⟨7, Op 8 (Ca 25 [.t 7]), (.eff)⟩,
 ⟨0, Op 1 (.load false 1 (.t 0)), (.quiet [0, 5])⟩,
 ⟨10, Op 11 (.nilCheck (.t 1)), (.quiet [5])⟩,
 ⟨11, Op 12 (.fieldAddr 5 (.t 11)), (.quiet [5])⟩,
 ⟨12, On (.store 1 (.t 12) (.t 8)), (.eff)⟩,
 ⟨8, Op 9 (.newMap), (.alloc 0)⟩,
 ⟨1, Op 2 (.load false 1 (.t 0)), (.quiet [0, 5, 9])⟩,
 ⟨13, Op 13 (.nilCheck (.t 2)), (.quiet [9])⟩,
 ⟨14, Op 14 (.fieldAddr 6 (.t 13)), (.quiet [9])⟩,
 ⟨15, On (.store 1 (.t 14) (.t 9)), (.eff)⟩,
 ⟨9, Op 10 (.newMap), (.alloc 1)⟩,
 ⟨2, Op 3 (.load false 1 (.t 0)), (.quiet [0, 5, 9, 14])⟩,
 ⟨16, Op 15 (.nilCheck (.t 3)), (.quiet [14])⟩,
 ⟨17, Op 16 (.fieldAddr 7 (.t 15)), (.quiet [14])⟩,
 ⟨18, On (.store 1 (.t 16) (.t 10)), (.eff)⟩] 2⟩
theorem ok214 : compFunc prog glb 214 p214 = some c214 := by kernel_rfl
def p215 : List Plan := []
def c215 : CFunc := ⟨20, [.cell 4 false 1],
 Rg [Op 4 (.new [.bool false])]
 (.seq (Rg [Mv 7 0, Mv 8 1, Op 9 (Ca 250 [.t 7, .t 8])]
 (.block 0 (.rangeF 215 0 2 (.t 9))))
 (Rg [Mv 15 0, Op 16 (.len (.slice) (.t 15)), Mv 17 1, Op 18 (.len (.slice) (.t 17)), Op 19 (.bin (.eql) (.t 16) (.t 18)), On (.store 1 (.t 4) (.t 19))]
 (.ret)))⟩
theorem ok215 : compFunc prog glb 215 p215 = some c215 := by kernel_rfl
def pr215_0 : List Plan := []
def r215_0 : RoundC := ⟨[10, 11],
 (Rg [Mv 5 10]
 (.region [Mv 6 11])),
 (.block 1 (Rg [Mv 12 5, Mv 13 6, Op 14 (.bin (.gtr) (.t 12) (.t 13))]
 (.cond (.t 14) (Rg [On (.store 1 (.t 4) (.c (.bool false)))]
 (.ret))
 (.skip))))⟩
theorem okr215_0 : compRound prog glb 215 0 pr215_0 = some r215_0 := by kernel_rfl
def p216 : List Plan := []
def c216 : CFunc := ⟨39, [.tmp 2],
 Rg [Op 2 (.move (.c (.bool false)))]
 (.seq (Rg [Mv 7 0, Op 8 (.eq (.ptr) false (.t 7) (.c (.nilPtr)))]
 (.cond (.t 8) (Rg [Op 2 (.move (.c (.bool false)))]
 (.ret))
 (.skip)))
 (Rg [Op 3 (.move (.c (.nilSlice))), Op 4 (.move (.c (.nilSlice)))]
 (.seq (Rg [Mv 9 0, Op 10 (Ca 251 [.t 9]), Op 11 (.len (.slice) (.t 10)), Op 12 (.move (Ci 0))]
 (.block 0 (.loop (Rg [Op 13 (.bin (.lss) (.t 12) (.t 11))]
 (.seq (.cond (.t 13) (.skip)
 (.exit 0))
 (.seq (.block 1 (Rg [Op 14 (.indexAddr 1 (.t 10) (.t 12)), Op 15 (.load false 1 (.t 14)), Mv 6 15]
 (Rg [Mv 16 4, Mv 17 0, Op 18 (.nilCheck (.t 17)), Op 19 (.fieldAddr 7 (.t 18)), Op 20 (.load false 1 (.t 19)), Mv 21 6, Op 22 (.lookup (.one (.int)) (.nilSlice) false (.t 20) (.t 21)), Op 23 (.buildSlice [.nilSlice] 1 [(0, 1, .t 22)]), Op 24 (.append 1 24 (.t 16) (.t 23)), Mv 4 24]
 (.region [Mv 25 3, Mv 26 0, Mv 27 6, Op 28 (Ca 73 [.t 26, .t 27]), Op 29 (.buildSlice [.nilSlice] 1 [(0, 1, .t 28)]), Op 30 (.append 1 24 (.t 25) (.t 29)), Mv 3 30]))))
 (.region [Op 31 (.bin (.add) (.t 12) (Ci 1)), Mv 12 31])))))))
 (Rg [Mv 32 0, Op 33 (.nilCheck (.t 32)), Op 34 (.fieldAddr 5 (.t 33)), Op 35 (.load false 1 (.t 34)), Mv 36 3, Mv 37 4, Op 38 (Ca 252 [.t 35, .t 36, .t 37]), Mv 2 38]
 (.ret)))))⟩
theorem ok216 : compFunc prog glb 216 p216 = some c216 := by kernel_rfl
def p218 : List Plan := []
def c218 : CFunc := ⟨9, [.tmp 2],
 Rg [Op 2 (.move (.c (.bool false)))]
 (Rg [Mv 3 0, Op 4 (.bin (.geq) (.t 3) (.c (.int (.u8) 97))), Mv 5 4, Mt 6 0 5, Ot 7 (.bin (.leq) (.t 6) (.c (.int (.u8) 122))) 5, Op 8 (.pick (.t 5) (.t 7) (.c (.bool false))), Mv 2 8]
 (.ret))⟩
theorem ok218 : compFunc prog glb 218 p218 = some c218 := by kernel_rfl
def p219 : List Plan := []
def c219 : CFunc := ⟨9, [.tmp 2],
 Rg [Op 2 (.move (.c (.bool false)))]
 (Rg [Mv 3 0, Op 4 (.bin (.geq) (.t 3) (.c (.int (.u8) 48))), Mv 5 4, Mt 6 0 5, Ot 7 (.bin (.leq) (.t 6) (.c (.int (.u8) 57))) 5, Op 8 (.pick (.t 5) (.t 7) (.c (.bool false))), Mv 2 8]
 (.ret))⟩
theorem ok219 : compFunc prog glb 219 p219 = some c219 := by kernel_rfl
def p220 : List Plan := []
def c220 : CFunc := ⟨15, [.tmp 2],
 Rg [Op 2 (.move (.c (.bool false)))]
 (Rg [Op 5 (.build [.str [], .str [], .str [], .str [], .str [], .str [], .str [], .str [], .str [], .str [], .str [], .str [], .str [], .str [], .str [], .str [], .str [], .str [], .str [], .str [], .str [], .str [], .str [], .str [], .str [], .str [], .str [], .str [], .str [], .str [], .str [], .str []] [(0, 1, .c (.str [112, 114, 111, 103, 114, 97, 109])), (1, 1, .c (.str [114, 101, 115, 111, 117, 114, 99, 101])), (2, 1, .c (.str [115, 101, 109, 97, 112, 104, 111, 114, 101])), (3, 1, .c (.str [115, 104, 97, 114, 101, 100])), (4, 1, .c (.str [118, 97, 114])), (5, 1, .c (.str [112, 114, 111, 99, 101, 100, 117, 114, 101])), (6, 1, .c (.str [99, 108, 97, 105, 109, 115])), (7, 1, .c (.str [98, 101, 103, 105, 110])), (8, 1, .c (.str [101, 110, 100])), (9, 1, .c (.str [105, 102])), (10, 1, .c (.str [116, 104, 101, 110])), (11, 1, .c (.str [101, 108, 115, 101])), (12, 1, .c (.str [102, 105])), (13, 1, .c (.str [119, 104, 105, 108, 101])), (14, 1, .c (.str [100, 111])), (15, 1, .c (.str [111, 100])), (16, 1, .c (.str [99, 111, 98, 101, 103, 105, 110])), (17, 1, .c (.str [99, 111, 101, 110, 100])), (18, 1, .c (.str [114, 101, 103, 105, 111, 110])), (19, 1, .c (.str [119, 104, 101, 110])), (20, 1, .c (.str [114, 101, 113, 117, 101, 115, 116])), (21, 1, .c (.str [114, 101, 108, 101, 97, 115, 101])), (22, 1, .c (.str [119, 114, 105, 116, 101])), (23, 1, .c (.str [114, 101, 97, 100])), (24, 1, .c (.str [115, 107, 105, 112])), (25, 1, .c (.str [116, 114, 117, 101])), (26, 1, .c (.str [102, 97, 108, 115, 101])), (27, 1, .c (.str [97, 110, 100])), (28, 1, .c (.str [111, 114])), (29, 1, .c (.str [110, 111, 116])), (30, 1, .c (.str [80])), (31, 1, .c (.str [86]))]), Op 3 (.new [.str [], .str [], .str [], .str [], .str [], .str [], .str [], .str [], .str [], .str [], .str [], .str [], .str [], .str [], .str [], .str [], .str [], .str [], .str [], .str [], .str [], .str [], .str [], .str [], .str [], .str [], .str [], .str [], .str [], .str [], .str [], .str []]), On (.store 32 (.t 3) (.t 5))]
 (.seq (Rg [Op 4 (.move (Ci 0))]
 (.block 0 (.loop (.seq (Rg [Mv 6 4, Op 7 (.bin (.lss) (.t 6) (Ci 32))]
 (.cond (.t 7) (.skip)
 (.exit 0)))
 (.seq (.block 1 (Rg [Mv 10 4, Op 11 (.indexAddrArr 32 1 (.t 3) (.t 10)), Op 12 (.load false 1 (.t 11)), Mv 13 0, Op 14 (.bin (.eql) (.t 12) (.t 13))]
 (.cond (.t 14) (Rg [Op 2 (.move (.c (.bool true)))]
 (.ret))
 (.skip))))
 (.region [Mv 8 4, Op 9 (.bin (.add) (.t 8) (Ci 1)), Mv 4 9]))))))
 (Rg [Op 2 (.move (.c (.bool false)))]
 (.ret))))⟩
theorem ok220 : compFunc prog glb 220 p220 = some c220 := by kernel_rfl
def p221 : List Plan := []
def c221 : CFunc := ⟨29, [.tmp 2, .tmp 3],
 Rg [Op 2 (.move (Ci 0)), Op 3 (.move (.c (.bool false)))]
 (Rg [Op 4 (.move (Ci 0))]
 (.seq (Rg [Op 5 (.move (Ci 0))]
 (.block 0 (.loop (.seq (Rg [Mv 7 5, Mv 8 0, Op 9 (.len (.slice) (.t 8)), Op 10 (.bin (.lss) (.t 7) (.t 9))]
 (.cond (.t 10) (.skip)
 (.exit 0)))
 (.seq (.block 1 (Rg [Mv 13 0, Mv 14 5, Op 15 (.indexAddr 1 (.t 13) (.t 14)), Op 16 (.load false 1 (.t 15)), Op 17 (.bin (.sub) (.t 16) (.c (.int (.u8) 48))), Op 18 (.conv (.i64) (.t 17)), Mv 6 18]
 (.seq (Rg [Mv 19 4, Mv 20 6, Op 21 (.bin (.sub) (Ci 9223372036854775807) (.t 20)), Op 22 (.bin (.quo) (.t 21) (Ci 10)), Op 23 (.bin (.gtr) (.t 19) (.t 22))]
 (.cond (.t 23) (Rg [Op 2 (.move (Ci 0)), Op 3 (.move (.c (.bool false)))]
 (.ret))
 (.skip)))
 (.region [Mv 24 4, Op 25 (.bin (.mul) (Ci 10) (.t 24)), Mv 26 6, Op 27 (.bin (.add) (.t 25) (.t 26)), Mv 4 27]))))
 (.region [Mv 11 5, Op 12 (.bin (.add) (.t 11) (Ci 1)), Mv 5 12]))))))
 (Rg [Mv 28 4, Mv 2 28, Op 3 (.move (.c (.bool true)))]
 (.ret))))⟩
theorem ok221 : compFunc prog glb 221 p221 = some c221 := by kernel_rfl
def p222 : List Plan := [⟨[(3, .quiet [0]), (4, .quiet [0]), (5, .quiet [0]), (1, .quiet [0]), (0, .quiet [0]), (2, .quiet [0]), (6, .quiet [0])], 0, [0, 0, 3, 0, 8, 24, 63]⟩]
def c222 : CFunc := ⟨43, [.tmp 2],
 Rg [Op 2 (.move (Ci 0))]
 (.seq (Rg [Mv 6 0, Op 7 (.len (.slice) (.t 6)), Op 8 (.bin (.gtr) (.t 7) (Ci 1))]
 (.cond (.t 8) (Rg [Mv 9 0, Op 10 (.slice 1 (.t 9) none (some (Ci 2)) none), Op 11 (.strOf (.t 10)), Mv 3 11]
 (Rg [Mv 12 3, Op 13 (.bin (.eql) (.t 12) (.c (.str [58, 61]))), Mv 14 13, Mf 15 3 14, Of 16 (.bin (.eql) (.t 15) (.c (.str [60, 62]))) 14, Op 17 (.pick (.t 14) (.c (.bool true)) (.t 16)), Mv 18 17, Mf 19 3 18, Of 20 (.bin (.eql) (.t 19) (.c (.str [60, 61]))) 18, Op 21 (.pick (.t 18) (.c (.bool true)) (.t 20)), Mv 22 21, Mf 23 3 22, Of 24 (.bin (.eql) (.t 23) (.c (.str [62, 61]))) 22, Op 25 (.pick (.t 22) (.c (.bool true)) (.t 24)), Mv 26 25, Mf 27 3 26, Of 28 (.bin (.eql) (.t 27) (.c (.str [47, 47]))) 26, Op 29 (.pick (.t 26) (.c (.bool true)) (.t 28))]
 (.cond (.t 29) (Rg [Op 2 (.move (Ci 2))]
 (.ret))
 (.skip))))
 (.skip)))
 (Rg [Op 4 (.move (.c (.str [59, 44, 40, 41, 91, 93, 43, 45, 42, 47, 37, 61, 60, 62, 46])))]
 (.seq (Rg [Op 5 (.move (Ci 0))]
 (.block 0 (.loop (.seq (Rg [Mv 30 5, Mv 31 4, Op 32 (.len (.str) (.t 31)), Op 33 (.bin (.lss) (.t 30) (.t 32))]
 (.cond (.t 33) (.skip)
 (.exit 0)))
 (.seq (.block 1 (.seq (.draw [⟨3, Mv 39 0, (.quiet [0])⟩,
 ⟨4, Op 40 (.indexAddr 1 (.t 39) (Ci 0)), (.quiet [0])⟩,
 ⟨5, Op 41 (.load false 1 (.t 40)), (.quiet [0])⟩,
 ⟨1, Mv 37 5, (.quiet [0])⟩,
 ⟨0, Mv 36 4, (.quiet [0])⟩,
 ⟨2, Op 38 (.indexStr (.t 36) (.t 37)), (.quiet [0])⟩,
 ⟨6, Op 42 (.bin (.eql) (.t 38) (.t 41)), (.quiet [0])⟩] 0)
 (.cond (.t 42) (Rg [Op 2 (.move (Ci 1))]
 (.ret))
 (.skip))))
 (.region [Mv 34 5, Op 35 (.bin (.add) (.t 34) (Ci 1)), Mv 5 35]))))))
 (Rg [Op 2 (.move (Ci 0))]
 (.ret)))))⟩
theorem ok222 : compFunc prog glb 222 p222 = some c222 := by kernel_rfl
def p223 : List Plan := [⟨[(0, .quiet [0]), (1, .quiet [0]), (4, .quiet [0]), (2, .quiet [0]), (3, .quiet [0]), (5, .quiet [0])], 0, [0, 1, 0, 4, 3, 31]⟩]
def c223 : CFunc := ⟨27, [.tmp 2, .tmp 3],
 Rg [Op 2 (.move (Ci 0)), Op 3 (.move (Ci 0))]
 (Rg [Mv 5 0, Op 6 (Ca 160 [.t 5]), Op 4 (.new [.int (.i64) 0, .int (.i64) 0, .int (.i64) 0, .str []]), On (.store 4 (.t 4) (.t 6))]
 (.seq (Rg [Mv 7 0, Op 8 (Ca 162 [.t 7]), Mv 9 8, Of 10 (.fieldAddr 0 (.t 4)) 9, Of 11 (.load false 1 (.t 10)) 9, Of 12 (.bin (.neq) (.t 11) (Ci 2)) 9, Op 13 (.pick (.t 9) (.c (.bool true)) (.t 12))]
 (.cond (.t 13) (Rg [Mv 14 0, Op 15 (Ca 161 [.t 14, Ci 14])]
 (Rg [Op 2 (.move (Ci 0)), Op 3 (.move (Ci 0))]
 (.ret)))
 (.skip)))
 (Rg [Mv 16 0, Op 17 (.nilCheck (.t 16)), Op 18 (.fieldAddr 1 (.t 17)), Op 19 (.load false 1 (.t 18)), Op 20 (.bin (.add) (.t 19) (Ci 1)), Op 21 (.nilCheck (.t 16)), Op 22 (.fieldAddr 1 (.t 21)), On (.store 1 (.t 22) (.t 20))]
 (.seq (.draw [⟨0, Op 23 (.fieldAddr 2 (.t 4)), (.quiet [0])⟩,
 ⟨1, Op 24 (.load false 1 (.t 23)), (.quiet [0])⟩,
 ⟨4, Mv 2 24, (.quiet [0])⟩,
 ⟨2, Op 25 (.fieldAddr 1 (.t 4)), (.quiet [0])⟩,
 ⟨3, Op 26 (.load false 1 (.t 25)), (.quiet [0])⟩,
 ⟨5, Mv 3 26, (.quiet [0])⟩] 0)
 (.ret)))))⟩
theorem ok223 : compFunc prog glb 223 p223 = some c223 := by kernel_rfl
def p224 : List Plan := []
def c224 : CFunc := ⟨32, [.tmp 2],
 Rg [Op 2 (.move (Ci 0))]
 (.seq (Rg [Mv 5 0, Op 6 (Ca 156 [.t 5, .c (.str [91])]), Op 7 (.un (.not) (.t 6))]
 (.cond (.t 7) (Rg [Op 2 (.move (Ci 0))]
 (.ret))
 (.skip)))
 (Rg [Mv 9 0, Op 10 (Ca 223 [.t 9]), Mv 8 10, Op 11 (.extract (.t 8) 0), Op 12 (.extract (.t 8) 1), Mv 3 11, Mv 4 12]
 (.seq (Rg [Mv 13 0, Op 14 (Ca 162 [.t 13]), Op 15 (.un (.not) (.t 14)), Mv 16 15, Mt 17 3 16, Ot 18 (.bin (.lss) (.t 17) (Ci 1)) 16, Mt 19 18 16, Mf 20 3 19, Of 21 (.bin (.gtr) (.t 20) (Ci 64)) 19, Ot 22 (.pick (.t 19) (.c (.bool true)) (.t 21)) 16, Op 23 (.pick (.t 16) (.t 22) (.c (.bool false)))]
 (.cond (.t 23) (.region [Mv 24 0, Mv 25 4, Op 26 (.build [.int (.i64) 0, .int (.i64) 0] [(0, 1, Ci 24), (1, 1, .t 25)]), Op 27 (.nilCheck (.t 24)), Op 28 (.fieldAddr 2 (.t 27)), On (.store 2 (.t 28) (.t 26))])
 (.skip)))
 (Rg [Mv 29 0, Op 30 (Ca 153 [.t 29, .c (.str [93])])]
 (Rg [Mv 31 3, Mv 2 31]
 (.ret))))))⟩
theorem ok224 : compFunc prog glb 224 p224 = some c224 := by kernel_rfl
def p225 : List Plan := []
def c225 : CFunc := ⟨27, [.tmp 4],
 Rg [Op 4 (.move (.c (.bool false)))]
 (Rg [Mv 6 0, Op 7 (Ca 160 [.t 6]), Op 5 (.new [.int (.i64) 0, .int (.i64) 0, .int (.i64) 0, .str []]), On (.store 4 (.t 5) (.t 7))]
 (Rg [Mv 8 0, Op 9 (Ca 162 [.t 8]), Op 10 (.un (.not) (.t 9)), Mv 11 10, Ot 12 (.fieldAddr 0 (.t 5)) 11, Ot 13 (.load false 1 (.t 12)) 11, Ot 14 (.bin (.eql) (.t 13) (Ci 3)) 11, Mt 15 14 11, Of 16 (.fieldAddr 0 (.t 5)) 15, Of 17 (.load false 1 (.t 16)) 15, Of 18 (.bin (.eql) (.t 17) (Ci 4)) 15, Ot 19 (.pick (.t 15) (.c (.bool true)) (.t 18)) 11, Op 20 (.pick (.t 11) (.t 19) (.c (.bool false))), Mv 21 20, Ot 22 (.fieldAddr 3 (.t 5)) 21, Ot 23 (.load false 1 (.t 22)) 21, Mt 24 1 21, Ot 25 (.bin (.eql) (.t 23) (.t 24)) 21, Op 26 (.pick (.t 21) (.t 25) (.c (.bool false))), Mv 4 26]
 (.ret)))⟩
theorem ok225 : compFunc prog glb 225 p225 = some c225 := by kernel_rfl
def p226 : List Plan := [⟨[(3, .quiet [0]), (2, .quiet [0]), (4, .eff), (5, .eff), (0, .quiet [0, 3, 4]), (1, .quiet [0, 3, 4]), (6, .eff), (7, .quiet [7]), (8, .eff)], 0, [0, 1, 0, 0, 12, 28, 63, 127, 255]⟩]
def c226 : CFunc := ⟨171, [.cell 4 true 8],
 Rg [Op 4 (.new [.int (.i64) 0, .int (.i64) 0, .str [], .nilSlice, .nilSlice, .nilSlice, .nilSlice, .nilSlice])]
 (Rg [Mv 8 0, Op 9 (Ca 160 [.t 8]), Op 5 (.new [.int (.i64) 0, .int (.i64) 0, .int (.i64) 0, .str []]), On (.store 4 (.t 5) (.t 9))]
 (Rg [Op 10 (.fieldAddr 1 (.t 5)), Op 11 (.load false 1 (.t 10)), Op 12 (.build [.int (.i64) 0, .int (.i64) 0, .str [], .nilSlice, .nilSlice, .nilSlice, .nilSlice, .nilSlice] [(1, 1, .t 11)]), Op 6 (.new [.int (.i64) 0, .int (.i64) 0, .str [], .nilSlice, .nilSlice, .nilSlice, .nilSlice, .nilSlice]), On (.store 8 (.t 6) (.t 12))]
 (.seq (.block 0 (Rg [Op 16 (.fieldAddr 0 (.t 5)), Op 17 (.load false 1 (.t 16)), Op 18 (.bin (.eql) (.t 17) (Ci 1)), Mv 15 18]
 (.cond (.t 15) (Rg [Mv 19 0, Mv 20 1, Op 21 (Ca 253 [.t 19, .t 20]), On (.store 8 (.t 4) (.t 21))]
 (.ret))
 (Rg [Mv 23 0, Op 24 (Ca 156 [.t 23, .c (.str [115, 107, 105, 112])]), Mv 22 24]
 (.cond (.t 22) (.region [Op 25 (.fieldAddr 0 (.t 6)), On (.store 1 (.t 25) (Ci 1))])
 (Rg [Mv 27 0, Op 28 (Ca 156 [.t 27, .c (.str [105, 102])]), Mv 26 28]
 (.cond (.t 26) (Rg [Op 29 (.fieldAddr 0 (.t 6)), On (.store 1 (.t 29) (Ci 4))]
 (Rg [Mv 30 0, Mv 31 1, Op 32 (Ca 254 [.t 30, Ci 1, .t 31]), Op 33 (.buildSlice [.int (.i64) 0, .int (.i64) 0, .int (.i64) 0, .int (.i64) 0, .str [], .nilSlice] 1 [(0, 6, .t 32)]), Op 34 (.fieldAddr 3 (.t 6)), On (.store 1 (.t 34) (.t 33))]
 (Rg [Mv 35 0, Mv 36 1, Op 37 (Ca 255 [.t 35, .c (.str [116, 104, 101, 110]), .t 36]), Op 38 (.fieldAddr 4 (.t 6)), On (.store 1 (.t 38) (.t 37))]
 (.seq (Rg [Mv 39 0, Op 40 (Ca 225 [.t 39, .c (.str [101, 108, 115, 101])])]
 (.cond (.t 40) (.region [Mv 41 0, Mv 42 1, Op 43 (Ca 255 [.t 41, .c (.str [101, 108, 115, 101]), .t 42]), Op 44 (.fieldAddr 5 (.t 6)), On (.store 1 (.t 44) (.t 43))])
 (.skip)))
 (.region [Mv 45 0, Op 46 (Ca 153 [.t 45, .c (.str [102, 105])])])))))
 (Rg [Mv 48 0, Op 49 (Ca 156 [.t 48, .c (.str [119, 104, 105, 108, 101])]), Mv 47 49]
 (.cond (.t 47) (Rg [Op 50 (.fieldAddr 0 (.t 6)), On (.store 1 (.t 50) (Ci 5))]
 (Rg [Mv 51 0, Mv 52 1, Op 53 (Ca 254 [.t 51, Ci 1, .t 52]), Op 54 (.buildSlice [.int (.i64) 0, .int (.i64) 0, .int (.i64) 0, .int (.i64) 0, .str [], .nilSlice] 1 [(0, 6, .t 53)]), Op 55 (.fieldAddr 3 (.t 6)), On (.store 1 (.t 55) (.t 54))]
 (Rg [Mv 56 0, Mv 57 1, Op 58 (Ca 255 [.t 56, .c (.str [100, 111]), .t 57]), Op 59 (.fieldAddr 4 (.t 6)), On (.store 1 (.t 59) (.t 58))]
 (.region [Mv 60 0, Op 61 (Ca 153 [.t 60, .c (.str [111, 100])])]))))
 (Rg [Mv 63 0, Op 64 (Ca 156 [.t 63, .c (.str [99, 111, 98, 101, 103, 105, 110])]), Mv 62 64]
 (.cond (.t 62) (Rg [Op 65 (.fieldAddr 0 (.t 6)), On (.store 1 (.t 65) (Ci 7))]
 (.seq (Rg [Op 7 (.move (.c (.bool true)))]
 (.block 1 (.loop (.seq (Rg [Mv 66 7, Mv 67 66, Mt 68 0 67, Ot 69 (Ca 162 [.t 68]) 67, Ot 70 (.un (.not) (.t 69)) 67, Op 71 (.pick (.t 67) (.t 70) (.c (.bool false)))]
 (.cond (.t 71) (.skip)
 (.exit 1)))
 (.seq (.block 2 (.draw [⟨3, Mv 77 1, (.quiet [0])⟩,
 ⟨2, Mv 76 0, (.quiet [0])⟩,
 ⟨4, Op 78 (Ca 256 [.t 76, .t 77]), (.eff)⟩,
 ⟨5, Op 79 (.buildSlice [.int (.i64) 0, .str [], .nilSlice, .nilSlice] 1 [(0, 4, .t 78)]), (.eff)⟩,
 ⟨0, Op 74 (.fieldAddr 6 (.t 6)), (.quiet [0, 3, 4])⟩,
 ⟨1, Op 75 (.load false 1 (.t 74)), (.quiet [0, 3, 4])⟩,
 ⟨6, Op 80 (.append 4 72 (.t 75) (.t 79)), (.eff)⟩,
 ⟨7, Op 81 (.fieldAddr 6 (.t 6)), (.quiet [7])⟩,
 ⟨8, On (.store 1 (.t 81) (.t 80)), (.eff)⟩] 0))
 (.region [Mv 72 0, Op 73 (Ca 156 [.t 72, .c (.str [47, 47])]), Mv 7 73]))))))
 (.region [Mv 82 0, Op 83 (Ca 153 [.t 82, .c (.str [99, 111, 101, 110, 100])])])))
 (Rg [Mv 85 0, Op 86 (Ca 225 [.t 85, .c (.str [80])]), Mv 87 86, Mf 88 0 87, Of 89 (Ca 225 [.t 88, .c (.str [86])]) 87, Op 90 (.pick (.t 87) (.c (.bool true)) (.t 89)), Mv 84 90]
 (.cond (.t 84) (Rg [Op 91 (.fieldAddr 0 (.t 6)), On (.store 1 (.t 91) (Ci 8))]
 (.seq (Rg [Mv 92 0, Op 93 (Ca 225 [.t 92, .c (.str [86])])]
 (.cond (.t 93) (.region [Op 94 (.fieldAddr 0 (.t 6)), On (.store 1 (.t 94) (Ci 9))])
 (.skip)))
 (Rg [Mv 95 0, Op 96 (.nilCheck (.t 95)), Op 97 (.fieldAddr 1 (.t 96)), Op 98 (.load false 1 (.t 97)), Op 99 (.bin (.add) (.t 98) (Ci 1)), Op 100 (.nilCheck (.t 95)), Op 101 (.fieldAddr 1 (.t 100)), On (.store 1 (.t 101) (.t 99))]
 (Rg [Mv 102 0, Op 103 (Ca 153 [.t 102, .c (.str [40])])]
 (Rg [Mv 104 0, Op 105 (Ca 154 [.t 104]), Op 106 (.part false 1 1 (.t 105)), Op 107 (.fieldAddr 2 (.t 6)), On (.store 1 (.t 107) (.t 106))]
 (.region [Mv 108 0, Op 109 (Ca 153 [.t 108, .c (.str [41])])]))))))
 (Rg [Mv 111 0, Op 112 (Ca 156 [.t 111, .c (.str [114, 101, 103, 105, 111, 110])]), Mv 110 112]
 (.cond (.t 110) (Rg [Op 113 (.fieldAddr 0 (.t 6)), On (.store 1 (.t 113) (Ci 10))]
 (Rg [Mv 114 0, Op 115 (Ca 154 [.t 114]), Op 116 (.part false 1 1 (.t 115)), Op 117 (.fieldAddr 2 (.t 6)), On (.store 1 (.t 117) (.t 116))]
 (.seq (Rg [Mv 118 0, Op 119 (Ca 156 [.t 118, .c (.str [119, 104, 101, 110])])]
 (.cond (.t 119) (.region [Mv 120 0, Mv 121 1, Op 122 (Ca 254 [.t 120, Ci 1, .t 121]), Op 123 (.buildSlice [.int (.i64) 0, .int (.i64) 0, .int (.i64) 0, .int (.i64) 0, .str [], .nilSlice] 1 [(0, 6, .t 122)]), Op 124 (.fieldAddr 3 (.t 6)), On (.store 1 (.t 124) (.t 123))])
 (.skip)))
 (Rg [Mv 125 0, Mv 126 1, Op 127 (Ca 255 [.t 125, .c (.str [100, 111]), .t 126]), Op 128 (.fieldAddr 4 (.t 6)), On (.store 1 (.t 128) (.t 127))]
 (.region [Mv 129 0, Op 130 (Ca 153 [.t 129, .c (.str [111, 100])])])))))
 (Rg [Mv 132 0, Op 133 (Ca 156 [.t 132, .c (.str [114, 101, 113, 117, 101, 115, 116])]), Mv 131 133]
 (.cond (.t 131) (Rg [Op 134 (.fieldAddr 0 (.t 6)), On (.store 1 (.t 134) (Ci 11))]
 (.region [Mv 135 0, Op 136 (Ca 158 [.t 135]), Op 137 (.fieldAddr 7 (.t 6)), On (.store 1 (.t 137) (.t 136))]))
 (Rg [Mv 139 0, Op 140 (Ca 156 [.t 139, .c (.str [114, 101, 108, 101, 97, 115, 101])]), Mv 138 140]
 (.cond (.t 138) (Rg [Op 141 (.fieldAddr 0 (.t 6)), On (.store 1 (.t 141) (Ci 12))]
 (.region [Mv 142 0, Op 143 (Ca 158 [.t 142]), Op 144 (.fieldAddr 7 (.t 6)), On (.store 1 (.t 144) (.t 143))]))
 (Rg [Mv 146 0, Op 147 (Ca 156 [.t 146, .c (.str [114, 101, 97, 100])]), Mv 145 147]
 (.cond (.t 145) (Rg [Op 148 (.fieldAddr 0 (.t 6)), On (.store 1 (.t 148) (Ci 13))]
 (Rg [Mv 149 0, Op 150 (Ca 154 [.t 149]), Op 151 (.part false 1 1 (.t 150)), Op 152 (.fieldAddr 2 (.t 6)), On (.store 1 (.t 152) (.t 151))]
 (Rg [Mv 153 0, Op 154 (Ca 225 [.t 153, .c (.str [91])])]
 (.cond (.t 154) (Rg [Op 155 (.fieldAddr 0 (.t 6)), On (.store 1 (.t 155) (Ci 14))]
 (.region [Mv 156 0, Mv 157 1, Op 158 (Ca 257 [.t 156, .t 157]), Op 159 (.buildSlice [.int (.i64) 0, .int (.i64) 0, .int (.i64) 0, .int (.i64) 0, .str [], .nilSlice] 1 [(0, 6, .t 158)]), Op 160 (.fieldAddr 3 (.t 6)), On (.store 1 (.t 160) (.t 159))]))
 (.skip)))))
 (Rg [Mv 162 0, Op 163 (Ca 156 [.t 162, .c (.str [119, 114, 105, 116, 101])]), Mv 161 163]
 (.cond (.t 161) (Rg [Op 164 (.fieldAddr 0 (.t 6)), On (.store 1 (.t 164) (Ci 15))]
 (.region [Mv 165 0, Mv 166 1, Op 167 (Ca 254 [.t 165, Ci 1, .t 166]), Op 168 (.buildSlice [.int (.i64) 0, .int (.i64) 0, .int (.i64) 0, .int (.i64) 0, .str [], .nilSlice] 1 [(0, 6, .t 167)]), Op 169 (.fieldAddr 3 (.t 6)), On (.store 1 (.t 169) (.t 168))]))
 (.region [Mv 13 0, Op 14 (Ca 161 [.t 13, Ci 14])]))))))))))))))))))))))))
 (Rg [Op 170 (.load true 8 (.t 6)), On (.store 8 (.t 4) (.t 170))]
 (.ret)))))⟩
theorem ok226 : compFunc prog glb 226 p226 = some c226 := by kernel_rfl
def p227 : List Plan := []
def c227 : CFunc := ⟨152, [],
 Rg [Op 3 (.box (.t 1))]
 (Rg [Op 6 (.fieldAddr 0 (.t 3)), Op 7 (.load false 1 (.t 6))]
 (.block 0 (Rg [Op 9 (.bin (.eql) (.t 7) (Ci 2)), Mv 8 9]
 (.cond (.t 8) (Rg [Mv 10 0, Op 11 (.fieldAddr 2 (.t 3)), Op 12 (.load false 1 (.t 11)), Op 13 (.fieldAddr 1 (.t 3)), Op 14 (.load false 1 (.t 13)), Op 15 (Ca 258 [.t 10, .t 12, .t 14, .c (.bool false)])]
 (.region [Mv 16 0, Op 17 (.fieldAddr 3 (.t 3)), Op 18 (.load false 1 (.t 17)), Op 19 (.indexAddr 6 (.t 18) (Ci 0)), Op 20 (.load true 6 (.t 19)), Op 21 (Ca 259 [.t 16, .t 20, Ci 1])]))
 (Rg [Op 23 (.bin (.eql) (.t 7) (Ci 3)), Mv 22 23]
 (.cond (.t 22) (Rg [Mv 24 0, Op 25 (.fieldAddr 2 (.t 3)), Op 26 (.load false 1 (.t 25)), Op 27 (.fieldAddr 1 (.t 3)), Op 28 (.load false 1 (.t 27)), Op 29 (Ca 258 [.t 24, .t 26, .t 28, .c (.bool true)])]
 (Rg [Mv 30 0, Op 31 (.fieldAddr 3 (.t 3)), Op 32 (.load false 1 (.t 31)), Op 33 (.indexAddr 6 (.t 32) (Ci 0)), Op 34 (.load true 6 (.t 33)), Op 35 (Ca 259 [.t 30, .t 34, Ci 1])]
 (.region [Mv 36 0, Op 37 (.fieldAddr 3 (.t 3)), Op 38 (.load false 1 (.t 37)), Op 39 (.indexAddr 6 (.t 38) (Ci 1)), Op 40 (.load true 6 (.t 39)), Op 41 (Ca 259 [.t 36, .t 40, Ci 1])])))
 (.seq (Rg [Op 43 (.bin (.eql) (.t 7) (Ci 4)), Mv 42 43]
 (.cond (.t 42) (.skip)
 (.region [Op 44 (.bin (.eql) (.t 7) (Ci 5)), Mv 42 44])))
 (.cond (.t 42) (Rg [Mv 45 0, Op 46 (.fieldAddr 3 (.t 3)), Op 47 (.load false 1 (.t 46)), Op 48 (.indexAddr 6 (.t 47) (Ci 0)), Op 49 (.load true 6 (.t 48)), Op 50 (Ca 259 [.t 45, .t 49, Ci 2])]
 (Rg [Mv 51 0, Op 52 (.fieldAddr 4 (.t 3)), Op 53 (.load false 1 (.t 52)), Op 54 (Ca 167 [.t 51, .t 53])]
 (.region [Mv 55 0, Op 56 (.fieldAddr 5 (.t 3)), Op 57 (.load false 1 (.t 56)), Op 58 (Ca 167 [.t 55, .t 57])])))
 (Rg [Op 60 (.bin (.eql) (.t 7) (Ci 6)), Mv 59 60]
 (.cond (.t 59) (.region [Mv 61 0, Op 62 (.fieldAddr 2 (.t 3)), Op 63 (.load false 1 (.t 62)), Op 64 (.fieldAddr 1 (.t 3)), Op 65 (.load false 1 (.t 64)), Op 66 (.fieldAddr 3 (.t 3)), Op 67 (.load false 1 (.t 66)), Op 68 (Ca 260 [.t 61, .t 63, .t 65, .t 67])])
 (Rg [Op 70 (.bin (.eql) (.t 7) (Ci 7)), Mv 69 70]
 (.cond (.t 69) (Rg [Op 4 (.move (Ci 0))]
 (.block 1 (.loop (.seq (Rg [Mv 71 4, Op 72 (.fieldAddr 6 (.t 3)), Op 73 (.load false 1 (.t 72)), Op 74 (.len (.slice) (.t 73)), Op 75 (.bin (.lss) (.t 71) (.t 74))]
 (.cond (.t 75) (.skip)
 (.exit 1)))
 (.seq (.block 2 (Rg [Op 78 (.fieldAddr 6 (.t 3)), Op 79 (.load false 1 (.t 78)), Mv 80 4, Op 81 (.indexAddr 4 (.t 79) (.t 80)), Op 82 (.load true 4 (.t 81)), Op 5 (.new [.int (.i64) 0, .str [], .nilSlice, .nilSlice]), On (.store 4 (.t 5) (.t 82))]
 (.seq (Rg [Mv 83 4, Op 84 (.bin (.geq) (.t 83) (Ci 8))]
 (.cond (.t 84) (.region [Mv 85 0, Op 86 (.fieldAddr 0 (.t 5)), Op 87 (.load false 1 (.t 86)), Op 88 (Ca 228 [.t 85, Ci 16, .t 87])])
 (.skip)))
 (Rg [Mv 89 0, Op 90 (.fieldAddr 1 (.t 5)), Op 91 (.load false 1 (.t 90)), Op 92 (.fieldAddr 0 (.t 5)), Op 93 (.load false 1 (.t 92)), Op 94 (.fieldAddr 2 (.t 5)), Op 95 (.load false 1 (.t 94)), Op 96 (Ca 260 [.t 89, .t 91, .t 93, .t 95])]
 (.region [Mv 97 0, Op 98 (.fieldAddr 3 (.t 5)), Op 99 (.load false 1 (.t 98)), Op 100 (Ca 168 [.t 97, .t 99])])))))
 (.region [Mv 76 4, Op 77 (.bin (.add) (.t 76) (Ci 1)), Mv 4 77]))))))
 (.seq (Rg [Op 102 (.bin (.eql) (.t 7) (Ci 8)), Mv 101 102]
 (.cond (.t 101) (.skip)
 (.region [Op 103 (.bin (.eql) (.t 7) (Ci 9)), Mv 101 103])))
 (.cond (.t 101) (.region [Mv 104 0, Op 105 (.fieldAddr 2 (.t 3)), Op 106 (.load false 1 (.t 105)), Op 107 (.fieldAddr 1 (.t 3)), Op 108 (.load false 1 (.t 107)), Op 109 (Ca 229 [.t 104, .t 106, .t 108, Ci 2])])
 (Rg [Op 111 (.bin (.eql) (.t 7) (Ci 10)), Mv 110 111]
 (.cond (.t 110) (.region [Mv 112 0, Op 113 (.load true 8 (.t 3)), Op 114 (Ca 261 [.t 112, .t 113])])
 (.seq (Rg [Op 116 (.bin (.eql) (.t 7) (Ci 11)), Mv 115 116]
 (.cond (.t 115) (.skip)
 (.region [Op 117 (.bin (.eql) (.t 7) (Ci 12)), Mv 115 117])))
 (.cond (.t 115) (.region [Mv 118 0, Op 119 (.fieldAddr 7 (.t 3)), Op 120 (.load false 1 (.t 119)), Op 121 (Ca 168 [.t 118, .t 120])])
 (Rg [Op 123 (.bin (.eql) (.t 7) (Ci 13)), Mv 122 123]
 (.cond (.t 122) (.region [Mv 124 0, Op 125 (.fieldAddr 2 (.t 3)), Op 126 (.load false 1 (.t 125)), Op 127 (.fieldAddr 1 (.t 3)), Op 128 (.load false 1 (.t 127)), Op 129 (Ca 258 [.t 124, .t 126, .t 128, .c (.bool false)])])
 (Rg [Op 131 (.bin (.eql) (.t 7) (Ci 14)), Mv 130 131]
 (.cond (.t 130) (Rg [Mv 132 0, Op 133 (.fieldAddr 2 (.t 3)), Op 134 (.load false 1 (.t 133)), Op 135 (.fieldAddr 1 (.t 3)), Op 136 (.load false 1 (.t 135)), Op 137 (Ca 258 [.t 132, .t 134, .t 136, .c (.bool true)])]
 (.region [Mv 138 0, Op 139 (.fieldAddr 3 (.t 3)), Op 140 (.load false 1 (.t 139)), Op 141 (.indexAddr 6 (.t 140) (Ci 0)), Op 142 (.load true 6 (.t 141)), Op 143 (Ca 259 [.t 138, .t 142, Ci 1])]))
 (Rg [Op 145 (.bin (.eql) (.t 7) (Ci 15)), Mv 144 145]
 (.cond (.t 144) (.region [Mv 146 0, Op 147 (.fieldAddr 3 (.t 3)), Op 148 (.load false 1 (.t 147)), Op 149 (.indexAddr 6 (.t 148) (Ci 0)), Op 150 (.load true 6 (.t 149)), Op 151 (Ca 259 [.t 146, .t 150, Ci 1])])
 (.skip)))))))))))))))))))))))))⟩
theorem ok227 : compFunc prog glb 227 p227 = some c227 := by kernel_rfl
def p228 : List Plan := []
def c228 : CFunc := ⟨15, [],
 Rg [Mv 6 0, Op 7 (Ca 166 [.t 6]), Op 8 (.un (.not) (.t 7))]
 (.cond (.t 8) (.region [Mv 9 0, Mv 10 1, Mv 11 2, Op 12 (Ca 164 [.t 10, .t 11]), Op 13 (.nilCheck (.t 9)), Op 14 (.fieldAddr 4 (.t 13)), On (.store 2 (.t 14) (.t 12))])
 (.skip))⟩
theorem ok228 : compFunc prog glb 228 p228 = some c228 := by kernel_rfl
def p229 : List Plan := [⟨[(8, .quiet [0]), (4, .quiet [0]), (5, .quiet [0]), (6, .quiet [0]), (7, .quiet [0]), (0, .quiet [0]), (1, .quiet [0]), (2, .quiet [0]), (3, .quiet [0]), (9, .eff), (10, .quiet [10]), (11, .quiet [10]), (13, .quiet [10]), (12, .quiet [10]), (14, .quiet [10])], 0, [0, 1, 3, 7, 0, 16, 48, 112, 0, 511, 1023, 2047, 2047, 4095, 16383]⟩]
def c229 : CFunc := ⟨86, [],
 .seq (Rg [Mv 14 0, Op 15 (Ca 166 [.t 14])]
 (.cond (.t 15) (.ret)
 (.skip)))
 (.seq (.draw [⟨8, Mv 25 1, (.quiet [0])⟩,
 ⟨4, Mv 21 0, (.quiet [0])⟩,
 ⟨5, Op 22 (.nilCheck (.t 21)), (.quiet [0])⟩,
 ⟨6, Op 23 (.fieldAddr 1 (.t 22)), (.quiet [0])⟩,
 ⟨7, Op 24 (.load false 1 (.t 23)), (.quiet [0])⟩,
 ⟨0, Mv 17 0, (.quiet [0])⟩,
 ⟨1, Op 18 (.nilCheck (.t 17)), (.quiet [0])⟩,
 ⟨2, Op 19 (.fieldAddr 0 (.t 18)), (.quiet [0])⟩,
 ⟨3, Op 20 (.load false 1 (.t 19)), (.quiet [0])⟩,
 ⟨9, Op 26 (Ca 262 [.t 20, .t 24, .t 25]), (.eff)⟩,
 ⟨10, Mv 16 26, (.quiet [10])⟩,
 ⟨11, Op 27 (.extract (.t 16) 0), (.quiet [10])⟩,
 ⟨13, Mv 8 27, (.quiet [10])⟩,
 ⟨12, Op 28 (.extract (.t 16) 1), (.quiet [10])⟩,
 ⟨14, Mv 9 28, (.quiet [10])⟩] 0)
 (Rg [Mv 30 0, Op 31 (.nilCheck (.t 30)), Op 32 (.fieldAddr 0 (.t 31)), Op 33 (.load false 1 (.t 32)), Mv 34 1, Op 35 (Ca 185 [.t 33, .t 34]), Mv 29 35, Op 36 (.extract (.t 29) 0), Op 37 (.extract (.t 29) 1), Op 10 (.new [.int (.i64) 0, .int (.i64) 0, .int (.i64) 0]), On (.store 3 (.t 10) (.t 36)), Mv 11 37]
 (Rg [Mv 39 0, Op 40 (.nilCheck (.t 39)), Op 41 (.fieldAddr 0 (.t 40)), Op 42 (.load false 1 (.t 41)), Mv 43 1, Op 44 (Ca 263 [.t 42, .t 43]), Mv 38 44, Op 45 (.extract (.t 38) 0), Op 46 (.extract (.t 38) 1), Mv 12 45, Mv 13 46]
 (Rg [Mv 47 9, Op 48 (.un (.not) (.t 47)), Mv 49 48, Mt 50 11 49, Ot 51 (.un (.not) (.t 50)) 49, Op 52 (.pick (.t 49) (.t 51) (.c (.bool false))), Mv 53 52, Mt 54 13 53, Ot 55 (.un (.not) (.t 54)) 53, Op 56 (.pick (.t 53) (.t 55) (.c (.bool false)))]
 (.cond (.t 56) (.region [Mv 57 0, Mv 58 2, Op 59 (Ca 228 [.t 57, Ci 18, .t 58])])
 (Rg [Mv 60 9, Mv 61 60, Mf 62 3 61, Of 63 (.bin (.eql) (.t 62) (Ci 0)) 61, Mf 64 63 61, Mt 65 13 64, Ot 66 (.un (.not) (.t 65)) 64, Of 67 (.pick (.t 64) (.t 66) (.c (.bool false))) 61, Op 68 (.pick (.t 61) (.c (.bool true)) (.t 67)), Mv 69 68, Mf 70 3 69, Of 71 (.bin (.neq) (.t 70) (Ci 0)) 69, Mf 72 71 69, Mt 73 11 72, Ot 74 (.un (.not) (.t 73)) 72, Mt 75 74 72, Of 76 (.fieldAddr 0 (.t 10)) 75, Of 77 (.load false 1 (.t 76)) 75, Mf 78 3 75, Of 79 (.bin (.neq) (.t 77) (.t 78)) 75, Ot 80 (.pick (.t 75) (.c (.bool true)) (.t 79)) 72, Of 81 (.pick (.t 72) (.t 80) (.c (.bool false))) 69, Op 82 (.pick (.t 69) (.c (.bool true)) (.t 81))]
 (.cond (.t 82) (.region [Mv 83 0, Mv 84 2, Op 85 (Ca 228 [.t 83, Ci 19, .t 84])])
 (.skip))))))))⟩
theorem ok229 : compFunc prog glb 229 p229 = some c229 := by kernel_rfl
def p230 : List Plan := []
def c230 : CFunc := ⟨27, [.tmp 4],
 Rg [Op 4 (.move (.c (.nilSlice)))]
 (.seq (Rg [Mv 5 1, Op 6 (.bin (.lss) (.t 5) (Ci 0))]
 (.cond (.t 6) (.region [Op 7 (.iface 9 (.c (.str [99, 97, 110, 110, 111, 116, 32, 98, 101, 32, 110, 101, 103, 97, 116, 105, 118, 101]))), On (.dead)])
 (.skip)))
 (.seq (Rg [Mv 8 1, Mv 9 0, Op 10 (.dead), Mv 11 0, Op 12 (.len (.slice) (.t 11)), Op 13 (.bin (.sub) (.t 10) (.t 12)), Op 14 (.bin (.sub) (.t 8) (.t 13)), Mv 1 14]
 (Rg [Mv 15 1, Op 16 (.bin (.gtr) (.t 15) (Ci 0))]
 (.cond (.t 16) (.region [Mv 17 0, Mv 18 0, Op 19 (.dead), Op 20 (.slice 2 (.t 17) none (some (.t 19)) none), Mv 21 1, Op 22 (.appendN 2 24 [.int (.i64) 0, .str []] (.t 20) (.t 21)), Mv 23 0, Op 24 (.len (.slice) (.t 23)), Op 25 (.slice 2 (.t 22) none (some (.t 24)) none), Mv 0 25])
 (.skip))))
 (Rg [Mv 26 0, Mv 4 26]
 (.ret))))⟩
theorem ok230 : compFunc prog glb 230 p230 = some c230 := by kernel_rfl
def p231 : List Plan := []
def c231 : CFunc := ⟨9, [],
 .region [Mv 4 0, Op 5 (.nilCheck (.t 4)), Op 6 (.fieldAddr 0 (.t 5)), Mv 7 1, Op 8 (.ext (Ext.atomicStore (.i64)) [.t 6, .t 7])]⟩
theorem ok231 : compFunc prog glb 231 p231 = some c231 := by kernel_rfl
def p232 : List Plan := [⟨[(0, .quiet [0]), (1, .eff), (2, .quiet [0, 2]), (3, .quiet [0, 2]), (4, .quiet [0, 2]), (5, .quiet [0, 2]), (6, .quiet [2]), (7, .quiet [2])], 0, [0, 1, 0, 4, 12, 28, 63, 127]⟩]
def c232 : CFunc := ⟨43, [.tmp 4, .tmp 5],
 Rg [Op 4 (.move (Ci 0)), Op 5 (.move (Ci 0))]
 (.seq (.block 0 (Rg [Mv 7 0, Op 8 (.eq (.ptr) false (.t 7) (.c (.nilPtr))), Mv 9 8, Mf 10 1 9, Of 11 (.bin (.neq) (.t 10) (Ci 0)) 9, Mf 12 11 9, Mt 13 0 12, Mt 14 1 12, Ot 15 (Ca 88 [.t 13, .t 14]) 12, Ot 16 (Ca 86 [.t 15]) 12, Ot 17 (.un (.not) (.t 16)) 12, Of 18 (.pick (.t 12) (.t 17) (.c (.bool false))) 9, Op 19 (.pick (.t 9) (.c (.bool true)) (.t 18)), Mv 6 19]
 (.cond (.t 6) (Rg [Op 4 (.move (Ci 0)), Op 5 (.move (Ci 3))]
 (.ret))
 (.seq (.draw [⟨0, Mv 21 0, (.quiet [0])⟩,
 ⟨1, Op 22 (Ca 45 [.t 21]), (.eff)⟩,
 ⟨2, Mv 23 0, (.quiet [0, 2])⟩,
 ⟨3, Op 24 (.nilCheck (.t 23)), (.quiet [0, 2])⟩,
 ⟨4, Op 25 (.fieldAddr 0 (.t 24)), (.quiet [0, 2])⟩,
 ⟨5, Op 26 (.load false 1 (.t 25)), (.quiet [0, 2])⟩,
 ⟨6, Op 27 (.bin (.geq) (.t 22) (.t 26)), (.quiet [2])⟩,
 ⟨7, Mv 20 27, (.quiet [2])⟩] 0)
 (.cond (.t 20) (Rg [Op 4 (.move (Ci 0)), Op 5 (.move (Ci 42))]
 (.ret))
 (.skip))))))
 (Rg [Mv 28 0, Mv 29 0, Op 30 (.nilCheck (.t 29)), Op 31 (.fieldAddr 2 (.t 30)), Op 32 (.load false 1 (.t 31)), Mv 33 1, Op 34 (.build [.int (.i64) 0, .int (.i64) 0, .int (.i64) 0, .int (.i64) 0, .int (.i64) 0] [(0, 1, Ci 1), (1, 1, .t 33)]), Op 35 (.buildSlice [.int (.i64) 0, .int (.i64) 0, .int (.i64) 0, .int (.i64) 0, .int (.i64) 0] 1 [(0, 5, .t 34)]), Op 36 (.append 5 40 (.t 32) (.t 35)), Op 37 (.nilCheck (.t 28)), Op 38 (.fieldAddr 2 (.t 37)), On (.store 1 (.t 38) (.t 36))]
 (Rg [Mv 39 0, Op 40 (.nilCheck (.t 39)), Op 41 (.fieldAddr 1 (.t 40)), Op 42 (Ca 241 [.t 41, Ci 1]), Mv 4 42, Op 5 (.move (Ci 0))]
 (.ret))))⟩
theorem ok232 : compFunc prog glb 232 p232 = some c232 := by kernel_rfl
def p233 : List Plan := [⟨[(5, .eff), (6, .quiet [0, 1]), (7, .eff), (4, .quiet [0, 1, 3]), (0, .quiet [0, 1, 3]), (1, .quiet [0, 1, 3]), (2, .quiet [0, 1, 3]), (3, .quiet [0, 1, 3]), (8, .eff)], 0, [0, 1, 3, 7, 0, 0, 0, 96, 255]⟩]
def c233 : CFunc := ⟨52, [.tmp 6],
 Rg [Op 6 (.move (Ci 0))]
 (.seq (.block 0 (Rg [Mv 8 0, Op 9 (.eq (.ptr) false (.t 8) (.c (.nilPtr))), Mv 7 9]
 (.cond (.t 7) (Rg [Op 6 (.move (Ci 3))]
 (.ret))
 (Rg [Mv 11 1, Op 12 (.bin (.lss) (.t 11) (Ci 1)), Mv 13 12, Mf 14 0 13, Mf 15 2 13, Of 16 (Ca 242 [.t 14, .t 15]) 13, Of 17 (.un (.not) (.t 16)) 13, Op 18 (.pick (.t 13) (.c (.bool true)) (.t 17)), Mv 10 18]
 (.cond (.t 10) (Rg [Op 6 (.move (Ci 1))]
 (.ret))
 (Rg [Mv 20 0, Mv 21 1, Op 22 (Ca 71 [.t 20, .t 21]), Mv 19 22]
 (.cond (.t 19) (Rg [Op 6 (.move (Ci 4))]
 (.ret))
 (Rg [Mv 24 0, Op 25 (.nilCheck (.t 24)), Op 26 (.fieldAddr 7 (.t 25)), Op 27 (.load false 1 (.t 26)), Op 28 (.len (.map) (.t 27)), Op 29 (.bin (.geq) (.t 28) (Ci 32)), Mv 23 29]
 (.cond (.t 23) (Rg [Op 6 (.move (Ci 1))]
 (.ret))
 (Rg [Mv 31 0, Op 32 (.nilCheck (.t 31)), Op 33 (.fieldAddr 1 (.t 32)), Op 34 (.load false 1 (.t 33)), Mv 35 34, Mt 36 2 35, Mt 37 0 35, Ot 38 (.nilCheck (.t 37)) 35, Ot 39 (.fieldAddr 0 (.t 38)) 35, Ot 40 (.load false 1 (.t 39)) 35, Ot 41 (Ca 215 [.t 36, .t 40]) 35, Ot 42 (.un (.not) (.t 41)) 35, Op 43 (.pick (.t 35) (.t 42) (.c (.bool false))), Mv 30 43]
 (.cond (.t 30) (Rg [Op 6 (.move (Ci 35))]
 (.ret))
 (.skip))))))))))))
 (.seq (.draw [⟨5, Op 49 (.buildSlice [.int (.i64) 0] 0 []), (.eff)⟩,
 ⟨6, Mv 50 2, (.quiet [0, 1])⟩,
 ⟨7, Op 51 (.append 1 8 (.t 49) (.t 50)), (.eff)⟩,
 ⟨4, Mv 48 1, (.quiet [0, 1, 3])⟩,
 ⟨0, Mv 44 0, (.quiet [0, 1, 3])⟩,
 ⟨1, Op 45 (.nilCheck (.t 44)), (.quiet [0, 1, 3])⟩,
 ⟨2, Op 46 (.fieldAddr 7 (.t 45)), (.quiet [0, 1, 3])⟩,
 ⟨3, Op 47 (.load false 1 (.t 46)), (.quiet [0, 1, 3])⟩,
 ⟨8, On (.mapUpdate (.one (.int)) (.t 47) (.t 48) (.t 51)), (.eff)⟩] 0)
 (Rg [Op 6 (.move (Ci 0))]
 (.ret))))⟩
theorem ok233 : compFunc prog glb 233 p233 = some c233 := by kernel_rfl
def p234 : List Plan := []
def c234 : CFunc := ⟨14, [.tmp 2],
 Rg [Op 1 (.box (.t 0)), Op 2 (.move (Ci 0))]
 (.seq (Rg [Op 3 (.fieldAddr 1 (.t 1)), Op 4 (.load false 1 (.t 3)), Op 5 (.bin (.lss) (.t 4) (Ci 1))]
 (.cond (.t 5) (Rg [Op 6 (.fieldAddr 0 (.t 1)), Op 7 (.load false 1 (.t 6)), Op 8 (.bin (.add) (.t 7) (Ci 1)), Mv 2 8]
 (.ret))
 (.skip)))
 (Rg [Op 9 (.fieldAddr 0 (.t 1)), Op 10 (.load false 1 (.t 9)), Op 11 (.fieldAddr 1 (.t 1)), Op 12 (.load false 1 (.t 11)), Op 13 (.bin (.add) (.t 10) (.t 12)), Mv 2 13]
 (.ret)))⟩
theorem ok234 : compFunc prog glb 234 p234 = some c234 := by kernel_rfl
def p235 : List Plan := []
def c235 : CFunc := ⟨15, [.tmp 6],
 Rg [Op 6 (.move (.c (.bool false)))]
 (Rg [Mv 7 0, Mv 8 1, Op 9 (.bin (.geq) (.t 7) (.t 8)), Mv 10 9, Mt 11 0 10, Mt 12 2 10, Ot 13 (.bin (.leq) (.t 11) (.t 12)) 10, Op 14 (.pick (.t 10) (.t 13) (.c (.bool false))), Mv 6 14]
 (.ret))⟩
theorem ok235 : compFunc prog glb 235 p235 = some c235 := by kernel_rfl
def p236 : List Plan := []
def c236 : CFunc := ⟨18, [.tmp 4],
 Rg [Op 4 (.move (.c (.bool false)))]
 (.seq (Rg [Op 5 (.move (Ci 0))]
 (.block 0 (.loop (.seq (Rg [Mv 6 5, Mv 7 0, Op 8 (.len (.slice) (.t 7)), Op 9 (.bin (.lss) (.t 6) (.t 8))]
 (.cond (.t 9) (.skip)
 (.exit 0)))
 (.seq (.block 1 (Rg [Mv 12 0, Mv 13 5, Op 14 (.indexAddr 1 (.t 12) (.t 13)), Op 15 (.load false 1 (.t 14)), Mv 16 1, Op 17 (.bin (.eql) (.t 15) (.t 16))]
 (.cond (.t 17) (Rg [Op 4 (.move (.c (.bool true)))]
 (.ret))
 (.skip))))
 (.region [Mv 10 5, Op 11 (.bin (.add) (.t 10) (Ci 1)), Mv 5 11]))))))
 (Rg [Op 4 (.move (.c (.bool false)))]
 (.ret)))⟩
theorem ok236 : compFunc prog glb 236 p236 = some c236 := by kernel_rfl
def p237 : List Plan := []
def c237 : CFunc := ⟨15, [.tmp 4],
 Rg [Op 4 (.move (.c (.bool false)))]
 (Rg [Mv 5 0, Mv 6 1, Op 7 (Ca 265 [.t 5, .t 6]), Op 8 (.bin (.eql) (.t 7) (Ci 1)), Mv 9 8, Mf 10 0 9, Mf 11 1 9, Of 12 (Ca 265 [.t 10, .t 11]) 9, Of 13 (.bin (.eql) (.t 12) (Ci 2)) 9, Op 14 (.pick (.t 9) (.c (.bool true)) (.t 13)), Mv 4 14]
 (.ret))⟩
theorem ok237 : compFunc prog glb 237 p237 = some c237 := by kernel_rfl
def p238 : List Plan := [⟨[(5, .quiet [0]), (1, .quiet [0]), (2, .quiet [0]), (3, .quiet [0]), (4, .quiet [0]), (6, .quiet [0]), (7, .eff), (8, .quiet [0, 7]), (9, .alloc 0), (10, .eff), (15, .quiet [0, 7, 10]), (11, .quiet [0, 7, 10]), (12, .quiet [0, 7, 10]), (13, .quiet [0, 7, 10]), (14, .quiet [0, 7, 10]), (16, .quiet [0, 7, 10]), (17, .eff), (0, .quiet [0, 7, 10, 17]), (18, .quiet [17]), (19, .quiet [17]), (20, .eff)], 1, [0, 0, 2, 6, 14, 0, 62, 126, 0, 256, 1022, 0, 2048, 6144, 14336, 0, 63488, 131070, 262143, 524287, 1048575]⟩, ⟨[(1, .eff), (6, .quiet [0, 1]), (2, .quiet [0, 1]), (3, .quiet [0, 1]), (4, .quiet [0, 1]), (5, .quiet [0, 1]), (7, .quiet [0, 1]), (8, .eff), (9, .quiet [0, 1, 8]), (10, .quiet [0, 1, 8]), (11, .quiet [0, 1, 8]), (12, .quiet [0, 1, 8]), (13, .quiet [0, 1, 8]), (14, .alloc 0), (15, .alloc 1), (16, .eff), (21, .quiet [0, 1, 8, 16]), (17, .quiet [0, 1, 8, 16]), (18, .quiet [0, 1, 8, 16]), (19, .quiet [0, 1, 8, 16]), (20, .quiet [0, 1, 8, 16]), (22, .quiet [0, 1, 8, 16]), (23, .eff), (0, .quiet [0, 1, 8, 16, 23]), (24, .quiet [23]), (25, .quiet [23]), (26, .eff)], 2, [0, 0, 0, 4, 12, 28, 0, 124, 254, 0, 512, 1536, 3584, 7680, 15872, 32256, 65534, 0, 131072, 393216, 917504, 0, 4063232, 8388606, 16777215, 33554431, 67108863]⟩, ⟨[(1, .eff), (6, .quiet [0, 1]), (2, .quiet [0, 1]), (3, .quiet [0, 1]), (4, .quiet [0, 1]), (5, .quiet [0, 1]), (7, .quiet [0, 1]), (8, .eff), (9, .quiet [0, 1, 8]), (10, .eff), (11, .eff), (12, .eff), (17, .quiet [0, 1, 8, 10, 11, 12]), (13, .quiet [0, 1, 8, 10, 11, 12]), (14, .quiet [0, 1, 8, 10, 11, 12]), (15, .quiet [0, 1, 8, 10, 11, 12]), (16, .quiet [0, 1, 8, 10, 11, 12]), (18, .quiet [0, 1, 8, 10, 11, 12]), (19, .eff), (0, .quiet [0, 1, 8, 10, 11, 12, 19]), (20, .quiet [19]), (21, .quiet [19]), (22, .eff)], 0, [0, 0, 0, 4, 12, 28, 0, 124, 254, 0, 1022, 2046, 4094, 0, 8192, 24576, 57344, 0, 253952, 524286, 1048575, 2097151, 4194303]⟩]
def c238 : CFunc := ⟨131, [.tmp 6],
 Rg [Op 6 (.move (Ci 0))]
 (.seq (Rg [Mv 8 1, Op 9 (.bin (.lss) (.t 8) (Ci 1)), Mv 10 9, Mf 11 2 10, Mf 12 0 10, Of 13 (.nilCheck (.t 12)) 10, Of 14 (.fieldAddr 0 (.t 13)) 10, Of 15 (.load false 1 (.t 14)) 10, Of 16 (.len (.slice) (.t 15)) 10, Of 17 (Ca 182 [.t 11, .t 16]) 10, Of 18 (.un (.not) (.t 17)) 10, Op 19 (.pick (.t 10) (.c (.bool true)) (.t 18))]
 (.cond (.t 19) (Rg [Op 6 (.move (Ci 1))]
 (.ret))
 (.skip)))
 (.seq (Rg [Mv 20 0, Mv 21 1, Op 22 (Ca 266 [.t 20, .t 21]), Op 23 (.bin (.geq) (.t 22) (Ci 0))]
 (.cond (.t 23) (Rg [Op 6 (.move (Ci 4))]
 (.ret))
 (.skip)))
 (.seq (Rg [Mv 24 0, Op 25 (.nilCheck (.t 24)), Op 26 (.fieldAddr 3 (.t 25)), Op 27 (.load false 1 (.t 26)), Op 28 (.len (.slice) (.t 27)), Op 29 (.bin (.geq) (.t 28) (Ci 32))]
 (.cond (.t 29) (Rg [Op 6 (.move (Ci 1))]
 (.ret))
 (.skip)))
 (.seq (Rg [Mv 30 0, Op 31 (.nilCheck (.t 30)), Op 32 (.fieldAddr 2 (.t 31)), Op 33 (.load false 1 (.t 32)), Mv 34 33, Mt 35 2 34, Mt 36 0 34, Ot 37 (.nilCheck (.t 36)) 34, Ot 38 (.fieldAddr 0 (.t 37)) 34, Ot 39 (.load false 1 (.t 38)) 34, Ot 40 (Ca 267 [.t 35, .t 39]) 34, Ot 41 (.un (.not) (.t 40)) 34, Op 42 (.pick (.t 34) (.t 41) (.c (.bool false)))]
 (.cond (.t 42) (Rg [Op 6 (.move (Ci 35))]
 (.ret))
 (.skip)))
 (Rg [Op 7 (.move (Ci 0))]
 (.seq (.block 0 (.loop (.seq (Rg [Mv 43 7, Mv 44 0, Op 45 (.nilCheck (.t 44)), Op 46 (.fieldAddr 3 (.t 45)), Op 47 (.load false 1 (.t 46)), Op 48 (.len (.slice) (.t 47)), Op 49 (.bin (.lss) (.t 43) (.t 48)), Mv 50 49, Mt 51 0 50, Ot 52 (.nilCheck (.t 51)) 50, Ot 53 (.fieldAddr 3 (.t 52)) 50, Ot 54 (.load false 1 (.t 53)) 50, Mt 55 7 50, Ot 56 (.indexAddr 1 (.t 54) (.t 55)) 50, Ot 57 (.load false 1 (.t 56)) 50, Mt 58 1 50, Ot 59 (.bin (.lss) (.t 57) (.t 58)) 50, Op 60 (.pick (.t 50) (.t 59) (.c (.bool false)))]
 (.cond (.t 60) (.skip)
 (.exit 0)))
 (.block 1 (.region [Mv 61 7, Op 62 (.bin (.add) (.t 61) (Ci 1)), Mv 7 62])))))
 (.seq (.draw [⟨5, Mv 68 7, (.quiet [0])⟩,
 ⟨1, Mv 64 0, (.quiet [0])⟩,
 ⟨2, Op 65 (.nilCheck (.t 64)), (.quiet [0])⟩,
 ⟨3, Op 66 (.fieldAddr 3 (.t 65)), (.quiet [0])⟩,
 ⟨4, Op 67 (.load false 1 (.t 66)), (.quiet [0])⟩,
 ⟨6, Op 69 (.slice 1 (.t 67) none (some (.t 68)) none), (.quiet [0])⟩,
 ⟨7, Op 70 (Ca 104 [.t 69]), (.eff)⟩,
 ⟨8, Mv 71 1, (.quiet [0, 7])⟩,
 ⟨9, Op 72 (.buildSlice [.int (.i64) 0] 1 [(0, 1, .t 71)]), (.alloc 0)⟩,
 ⟨10, Op 73 (.append 1 8 (.t 70) (.t 72)), (.eff)⟩,
 ⟨15, Mv 78 7, (.quiet [0, 7, 10])⟩,
 ⟨11, Mv 74 0, (.quiet [0, 7, 10])⟩,
 ⟨12, Op 75 (.nilCheck (.t 74)), (.quiet [0, 7, 10])⟩,
 ⟨13, Op 76 (.fieldAddr 3 (.t 75)), (.quiet [0, 7, 10])⟩,
 ⟨14, Op 77 (.load false 1 (.t 76)), (.quiet [0, 7, 10])⟩,
 ⟨16, Op 79 (.slice 1 (.t 77) (some (.t 78)) none none), (.quiet [0, 7, 10])⟩,
 ⟨17, Op 80 (.append 1 8 (.t 73) (.t 79)), (.eff)⟩,
 ⟨0, Mv 63 0, (.quiet [0, 7, 10, 17])⟩,
 ⟨18, Op 81 (.nilCheck (.t 63)), (.quiet [17])⟩,
 ⟨19, Op 82 (.fieldAddr 3 (.t 81)), (.quiet [17])⟩,
 ⟨20, On (.store 1 (.t 82) (.t 80)), (.eff)⟩] 1)
 (.seq (.draw [⟨1, Op 84 (.buildSlice [.nilSlice] 0 []), (.eff)⟩,
 ⟨6, Mv 89 7, (.quiet [0, 1])⟩,
 ⟨2, Mv 85 0, (.quiet [0, 1])⟩,
 ⟨3, Op 86 (.nilCheck (.t 85)), (.quiet [0, 1])⟩,
 ⟨4, Op 87 (.fieldAddr 4 (.t 86)), (.quiet [0, 1])⟩,
 ⟨5, Op 88 (.load false 1 (.t 87)), (.quiet [0, 1])⟩,
 ⟨7, Op 90 (.slice 1 (.t 88) none (some (.t 89)) none), (.quiet [0, 1])⟩,
 ⟨8, Op 91 (.append 1 24 (.t 84) (.t 90)), (.eff)⟩,
 ⟨9, Mv 92 0, (.quiet [0, 1, 8])⟩,
 ⟨10, Op 93 (.nilCheck (.t 92)), (.quiet [0, 1, 8])⟩,
 ⟨11, Op 94 (.fieldAddr 0 (.t 93)), (.quiet [0, 1, 8])⟩,
 ⟨12, Op 95 (.load false 1 (.t 94)), (.quiet [0, 1, 8])⟩,
 ⟨13, Op 96 (.len (.slice) (.t 95)), (.quiet [0, 1, 8])⟩,
 ⟨14, Op 97 (.makeSlice [.int (.i64) 0] 8 (.t 96) (.t 96)), (.alloc 0)⟩,
 ⟨15, Op 98 (.buildSlice [.nilSlice] 1 [(0, 1, .t 97)]), (.alloc 1)⟩,
 ⟨16, Op 99 (.append 1 24 (.t 91) (.t 98)), (.eff)⟩,
 ⟨21, Mv 104 7, (.quiet [0, 1, 8, 16])⟩,
 ⟨17, Mv 100 0, (.quiet [0, 1, 8, 16])⟩,
 ⟨18, Op 101 (.nilCheck (.t 100)), (.quiet [0, 1, 8, 16])⟩,
 ⟨19, Op 102 (.fieldAddr 4 (.t 101)), (.quiet [0, 1, 8, 16])⟩,
 ⟨20, Op 103 (.load false 1 (.t 102)), (.quiet [0, 1, 8, 16])⟩,
 ⟨22, Op 105 (.slice 1 (.t 103) (some (.t 104)) none none), (.quiet [0, 1, 8, 16])⟩,
 ⟨23, Op 106 (.append 1 24 (.t 99) (.t 105)), (.eff)⟩,
 ⟨0, Mv 83 0, (.quiet [0, 1, 8, 16, 23])⟩,
 ⟨24, Op 107 (.nilCheck (.t 83)), (.quiet [23])⟩,
 ⟨25, Op 108 (.fieldAddr 4 (.t 107)), (.quiet [23])⟩,
 ⟨26, On (.store 1 (.t 108) (.t 106)), (.eff)⟩] 2)
 (.seq (.draw [⟨1, Op 110 (.buildSlice [.nilSlice] 0 []), (.eff)⟩,
 ⟨6, Mv 115 7, (.quiet [0, 1])⟩,
 ⟨2, Mv 111 0, (.quiet [0, 1])⟩,
 ⟨3, Op 112 (.nilCheck (.t 111)), (.quiet [0, 1])⟩,
 ⟨4, Op 113 (.fieldAddr 5 (.t 112)), (.quiet [0, 1])⟩,
 ⟨5, Op 114 (.load false 1 (.t 113)), (.quiet [0, 1])⟩,
 ⟨7, Op 116 (.slice 1 (.t 114) none (some (.t 115)) none), (.quiet [0, 1])⟩,
 ⟨8, Op 117 (.append 1 24 (.t 110) (.t 116)), (.eff)⟩,
 ⟨9, Mv 118 2, (.quiet [0, 1, 8])⟩,
 ⟨10, Op 119 (Ca 104 [.t 118]), (.eff)⟩,
 ⟨11, Op 120 (.buildSlice [.nilSlice] 1 [(0, 1, .t 119)]), (.eff)⟩,
 ⟨12, Op 121 (.append 1 24 (.t 117) (.t 120)), (.eff)⟩,
 ⟨17, Mv 126 7, (.quiet [0, 1, 8, 10, 11, 12])⟩,
 ⟨13, Mv 122 0, (.quiet [0, 1, 8, 10, 11, 12])⟩,
 ⟨14, Op 123 (.nilCheck (.t 122)), (.quiet [0, 1, 8, 10, 11, 12])⟩,
 ⟨15, Op 124 (.fieldAddr 5 (.t 123)), (.quiet [0, 1, 8, 10, 11, 12])⟩,
 ⟨16, Op 125 (.load false 1 (.t 124)), (.quiet [0, 1, 8, 10, 11, 12])⟩,
 ⟨18, Op 127 (.slice 1 (.t 125) (some (.t 126)) none none), (.quiet [0, 1, 8, 10, 11, 12])⟩,
 ⟨19, Op 128 (.append 1 24 (.t 121) (.t 127)), (.eff)⟩,
 ⟨0, Mv 109 0, (.quiet [0, 1, 8, 10, 11, 12, 19])⟩,
 ⟨20, Op 129 (.nilCheck (.t 109)), (.quiet [19])⟩,
 ⟨21, Op 130 (.fieldAddr 5 (.t 129)), (.quiet [19])⟩,
 ⟨22, On (.store 1 (.t 130) (.t 128)), (.eff)⟩] 0)
 (Rg [Op 6 (.move (Ci 0))]
 (.ret)))))))))))⟩
theorem ok238 : compFunc prog glb 238 p238 = some c238 := by kernel_rfl
def p239 : List Plan := []
def c239 : CFunc := ⟨47, [.tmp 6],
 Rg [Op 6 (.move (.c (.bool false)))]
 (.seq (Rg [Mv 7 0, Mv 8 1, Op 9 (Ca 237 [.t 7, .t 8]), Op 10 (.un (.not) (.t 9))]
 (.cond (.t 10) (Rg [Op 6 (.move (.c (.bool false)))]
 (.ret))
 (.skip)))
 (Rg [Mv 11 0, Op 12 (.nilCheck (.t 11)), Op 13 (.fieldAddr 1 (.t 12)), Op 14 (.load false 1 (.t 13)), Mv 15 1, Op 16 (.bin (.sub) (.t 15) (Ci 1)), Op 17 (.build [.int (.i64) 0, .int (.i64) 0] []), Op 18 (.indexAddr 5 (.t 14) (.t 16)), Op 19 (.fieldAddr 2 (.t 18)), On (.store 2 (.t 19) (.t 17))]
 (Rg [Mv 20 0, Op 21 (.nilCheck (.t 20)), Op 22 (.fieldAddr 1 (.t 21)), Op 23 (.load false 1 (.t 22)), Mv 24 1, Op 25 (.bin (.sub) (.t 24) (Ci 1)), Op 26 (.indexAddr 5 (.t 23) (.t 25)), Op 27 (.fieldAddr 1 (.t 26)), On (.store 1 (.t 27) (Ci 3))]
 (.seq (Rg [Mv 28 2, Op 29 (.bin (.neq) (.t 28) (Ci 0))]
 (.cond (.t 29) (Rg [Mv 30 0, Op 31 (.nilCheck (.t 30)), Op 32 (.fieldAddr 1 (.t 31)), Op 33 (.load false 1 (.t 32)), Mv 34 1, Op 35 (.bin (.sub) (.t 34) (Ci 1)), Op 36 (.indexAddr 5 (.t 33) (.t 35)), Op 37 (.fieldAddr 1 (.t 36)), On (.store 1 (.t 37) (Ci 4))]
 (.region [Mv 38 0, Op 39 (.nilCheck (.t 38)), Op 40 (.fieldAddr 1 (.t 39)), Op 41 (.load false 1 (.t 40)), Mv 42 1, Op 43 (.bin (.sub) (.t 42) (Ci 1)), Mv 44 2, Op 45 (.indexAddr 5 (.t 41) (.t 43)), Op 46 (.fieldAddr 4 (.t 45)), On (.store 1 (.t 46) (.t 44))]))
 (.skip)))
 (Rg [Op 6 (.move (.c (.bool true)))]
 (.ret))))))⟩
theorem ok239 : compFunc prog glb 239 p239 = some c239 := by kernel_rfl
def p240 : List Plan := [⟨[(0, .quiet [0]), (3, .quiet [0]), (4, .quiet [0]), (5, .eff), (2, .quiet [0, 4]), (1, .quiet [0, 4]), (6, .quiet [4]), (7, .quiet [4]), (8, .eff)], 0, [0, 0, 0, 1, 9, 25, 63, 127, 255]⟩]
def c240 : CFunc := ⟨36, [.tmp 6],
 Rg [Op 5 (.box (.t 2)), Op 6 (.move (.c (.bool false)))]
 (.seq (Rg [Mv 8 0, Mv 9 1, Op 10 (Ca 67 [.t 8, .t 9]), Op 11 (.bin (.neq) (.t 10) (Ci 1)), Mv 12 11, Of 13 (.fieldAddr 0 (.t 5)) 12, Of 14 (.load false 1 (.t 13)) 12, Of 15 (.bin (.lss) (.t 14) (Ci 1)) 12, Op 16 (.pick (.t 12) (.c (.bool true)) (.t 15)), Mv 17 16, Of 18 (.fieldAddr 0 (.t 5)) 17, Of 19 (.load false 1 (.t 18)) 17, Of 20 (.bin (.gtr) (.t 19) (Ci 5)) 17, Op 21 (.pick (.t 17) (.c (.bool true)) (.t 20))]
 (.cond (.t 21) (Rg [Op 6 (.move (.c (.bool false)))]
 (.ret))
 (.skip)))
 (Rg [Mv 22 0, Op 23 (.nilCheck (.t 22)), Op 24 (.fieldAddr 2 (.t 23)), Op 25 (.load false 1 (.t 24)), Mv 26 1, Op 27 (.bin (.sub) (.t 26) (Ci 1)), Op 28 (.indexAddr 5 (.t 25) (.t 27)), Mv 7 28]
 (.seq (.draw [⟨0, Mv 29 7, (.quiet [0])⟩,
 ⟨3, Op 32 (.nilCheck (.t 29)), (.quiet [0])⟩,
 ⟨4, Op 33 (.fieldAddr 0 (.t 32)), (.quiet [0])⟩,
 ⟨5, On (.store 1 (.t 33) (Ci 2)), (.eff)⟩,
 ⟨2, Op 31 (.load true 2 (.t 5)), (.quiet [0, 4])⟩,
 ⟨1, Mv 30 7, (.quiet [0, 4])⟩,
 ⟨6, Op 34 (.nilCheck (.t 30)), (.quiet [4])⟩,
 ⟨7, Op 35 (.fieldAddr 2 (.t 34)), (.quiet [4])⟩,
 ⟨8, On (.store 2 (.t 35) (.t 31)), (.eff)⟩] 0)
 (Rg [Op 6 (.move (.c (.bool true)))]
 (.ret)))))⟩
theorem ok240 : compFunc prog glb 240 p240 = some c240 := by kernel_rfl
def p241 : List Plan := []
def c241 : CFunc := ⟨10, [.tmp 4],
 Rg [Op 4 (.move (Ci 0))]
 (Rg [Mv 5 0, Op 6 (.nilCheck (.t 5)), Op 7 (.fieldAddr 0 (.t 6)), Mv 8 1, Op 9 (.ext (Ext.atomicAdd (.i64)) [.t 7, .t 8]), Mv 4 9]
 (.ret))⟩
theorem ok241 : compFunc prog glb 241 p241 = some c241 := by kernel_rfl
def p242 : List Plan := []
def c242 : CFunc := ⟨12, [.tmp 4],
 Rg [Op 4 (.move (.c (.bool false)))]
 (Rg [Mv 5 1, Mv 6 0, Op 7 (.nilCheck (.t 6)), Op 8 (.fieldAddr 0 (.t 7)), Op 9 (.load false 1 (.t 8)), Op 10 (.len (.slice) (.t 9)), Op 11 (Ca 175 [.t 5, .t 10]), Mv 4 11]
 (.ret))⟩
theorem ok242 : compFunc prog glb 242 p242 = some c242 := by kernel_rfl
def p243 : List Plan := []
def c243 : CFunc := ⟨9, [.tmp 4],
 Rg [Op 4 (.move (.c (.bool false)))]
 (Rg [Mv 5 0, Mv 6 1, Op 7 (Ca 79 [.t 5, .t 6]), Op 8 (.bin (.geq) (.t 7) (Ci 0)), Mv 4 8]
 (.ret))⟩
theorem ok243 : compFunc prog glb 243 p243 = some c243 := by kernel_rfl
def p244 : List Plan := []
def c244 : CFunc := ⟨19, [.tmp 4],
 Rg [Op 4 (.move (Ci 0))]
 (.seq (Rg [Mv 6 0, Op 7 (.len (.slice) (.t 6)), Op 8 (.move (Ci 0))]
 (.block 0 (.loop (Rg [Op 9 (.bin (.lss) (.t 8) (.t 7))]
 (.seq (.cond (.t 9) (.skip)
 (.exit 0))
 (.seq (.block 1 (Rg [Mv 10 8, Mv 5 10]
 (Rg [Mv 11 1, Mv 12 0, Mv 13 5, Op 14 (.indexAddr 1 (.t 12) (.t 13)), Op 15 (.load false 1 (.t 14)), Op 16 (.bin (.eql) (.t 11) (.t 15))]
 (.cond (.t 16) (Rg [Mv 17 5, Mv 4 17]
 (.ret))
 (.skip)))))
 (.region [Op 18 (.bin (.add) (.t 8) (Ci 1)), Mv 8 18])))))))
 (Rg [Op 4 (.move (.c (.int (.i64) (-1))))]
 (.ret)))⟩
theorem ok244 : compFunc prog glb 244 p244 = some c244 := by kernel_rfl
def p245 : List Plan := []
def c245 : CFunc := ⟨13, [],
 .region [Mv 4 0, Mv 5 0, Op 6 (.nilCheck (.t 5)), Op 7 (.fieldAddr 0 (.t 6)), Op 8 (.load false 1 (.t 7)), Mv 9 1, Op 10 (.append 1 8 (.t 8) (.t 9)), Op 11 (.nilCheck (.t 4)), Op 12 (.fieldAddr 0 (.t 11)), On (.store 1 (.t 12) (.t 10))]⟩
theorem ok245 : compFunc prog glb 245 p245 = some c245 := by kernel_rfl
def p246 : List Plan := []
def c246 : CFunc := ⟨4, [],
 .region [Op 2 (.load false 1 (.t 0)), Op 3 (Ca 37 [.t 2]), On (.store 1 (.t 1) (.t 3))]⟩
theorem ok246 : compFunc prog glb 246 p246 = some c246 := by kernel_rfl
def p247 : List Plan := []
def c247 : CFunc := ⟨20, [.tmp 4, .tmp 5],
 Rg [Op 4 (.move (Ci 0)), Op 5 (.move (.c (.bool false)))]
 (.seq (Rg [Mv 6 0, Mv 7 1, Op 8 (Ca 68 [.t 6, .t 7]), Op 9 (.un (.not) (.t 8))]
 (.cond (.t 9) (Rg [Op 4 (.move (Ci 0)), Op 5 (.move (.c (.bool false)))]
 (.ret))
 (.skip)))
 (Rg [Mv 10 0, Op 11 (.nilCheck (.t 10)), Op 12 (.fieldAddr 2 (.t 11)), Mv 13 1, Op 14 (.buildSlice [.int (.i64) 0] 1 [(0, 1, .t 13)]), Op 15 (Ca 245 [.t 12, .t 14])]
 (Rg [Mv 16 0, Op 17 (Ca 70 [.t 16]), Op 18 (.extract (.t 17) 0), Op 19 (.extract (.t 17) 1), Mv 4 18, Mv 5 19]
 (.ret))))⟩
theorem ok247 : compFunc prog glb 247 p247 = some c247 := by kernel_rfl
def p248 : List Plan := []
def c248 : CFunc := ⟨8, [.tmp 2],
 Rg [Op 2 (.move (.c (.bool false)))]
 (Rg [Mv 3 0, Op 4 (.nilCheck (.t 3)), Op 5 (.fieldAddr 0 (.t 4)), Op 6 (.ext (Ext.atomicLoad (.u32)) [.t 5]), Op 7 (.bin (.neq) (.t 6) (.c (.int (.u32) 0))), Mv 2 7]
 (.ret))⟩
theorem ok248 : compFunc prog glb 248 p248 = some c248 := by kernel_rfl
def p249 : List Plan := []
def c249 : CFunc := ⟨21, [],
 Rg [Mv 4 0, Op 5 (.nilCheck (.t 4)), Op 6 (.fieldAddr 1 (.t 5)), Op 7 (Ca 270 [.t 6])]
 (Rg [Mv 8 0, Op 9 (.nilCheck (.t 8)), Op 10 (.fieldAddr 1 (.t 9)), On (.defer (.c (.func 271 [] [])) [.t 10])]
 (Rg [Mv 11 0, Op 12 (.nilCheck (.t 11)), Op 13 (.fieldAddr 0 (.t 12)), Op 14 (Ca 248 [.t 13]), Op 15 (.un (.not) (.t 14))]
 (.cond (.t 15) (Rg [Mv 16 0, Op 17 (.nilCheck (.t 16)), Op 18 (.fieldAddr 0 (.t 17)), On (.defer (.c (.func 272 [] [])) [.t 18, .c (.bool true)])]
 (.region [Mv 19 1, Op 20 (.call (.t 19) [])]))
 (.skip))))⟩
theorem ok249 : compFunc prog glb 249 p249 = some c249 := by kernel_rfl
def p250 : List Plan := []
def c250 : CFunc := ⟨6, [.tmp 4],
 Rg [Op 2 (.box (.t 0)), Op 3 (.box (.t 1)), Op 4 (.move (.c (.nilFunc)))]
 (Rg [Op 5 (.func 273 [] [.t 2, .t 3]), Mv 4 5]
 (.ret))⟩
theorem ok250 : compFunc prog glb 250 p250 = some c250 := by kernel_rfl
def p251 : List Plan := []
def c251 : CFunc := ⟨13, [.tmp 2],
 Rg [Op 2 (.move (.c (.nilSlice)))]
 (.seq (Rg [Mv 3 0, Op 4 (.eq (.ptr) false (.t 3) (.c (.nilPtr)))]
 (.cond (.t 4) (Rg [Op 2 (.move (.c (.nilSlice)))]
 (.ret))
 (.skip)))
 (Rg [Mv 5 0, Op 6 (Ca 145 [.t 5])]
 (Rg [Mv 7 0, Op 8 (.nilCheck (.t 7)), Op 9 (.fieldAddr 7 (.t 8)), Op 10 (.load false 1 (.t 9)), Op 11 (Ca 275 [.t 10]), Op 12 (Ca 274 [.t 11]), Mv 2 12]
 (.ret))))⟩
theorem ok251 : compFunc prog glb 251 p251 = some c251 := by kernel_rfl
def p252 : List Plan := []
def c252 : CFunc := ⟨17, [.tmp 6],
 Rg [Op 6 (.move (.c (.bool false)))]
 (Rg [Mv 10 0, Mv 11 1, Mv 12 2, Op 13 (Ca 276 [.t 10, .t 11, .t 12]), Mv 9 13, Op 14 (.extract (.t 9) 0), Op 15 (.extract (.t 9) 1), Mv 7 14, Mv 8 15]
 (Rg [Mv 16 8, Mv 6 16]
 (.ret)))⟩
theorem ok252 : compFunc prog glb 252 p252 = some c252 := by kernel_rfl
def p253 : List Plan := [⟨[(3, .quiet [0]), (2, .quiet [0]), (4, .eff), (5, .eff), (0, .quiet [0, 3, 4]), (1, .quiet [0, 3, 4]), (6, .eff), (7, .quiet [7]), (8, .eff)], 0, [0, 1, 0, 0, 12, 28, 63, 127, 255]⟩]
def c253 : CFunc := ⟨42, [.cell 4 true 8],
 Rg [Op 4 (.new [.int (.i64) 0, .int (.i64) 0, .str [], .nilSlice, .nilSlice, .nilSlice, .nilSlice, .nilSlice])]
 (Rg [Mv 7 0, Op 8 (Ca 154 [.t 7]), Op 5 (.new [.int (.i64) 0, .str []]), On (.store 2 (.t 5) (.t 8))]
 (Rg [Op 9 (.fieldAddr 0 (.t 5)), Op 10 (.load false 1 (.t 9)), Op 11 (.fieldAddr 1 (.t 5)), Op 12 (.load false 1 (.t 11)), Op 13 (.build [.int (.i64) 0, .int (.i64) 0, .str [], .nilSlice, .nilSlice, .nilSlice, .nilSlice, .nilSlice] [(1, 1, .t 10), (2, 1, .t 12)]), Op 6 (.new [.int (.i64) 0, .int (.i64) 0, .str [], .nilSlice, .nilSlice, .nilSlice, .nilSlice, .nilSlice]), On (.store 8 (.t 6) (.t 13))]
 (.seq (Rg [Mv 14 0, Op 15 (Ca 225 [.t 14, .c (.str [40])])]
 (.cond (.t 15) (Rg [Op 16 (.fieldAddr 0 (.t 6)), On (.store 1 (.t 16) (Ci 6))]
 (Rg [Mv 17 0, Mv 18 1, Op 19 (Ca 277 [.t 17, .t 18]), Op 20 (.fieldAddr 3 (.t 6)), On (.store 1 (.t 20) (.t 19))]
 (Rg [Op 21 (.load true 8 (.t 6)), On (.store 8 (.t 4) (.t 21))]
 (.ret))))
 (.skip)))
 (Rg [Op 22 (.fieldAddr 0 (.t 6)), On (.store 1 (.t 22) (Ci 2))]
 (.seq (Rg [Mv 23 0, Op 24 (Ca 225 [.t 23, .c (.str [91])])]
 (.cond (.t 24) (Rg [Op 25 (.fieldAddr 0 (.t 6)), On (.store 1 (.t 25) (Ci 3))]
 (.region [Mv 26 0, Mv 27 1, Op 28 (Ca 257 [.t 26, .t 27]), Op 29 (.buildSlice [.int (.i64) 0, .int (.i64) 0, .int (.i64) 0, .int (.i64) 0, .str [], .nilSlice] 1 [(0, 6, .t 28)]), Op 30 (.fieldAddr 3 (.t 6)), On (.store 1 (.t 30) (.t 29))]))
 (.skip)))
 (Rg [Mv 31 0, Op 32 (Ca 153 [.t 31, .c (.str [58, 61])])]
 (.seq (.draw [⟨3, Mv 36 1, (.quiet [0])⟩,
 ⟨2, Mv 35 0, (.quiet [0])⟩,
 ⟨4, Op 37 (Ca 254 [.t 35, Ci 1, .t 36]), (.eff)⟩,
 ⟨5, Op 38 (.buildSlice [.int (.i64) 0, .int (.i64) 0, .int (.i64) 0, .int (.i64) 0, .str [], .nilSlice] 1 [(0, 6, .t 37)]), (.eff)⟩,
 ⟨0, Op 33 (.fieldAddr 3 (.t 6)), (.quiet [0, 3, 4])⟩,
 ⟨1, Op 34 (.load false 1 (.t 33)), (.quiet [0, 3, 4])⟩,
 ⟨6, Op 39 (.append 6 72 (.t 34) (.t 38)), (.eff)⟩,
 ⟨7, Op 40 (.fieldAddr 3 (.t 6)), (.quiet [7])⟩,
 ⟨8, On (.store 1 (.t 40) (.t 39)), (.eff)⟩] 0)
 (Rg [Op 41 (.load true 8 (.t 6)), On (.store 8 (.t 4) (.t 41))]
 (.ret)))))))))⟩
theorem ok253 : compFunc prog glb 253 p253 = some c253 := by kernel_rfl
def p254 : List Plan := [⟨[(6, .quiet [0]), (4, .quiet [0]), (5, .quiet [0]), (3, .quiet [0]), (7, .eff), (2, .quiet [0, 5]), (8, .eff), (1, .quiet [0, 5, 7]), (0, .quiet [0, 5, 7]), (9, .quiet [7]), (10, .eff)], 0, [0, 0, 0, 0, 0, 16, 0, 120, 252, 511, 1023]⟩]
def c254 : CFunc := ⟨87, [.cell 6 true 6],
 Rg [Op 6 (.new [.int (.i64) 0, .int (.i64) 0, .int (.i64) 0, .int (.i64) 0, .str [], .nilSlice])]
 (.seq (Rg [Mv 11 0, Op 12 (Ca 162 [.t 11])]
 (.cond (.t 12) (Rg [Op 13 (.build [.int (.i64) 0, .int (.i64) 0, .int (.i64) 0, .int (.i64) 0, .str [], .nilSlice] []), On (.store 6 (.t 6) (.t 13))]
 (.ret))
 (.skip)))
 (.seq (Rg [Mv 14 1, Op 15 (.bin (.eql) (.t 14) (Ci 7))]
 (.cond (.t 15) (Rg [Mv 16 0, Mv 17 2, Op 18 (Ca 278 [.t 16, .t 17]), On (.store 6 (.t 6) (.t 18))]
 (.ret))
 (.skip)))
 (.seq (Rg [Mv 19 1, Op 20 (.bin (.eql) (.t 19) (Ci 3))]
 (.cond (.t 20) (.seq (Rg [Mv 21 0, Op 22 (Ca 225 [.t 21, .c (.str [110, 111, 116])]), Op 23 (.un (.not) (.t 22))]
 (.cond (.t 23) (Rg [Mv 24 0, Mv 25 2, Op 26 (Ca 254 [.t 24, Ci 4, .t 25]), On (.store 6 (.t 6) (.t 26))]
 (.ret))
 (.skip)))
 (Rg [Mv 27 0, Op 28 (Ca 160 [.t 27]), Op 29 (.part false 1 1 (.t 28)), Mv 7 29]
 (.seq (Rg [Mv 30 0, Mv 31 2, Op 32 (.bin (.add) (.t 31) (Ci 1)), Op 33 (Ca 279 [.t 30, .t 32]), Op 34 (.un (.not) (.t 33))]
 (.cond (.t 34) (Rg [Op 35 (.build [.int (.i64) 0, .int (.i64) 0, .int (.i64) 0, .int (.i64) 0, .str [], .nilSlice] []), On (.store 6 (.t 6) (.t 35))]
 (.ret))
 (.skip)))
 (Rg [Mv 36 0, Op 37 (.nilCheck (.t 36)), Op 38 (.fieldAddr 1 (.t 37)), Op 39 (.load false 1 (.t 38)), Op 40 (.bin (.add) (.t 39) (Ci 1)), Op 41 (.nilCheck (.t 36)), Op 42 (.fieldAddr 1 (.t 41)), On (.store 1 (.t 42) (.t 40))]
 (Rg [Mv 43 7, Mv 44 0, Mv 45 2, Op 46 (.bin (.add) (.t 45) (Ci 1)), Op 47 (Ca 254 [.t 44, Ci 3, .t 46]), Op 48 (.buildSlice [.int (.i64) 0, .int (.i64) 0, .int (.i64) 0, .int (.i64) 0, .str [], .nilSlice] 1 [(0, 6, .t 47)]), Op 49 (.build [.int (.i64) 0, .int (.i64) 0, .int (.i64) 0, .int (.i64) 0, .str [], .nilSlice] [(0, 1, Ci 5), (1, 1, .t 43), (3, 1, Ci 23), (5, 1, .t 48)]), On (.store 6 (.t 6) (.t 49))]
 (.ret))))))
 (.skip)))
 (Rg [Mv 50 0, Mv 51 1, Op 52 (.bin (.add) (.t 51) (Ci 1)), Mv 53 2, Op 54 (Ca 254 [.t 50, .t 52, .t 53]), Op 8 (.new [.int (.i64) 0, .int (.i64) 0, .int (.i64) 0, .int (.i64) 0, .str [], .nilSlice]), On (.store 6 (.t 8) (.t 54))]
 (.seq (Rg [Mv 55 0, Mv 56 1, Op 57 (Ca 280 [.t 55, .t 56]), Mv 9 57]
 (.block 0 (.loop (.seq (Rg [Mv 58 9, Op 59 (.bin (.neq) (.t 58) (Ci 0))]
 (.cond (.t 59) (.skip)
 (.exit 0)))
 (.seq (.block 1 (Rg [Mv 63 0, Op 64 (Ca 160 [.t 63]), Op 65 (.part false 1 1 (.t 64)), Mv 10 65]
 (Rg [Mv 66 0, Op 67 (.nilCheck (.t 66)), Op 68 (.fieldAddr 1 (.t 67)), Op 69 (.load false 1 (.t 68)), Op 70 (.bin (.add) (.t 69) (Ci 1)), Op 71 (.nilCheck (.t 66)), Op 72 (.fieldAddr 1 (.t 71)), On (.store 1 (.t 72) (.t 70))]
 (.seq (.draw [⟨6, Mv 79 2, (.quiet [0])⟩,
 ⟨4, Mv 77 1, (.quiet [0])⟩,
 ⟨5, Op 78 (.bin (.add) (.t 77) (Ci 1)), (.quiet [0])⟩,
 ⟨3, Mv 76 0, (.quiet [0])⟩,
 ⟨7, Op 80 (Ca 254 [.t 76, .t 78, .t 79]), (.eff)⟩,
 ⟨2, Op 75 (.load true 6 (.t 8)), (.quiet [0, 5])⟩,
 ⟨8, Op 81 (.buildSlice [.int (.i64) 0, .int (.i64) 0, .int (.i64) 0, .int (.i64) 0, .str [], .nilSlice] 2 [(0, 6, .t 75), (6, 6, .t 80)]), (.eff)⟩,
 ⟨1, Mv 74 9, (.quiet [0, 5, 7])⟩,
 ⟨0, Mv 73 10, (.quiet [0, 5, 7])⟩,
 ⟨9, Op 82 (.build [.int (.i64) 0, .int (.i64) 0, .int (.i64) 0, .int (.i64) 0, .str [], .nilSlice] [(0, 1, Ci 6), (1, 1, .t 73), (3, 1, .t 74), (5, 1, .t 81)]), (.quiet [7])⟩,
 ⟨10, On (.store 6 (.t 8) (.t 82)), (.eff)⟩] 0)
 (Rg [Mv 83 1, Op 84 (.bin (.eql) (.t 83) (Ci 4))]
 (.cond (.t 84) (Rg [Op 85 (.load true 6 (.t 8)), On (.store 6 (.t 6) (.t 85))]
 (.ret))
 (.skip)))))))
 (.region [Mv 60 0, Mv 61 1, Op 62 (Ca 280 [.t 60, .t 61]), Mv 9 62]))))))
 (Rg [Op 86 (.load true 6 (.t 8)), On (.store 6 (.t 6) (.t 86))]
 (.ret)))))))⟩
theorem ok254 : compFunc prog glb 254 p254 = some c254 := by kernel_rfl
def p255 : List Plan := []
def c255 : CFunc := ⟨29, [.tmp 6],
 Rg [Op 6 (.move (.c (.nilSlice)))]
 (.seq (Rg [Mv 7 0, Mv 8 1, Op 9 (Ca 225 [.t 7, .t 8]), Op 10 (.un (.not) (.t 9))]
 (.cond (.t 10) (Rg [Mv 11 0, Op 12 (Ca 161 [.t 11, Ci 14])]
 (Rg [Op 6 (.move (.c (.nilSlice)))]
 (.ret)))
 (.skip)))
 (.seq (Rg [Mv 13 0, Mv 14 2, Op 15 (.bin (.add) (.t 14) (Ci 1)), Op 16 (Ca 279 [.t 13, .t 15]), Op 17 (.un (.not) (.t 16))]
 (.cond (.t 17) (Rg [Op 6 (.move (.c (.nilSlice)))]
 (.ret))
 (.skip)))
 (Rg [Mv 18 0, Op 19 (.nilCheck (.t 18)), Op 20 (.fieldAddr 1 (.t 19)), Op 21 (.load false 1 (.t 20)), Op 22 (.bin (.add) (.t 21) (Ci 1)), Op 23 (.nilCheck (.t 18)), Op 24 (.fieldAddr 1 (.t 23)), On (.store 1 (.t 24) (.t 22))]
 (Rg [Mv 25 0, Mv 26 2, Op 27 (.bin (.add) (.t 26) (Ci 1)), Op 28 (Ca 159 [.t 25, .t 27]), Mv 6 28]
 (.ret)))))⟩
theorem ok255 : compFunc prog glb 255 p255 = some c255 := by kernel_rfl
def p256 : List Plan := [⟨[(5, .quiet [0]), (4, .quiet [0]), (6, .eff), (8, .alloc 0), (2, .quiet [0, 3]), (3, .quiet [0, 3]), (0, .quiet [0, 3]), (1, .quiet [0, 3]), (7, .quiet [3]), (9, .eff)], 1, [0, 1, 0, 4, 0, 0, 48, 127, 0, 511]⟩]
def c256 : CFunc := ⟨23, [.cell 4 true 4],
 Rg [Op 4 (.new [.int (.i64) 0, .str [], .nilSlice, .nilSlice])]
 (Rg [Mv 7 0, Op 8 (Ca 154 [.t 7]), Op 5 (.new [.int (.i64) 0, .str []]), On (.store 2 (.t 5) (.t 8))]
 (.seq (.draw [⟨5, Mv 14 1, (.quiet [0])⟩,
 ⟨4, Mv 13 0, (.quiet [0])⟩,
 ⟨6, Op 15 (Ca 277 [.t 13, .t 14]), (.eff)⟩,
 ⟨8, Op 6 (.new [.int (.i64) 0, .str [], .nilSlice, .nilSlice]), (.alloc 0)⟩,
 ⟨2, Op 11 (.fieldAddr 1 (.t 5)), (.quiet [0, 3])⟩,
 ⟨3, Op 12 (.load false 1 (.t 11)), (.quiet [0, 3])⟩,
 ⟨0, Op 9 (.fieldAddr 0 (.t 5)), (.quiet [0, 3])⟩,
 ⟨1, Op 10 (.load false 1 (.t 9)), (.quiet [0, 3])⟩,
 ⟨7, Op 16 (.build [.int (.i64) 0, .str [], .nilSlice, .nilSlice] [(0, 1, .t 10), (1, 1, .t 12), (2, 1, .t 15)]), (.quiet [3])⟩,
 ⟨9, On (.store 4 (.t 6) (.t 16)), (.eff)⟩] 1)
 (.seq (Rg [Mv 17 0, Op 18 (Ca 156 [.t 17, .c (.str [99, 108, 97, 105, 109, 115])])]
 (.cond (.t 18) (.region [Mv 19 0, Op 20 (Ca 158 [.t 19]), Op 21 (.fieldAddr 3 (.t 6)), On (.store 1 (.t 21) (.t 20))])
 (.skip)))
 (Rg [Op 22 (.load true 4 (.t 6)), On (.store 4 (.t 4) (.t 22))]
 (.ret)))))⟩
theorem ok256 : compFunc prog glb 256 p256 = some c256 := by kernel_rfl
def p257 : List Plan := []
def c257 : CFunc := ⟨33, [.cell 4 true 6],
 Rg [Op 4 (.new [.int (.i64) 0, .int (.i64) 0, .int (.i64) 0, .int (.i64) 0, .str [], .nilSlice])]
 (.seq (Rg [Mv 6 0, Op 7 (Ca 225 [.t 6, .c (.str [91])]), Op 8 (.un (.not) (.t 7)), Mv 9 8, Mf 10 0 9, Mf 11 1 9, Of 12 (.bin (.add) (.t 11) (Ci 1)) 9, Of 13 (Ca 279 [.t 10, .t 12]) 9, Of 14 (.un (.not) (.t 13)) 9, Op 15 (.pick (.t 9) (.c (.bool true)) (.t 14))]
 (.cond (.t 15) (Rg [Mv 16 0, Op 17 (Ca 161 [.t 16, Ci 14])]
 (Rg [Op 18 (.build [.int (.i64) 0, .int (.i64) 0, .int (.i64) 0, .int (.i64) 0, .str [], .nilSlice] []), On (.store 6 (.t 4) (.t 18))]
 (.ret)))
 (.skip)))
 (Rg [Mv 19 0, Op 20 (.nilCheck (.t 19)), Op 21 (.fieldAddr 1 (.t 20)), Op 22 (.load false 1 (.t 21)), Op 23 (.bin (.add) (.t 22) (Ci 1)), Op 24 (.nilCheck (.t 19)), Op 25 (.fieldAddr 1 (.t 24)), On (.store 1 (.t 25) (.t 23))]
 (Rg [Mv 26 0, Mv 27 1, Op 28 (.bin (.add) (.t 27) (Ci 1)), Op 29 (Ca 254 [.t 26, Ci 1, .t 28]), Op 5 (.new [.int (.i64) 0, .int (.i64) 0, .int (.i64) 0, .int (.i64) 0, .str [], .nilSlice]), On (.store 6 (.t 5) (.t 29))]
 (Rg [Mv 30 0, Op 31 (Ca 153 [.t 30, .c (.str [93])])]
 (Rg [Op 32 (.load true 6 (.t 5)), On (.store 6 (.t 4) (.t 32))]
 (.ret))))))⟩
theorem ok257 : compFunc prog glb 257 p257 = some c257 := by kernel_rfl
def p258 : List Plan := [⟨[(8, .quiet [0]), (4, .quiet [0]), (5, .quiet [0]), (6, .quiet [0]), (7, .quiet [0]), (0, .quiet [0]), (1, .quiet [0]), (2, .quiet [0]), (3, .quiet [0]), (9, .eff), (10, .quiet [10]), (11, .quiet [10]), (13, .quiet [10]), (12, .quiet [10]), (14, .quiet [10])], 0, [0, 1, 3, 7, 0, 16, 48, 112, 0, 511, 1023, 2047, 2047, 4095, 16383]⟩]
def c258 : CFunc := ⟨110, [],
 .seq (Rg [Mv 14 0, Op 15 (Ca 166 [.t 14])]
 (.cond (.t 15) (.ret)
 (.skip)))
 (.seq (.draw [⟨8, Mv 25 1, (.quiet [0])⟩,
 ⟨4, Mv 21 0, (.quiet [0])⟩,
 ⟨5, Op 22 (.nilCheck (.t 21)), (.quiet [0])⟩,
 ⟨6, Op 23 (.fieldAddr 1 (.t 22)), (.quiet [0])⟩,
 ⟨7, Op 24 (.load false 1 (.t 23)), (.quiet [0])⟩,
 ⟨0, Mv 17 0, (.quiet [0])⟩,
 ⟨1, Op 18 (.nilCheck (.t 17)), (.quiet [0])⟩,
 ⟨2, Op 19 (.fieldAddr 0 (.t 18)), (.quiet [0])⟩,
 ⟨3, Op 20 (.load false 1 (.t 19)), (.quiet [0])⟩,
 ⟨9, Op 26 (Ca 262 [.t 20, .t 24, .t 25]), (.eff)⟩,
 ⟨10, Mv 16 26, (.quiet [10])⟩,
 ⟨11, Op 27 (.extract (.t 16) 0), (.quiet [10])⟩,
 ⟨13, Mv 8 27, (.quiet [10])⟩,
 ⟨12, Op 28 (.extract (.t 16) 1), (.quiet [10])⟩,
 ⟨14, Mv 9 28, (.quiet [10])⟩] 0)
 (.seq (Rg [Mv 29 9]
 (.cond (.t 29) (.seq (Rg [Mv 30 3]
 (.cond (.t 30) (.region [Mv 31 0, Mv 32 2, Op 33 (Ca 228 [.t 31, Ci 19, .t 32])])
 (.skip)))
 (.ret))
 (.skip)))
 (Rg [Mv 35 0, Op 36 (.nilCheck (.t 35)), Op 37 (.fieldAddr 0 (.t 36)), Op 38 (.load false 1 (.t 37)), Mv 39 1, Op 40 (Ca 185 [.t 38, .t 39]), Mv 34 40, Op 41 (.extract (.t 34) 0), Op 42 (.extract (.t 34) 1), Op 10 (.new [.int (.i64) 0, .int (.i64) 0, .int (.i64) 0]), On (.store 3 (.t 10) (.t 41)), Mv 11 42]
 (Rg [Mv 44 0, Op 45 (.nilCheck (.t 44)), Op 46 (.fieldAddr 0 (.t 45)), Op 47 (.load false 1 (.t 46)), Mv 48 1, Op 49 (Ca 263 [.t 47, .t 48]), Mv 43 49, Op 50 (.extract (.t 43) 0), Op 51 (.extract (.t 43) 1), Mv 12 50, Mv 13 51]
 (.seq (Rg [Mv 52 11, Op 53 (.un (.not) (.t 52)), Mv 54 53, Mt 55 13 54, Ot 56 (.un (.not) (.t 55)) 54, Op 57 (.pick (.t 54) (.t 56) (.c (.bool false)))]
 (.cond (.t 57) (Rg [Mv 58 0, Mv 59 2, Op 60 (Ca 228 [.t 58, Ci 18, .t 59])]
 (.ret))
 (.skip)))
 (.seq (Rg [Mv 61 11, Op 62 (.un (.not) (.t 61)), Mv 63 62, Of 64 (.fieldAddr 0 (.t 10)) 63, Of 65 (.load false 1 (.t 64)) 63, Of 66 (Ca 165 [.t 65]) 63, Of 67 (.bin (.neq) (.t 66) (Ci 3)) 63, Op 68 (.pick (.t 63) (.c (.bool true)) (.t 67)), Mv 69 68, Of 70 (.fieldAddr 2 (.t 10)) 69, Of 71 (.load false 1 (.t 70)) 69, Of 72 (.bin (.gtr) (.t 71) (Ci 0)) 69, Mf 73 3 69, Of 74 (.eq (.bool) true (.t 72) (.t 73)) 69, Op 75 (.pick (.t 69) (.c (.bool true)) (.t 74))]
 (.cond (.t 75) (Rg [Mv 76 0, Mv 77 2, Op 78 (Ca 228 [.t 76, Ci 19, .t 77])]
 (.ret))
 (.skip)))
 (.seq (Rg [Op 79 (.fieldAddr 0 (.t 10)), Op 80 (.load false 1 (.t 79)), Op 81 (.bin (.eql) (.t 80) (Ci 3)), Mv 82 81, Mt 83 0 82, Ot 84 (.nilCheck (.t 83)) 82, Ot 85 (.fieldAddr 2 (.t 84)) 82, Ot 86 (.load false 1 (.t 85)) 82, Mt 87 1 82, Ot 88 (Ca 163 [.t 86, .t 87]) 82, Ot 89 (.un (.not) (.t 88)) 82, Op 90 (.pick (.t 82) (.t 89) (.c (.bool false)))]
 (.cond (.t 90) (Rg [Mv 91 0, Mv 92 2, Op 93 (Ca 228 [.t 91, Ci 22, .t 92])]
 (.ret))
 (.skip)))
 (Rg [Mv 94 0, Op 95 (.nilCheck (.t 94)), Op 96 (.fieldAddr 3 (.t 95)), Op 97 (.load false 1 (.t 96)), Op 98 (.bin (.neq) (.t 97) (.c (.str []))), Mv 99 98, Mt 100 0 99, Ot 101 (.nilCheck (.t 100)) 99, Ot 102 (.fieldAddr 3 (.t 101)) 99, Ot 103 (.load false 1 (.t 102)) 99, Mt 104 1 99, Ot 105 (.bin (.neq) (.t 103) (.t 104)) 99, Op 106 (.pick (.t 99) (.t 105) (.c (.bool false)))]
 (.cond (.t 106) (.region [Mv 107 0, Mv 108 2, Op 109 (Ca 228 [.t 107, Ci 23, .t 108])])
 (.skip))))))))))⟩
theorem ok258 : compFunc prog glb 258 p258 = some c258 := by kernel_rfl
def p259 : List Plan := []
def c259 : CFunc := ⟨15, [],
 Rg [Op 4 (.box (.t 1))]
 (Rg [Mv 6 0, Op 7 (.load true 6 (.t 4)), Op 8 (Ca 281 [.t 6, .t 7]), Mv 9 2, Op 10 (.bin (.neq) (.t 8) (.t 9))]
 (.cond (.t 10) (.region [Mv 11 0, Op 12 (.fieldAddr 1 (.t 4)), Op 13 (.load false 1 (.t 12)), Op 14 (Ca 228 [.t 11, Ci 21, .t 13])])
 (.skip)))⟩
theorem ok259 : compFunc prog glb 259 p259 = some c259 := by kernel_rfl
def p260 : List Plan := []
def c260 : CFunc := ⟨50, [],
 Rg [Mv 11 0, Mv 12 1, Mv 13 2, Op 14 (Ca 229 [.t 11, .t 12, .t 13, Ci 0])]
 (.seq (Rg [Mv 15 0, Op 16 (Ca 166 [.t 15])]
 (.cond (.t 16) (.ret)
 (.skip)))
 (Rg [Mv 18 0, Op 19 (.nilCheck (.t 18)), Op 20 (.fieldAddr 0 (.t 19)), Op 21 (.load false 1 (.t 20)), Mv 22 1, Op 23 (Ca 263 [.t 21, .t 22]), Mv 17 23, Op 24 (.extract (.t 17) 0), Op 25 (.extract (.t 17) 1), Mv 8 24, Mv 9 25]
 (.seq (Rg [Mv 26 3, Op 27 (.len (.slice) (.t 26)), Mv 28 0, Op 29 (.nilCheck (.t 28)), Op 30 (.fieldAddr 0 (.t 29)), Op 31 (.load false 1 (.t 30)), Mv 32 8, Op 33 (Ca 282 [.t 31, .t 32]), Op 34 (.bin (.neq) (.t 27) (.t 33))]
 (.cond (.t 34) (.region [Mv 35 0, Mv 36 2, Op 37 (Ca 228 [.t 35, Ci 20, .t 36])])
 (.skip)))
 (Rg [Op 10 (.move (Ci 0))]
 (.block 0 (.loop (.seq (Rg [Mv 38 10, Mv 39 3, Op 40 (.len (.slice) (.t 39)), Op 41 (.bin (.lss) (.t 38) (.t 40))]
 (.cond (.t 41) (.skip)
 (.exit 0)))
 (.seq (.block 1 (.region [Mv 44 0, Mv 45 3, Mv 46 10, Op 47 (.indexAddr 6 (.t 45) (.t 46)), Op 48 (.load true 6 (.t 47)), Op 49 (Ca 259 [.t 44, .t 48, Ci 1])]))
 (.region [Mv 42 10, Op 43 (.bin (.add) (.t 42) (Ci 1)), Mv 10 43])))))))))⟩
theorem ok260 : compFunc prog glb 260 p260 = some c260 := by kernel_rfl
def p261 : List Plan := [⟨[(4, .quiet [0]), (5, .quiet [0]), (0, .quiet [0]), (1, .quiet [0]), (2, .quiet [0]), (3, .quiet [0]), (6, .eff)], 0, [0, 1, 3, 7, 0, 16, 63]⟩, ⟨[(1, .eff), (2, .quiet [0, 1]), (3, .quiet [0, 1]), (4, .quiet [0, 1]), (5, .quiet [0, 1]), (6, .eff), (7, .quiet [0, 1, 6]), (8, .quiet [0, 1, 6]), (9, .alloc 0), (10, .eff), (0, .quiet [0, 1, 6, 10]), (11, .quiet [10]), (12, .quiet [10]), (13, .eff)], 1, [0, 0, 0, 4, 12, 28, 62, 0, 128, 384, 1022, 2047, 4095, 8191]⟩]
def c261 : CFunc := ⟨67, [],
 Rg [Op 3 (.box (.t 1))]
 (Rg [Mv 5 0, Op 6 (.fieldAddr 2 (.t 3)), Op 7 (.load false 1 (.t 6)), Op 8 (.fieldAddr 1 (.t 3)), Op 9 (.load false 1 (.t 8)), Op 10 (Ca 229 [.t 5, .t 7, .t 9, Ci 3])]
 (.seq (.seq (.draw [⟨4, Op 15 (.fieldAddr 2 (.t 3)), (.quiet [0])⟩,
 ⟨5, Op 16 (.load false 1 (.t 15)), (.quiet [0])⟩,
 ⟨0, Mv 11 0, (.quiet [0])⟩,
 ⟨1, Op 12 (.nilCheck (.t 11)), (.quiet [0])⟩,
 ⟨2, Op 13 (.fieldAddr 2 (.t 12)), (.quiet [0])⟩,
 ⟨3, Op 14 (.load false 1 (.t 13)), (.quiet [0])⟩,
 ⟨6, Op 17 (Ca 163 [.t 14, .t 16]), (.eff)⟩] 0)
 (.cond (.t 17) (.region [Mv 18 0, Op 19 (.fieldAddr 1 (.t 3)), Op 20 (.load false 1 (.t 19)), Op 21 (Ca 228 [.t 18, Ci 22, .t 20])])
 (.skip)))
 (.seq (Rg [Mv 22 0, Op 23 (Ca 166 [.t 22])]
 (.cond (.t 23) (.ret)
 (.skip)))
 (Rg [Mv 24 0, Op 25 (.nilCheck (.t 24)), Op 26 (.fieldAddr 2 (.t 25)), Op 27 (.load false 1 (.t 26)), Mv 4 27]
 (.seq (.draw [⟨1, Op 29 (.buildSlice [.str []] 0 []), (.eff)⟩,
 ⟨2, Mv 30 0, (.quiet [0, 1])⟩,
 ⟨3, Op 31 (.nilCheck (.t 30)), (.quiet [0, 1])⟩,
 ⟨4, Op 32 (.fieldAddr 2 (.t 31)), (.quiet [0, 1])⟩,
 ⟨5, Op 33 (.load false 1 (.t 32)), (.quiet [0, 1])⟩,
 ⟨6, Op 34 (.append 1 16 (.t 29) (.t 33)), (.eff)⟩,
 ⟨7, Op 35 (.fieldAddr 2 (.t 3)), (.quiet [0, 1, 6])⟩,
 ⟨8, Op 36 (.load false 1 (.t 35)), (.quiet [0, 1, 6])⟩,
 ⟨9, Op 37 (.buildSlice [.str []] 1 [(0, 1, .t 36)]), (.alloc 0)⟩,
 ⟨10, Op 38 (.append 1 16 (.t 34) (.t 37)), (.eff)⟩,
 ⟨0, Mv 28 0, (.quiet [0, 1, 6, 10])⟩,
 ⟨11, Op 39 (.nilCheck (.t 28)), (.quiet [10])⟩,
 ⟨12, Op 40 (.fieldAddr 2 (.t 39)), (.quiet [10])⟩,
 ⟨13, On (.store 1 (.t 40) (.t 38)), (.eff)⟩] 1)
 (.seq (Rg [Op 41 (.fieldAddr 3 (.t 3)), Op 42 (.load false 1 (.t 41)), Op 43 (.len (.slice) (.t 42)), Op 44 (.bin (.gtr) (.t 43) (Ci 0))]
 (.cond (.t 44) (Rg [Mv 45 0, Op 46 (.fieldAddr 2 (.t 3)), Op 47 (.load false 1 (.t 46)), Op 48 (.nilCheck (.t 45)), Op 49 (.fieldAddr 3 (.t 48)), On (.store 1 (.t 49) (.t 47))]
 (Rg [Mv 50 0, Op 51 (.fieldAddr 3 (.t 3)), Op 52 (.load false 1 (.t 51)), Op 53 (.indexAddr 6 (.t 52) (Ci 0)), Op 54 (.load true 6 (.t 53)), Op 55 (Ca 259 [.t 50, .t 54, Ci 2])]
 (.region [Mv 56 0, Op 57 (.nilCheck (.t 56)), Op 58 (.fieldAddr 3 (.t 57)), On (.store 1 (.t 58) (.c (.str [])))])))
 (.skip)))
 (Rg [Mv 59 0, Op 60 (.fieldAddr 4 (.t 3)), Op 61 (.load false 1 (.t 60)), Op 62 (Ca 167 [.t 59, .t 61])]
 (.region [Mv 63 0, Mv 64 4, Op 65 (.nilCheck (.t 63)), Op 66 (.fieldAddr 2 (.t 65)), On (.store 1 (.t 66) (.t 64))]))))))))⟩
theorem ok261 : compFunc prog glb 261 p261 = some c261 := by kernel_rfl
def p262 : List Plan := []
def c262 : CFunc := ⟨47, [.tmp 6, .tmp 7],
 Rg [Op 6 (.move (Ci 0)), Op 7 (.move (.c (.bool false)))]
 (.seq (Rg [Mv 9 1, Op 10 (.bin (.lss) (.t 9) (Ci 1)), Mv 11 10, Mf 12 1 11, Mf 13 0 11, Of 14 (.nilCheck (.t 13)) 11, Of 15 (.fieldAddr 4 (.t 14)) 11, Of 16 (.load false 1 (.t 15)) 11, Of 17 (.len (.slice) (.t 16)) 11, Of 18 (.bin (.gtr) (.t 12) (.t 17)) 11, Op 19 (.pick (.t 11) (.c (.bool true)) (.t 18))]
 (.cond (.t 19) (Rg [Op 6 (.move (Ci 0)), Op 7 (.move (.c (.bool false)))]
 (.ret))
 (.skip)))
 (.seq (Rg [Op 8 (.move (Ci 0))]
 (.block 0 (.loop (.seq (Rg [Mv 20 8, Mv 21 0, Op 22 (.nilCheck (.t 21)), Op 23 (.fieldAddr 4 (.t 22)), Op 24 (.load false 1 (.t 23)), Mv 25 1, Op 26 (.bin (.sub) (.t 25) (Ci 1)), Op 27 (.indexAddr 1 (.t 24) (.t 26)), Op 28 (.load false 1 (.t 27)), Op 29 (.len (.slice) (.t 28)), Op 30 (.bin (.lss) (.t 20) (.t 29))]
 (.cond (.t 30) (.skip)
 (.exit 0)))
 (.seq (.block 1 (Rg [Mv 33 0, Op 34 (.nilCheck (.t 33)), Op 35 (.fieldAddr 4 (.t 34)), Op 36 (.load false 1 (.t 35)), Mv 37 1, Op 38 (.bin (.sub) (.t 37) (Ci 1)), Op 39 (.indexAddr 1 (.t 36) (.t 38)), Op 40 (.load false 1 (.t 39)), Mv 41 8, Op 42 (.indexAddr 1 (.t 40) (.t 41)), Op 43 (.load false 1 (.t 42)), Mv 44 2, Op 45 (.bin (.eql) (.t 43) (.t 44))]
 (.cond (.t 45) (Rg [Mv 46 8, Mv 6 46, Op 7 (.move (.c (.bool true)))]
 (.ret))
 (.skip))))
 (.region [Mv 31 8, Op 32 (.bin (.add) (.t 31) (Ci 1)), Mv 8 32]))))))
 (Rg [Op 6 (.move (Ci 0)), Op 7 (.move (.c (.bool false)))]
 (.ret))))⟩
theorem ok262 : compFunc prog glb 262 p262 = some c262 := by kernel_rfl
def p263 : List Plan := []
def c263 : CFunc := ⟨27, [.tmp 4, .tmp 5],
 Rg [Op 4 (.move (Ci 0)), Op 5 (.move (.c (.bool false)))]
 (.seq (Rg [Op 6 (.move (Ci 0))]
 (.block 0 (.loop (.seq (Rg [Mv 7 6, Mv 8 0, Op 9 (.nilCheck (.t 8)), Op 10 (.fieldAddr 2 (.t 9)), Op 11 (.load false 1 (.t 10)), Op 12 (.len (.slice) (.t 11)), Op 13 (.bin (.lss) (.t 7) (.t 12))]
 (.cond (.t 13) (.skip)
 (.exit 0)))
 (.seq (.block 1 (Rg [Mv 16 0, Op 17 (.nilCheck (.t 16)), Op 18 (.fieldAddr 2 (.t 17)), Op 19 (.load false 1 (.t 18)), Mv 20 6, Op 21 (.indexAddr 1 (.t 19) (.t 20)), Op 22 (.load false 1 (.t 21)), Mv 23 1, Op 24 (.bin (.eql) (.t 22) (.t 23))]
 (.cond (.t 24) (Rg [Mv 25 6, Op 26 (.bin (.add) (.t 25) (Ci 1)), Mv 4 26, Op 5 (.move (.c (.bool true)))]
 (.ret))
 (.skip))))
 (.region [Mv 14 6, Op 15 (.bin (.add) (.t 14) (Ci 1)), Mv 6 15]))))))
 (Rg [Op 4 (.move (Ci 0)), Op 5 (.move (.c (.bool false)))]
 (.ret)))⟩
theorem ok263 : compFunc prog glb 263 p263 = some c263 := by kernel_rfl
def p265 : List Plan := []
def c265 : CFunc := ⟨25, [.tmp 4],
 Rg [Op 4 (.move (Ci 0))]
 (.seq (Rg [Mv 5 1, Op 6 (.bin (.lss) (.t 5) (Ci 1)), Mv 7 6, Mf 8 1 7, Mf 9 0 7, Of 10 (.nilCheck (.t 9)) 7, Of 11 (.fieldAddr 1 (.t 10)) 7, Of 12 (.load false 1 (.t 11)) 7, Of 13 (.len (.slice) (.t 12)) 7, Of 14 (.bin (.gtr) (.t 8) (.t 13)) 7, Op 15 (.pick (.t 7) (.c (.bool true)) (.t 14))]
 (.cond (.t 15) (Rg [Op 4 (.move (Ci 0))]
 (.ret))
 (.skip)))
 (Rg [Mv 16 0, Op 17 (.nilCheck (.t 16)), Op 18 (.fieldAddr 1 (.t 17)), Op 19 (.load false 1 (.t 18)), Mv 20 1, Op 21 (.bin (.sub) (.t 20) (Ci 1)), Op 22 (.indexAddr 5 (.t 19) (.t 21)), Op 23 (.fieldAddr 1 (.t 22)), Op 24 (.load false 1 (.t 23)), Mv 4 24]
 (.ret)))⟩
theorem ok265 : compFunc prog glb 265 p265 = some c265 := by kernel_rfl
def p266 : List Plan := []
def c266 : CFunc := ⟨25, [.tmp 4],
 Rg [Op 4 (.move (Ci 0))]
 (.seq (Rg [Op 5 (.move (Ci 0))]
 (.block 0 (.loop (.seq (Rg [Mv 6 5, Mv 7 0, Op 8 (.nilCheck (.t 7)), Op 9 (.fieldAddr 3 (.t 8)), Op 10 (.load false 1 (.t 9)), Op 11 (.len (.slice) (.t 10)), Op 12 (.bin (.lss) (.t 6) (.t 11))]
 (.cond (.t 12) (.skip)
 (.exit 0)))
 (.seq (.block 1 (Rg [Mv 15 0, Op 16 (.nilCheck (.t 15)), Op 17 (.fieldAddr 3 (.t 16)), Op 18 (.load false 1 (.t 17)), Mv 19 5, Op 20 (.indexAddr 1 (.t 18) (.t 19)), Op 21 (.load false 1 (.t 20)), Mv 22 1, Op 23 (.bin (.eql) (.t 21) (.t 22))]
 (.cond (.t 23) (Rg [Mv 24 5, Mv 4 24]
 (.ret))
 (.skip))))
 (.region [Mv 13 5, Op 14 (.bin (.add) (.t 13) (Ci 1)), Mv 5 14]))))))
 (Rg [Op 4 (.move (.c (.int (.i64) (-1))))]
 (.ret)))⟩
theorem ok266 : compFunc prog glb 266 p266 = some c266 := by kernel_rfl
def p267 : List Plan := [⟨[(5, .quiet [0]), (4, .quiet [0]), (6, .quiet [0]), (7, .quiet [0]), (1, .quiet [0]), (0, .quiet [0]), (2, .quiet [0]), (3, .quiet [0]), (8, .quiet [0])], 0, [0, 0, 3, 7, 0, 0, 48, 112, 255]⟩]
def c267 : CFunc := ⟨26, [.tmp 4],
 Rg [Op 4 (.move (.c (.bool false)))]
 (.seq (Rg [Mv 6 0, Op 7 (.len (.slice) (.t 6)), Mv 8 1, Op 9 (.len (.slice) (.t 8)), Op 10 (.bin (.neq) (.t 7) (.t 9))]
 (.cond (.t 10) (Rg [Op 4 (.move (.c (.bool false)))]
 (.ret))
 (.skip)))
 (.seq (Rg [Op 5 (.move (Ci 0))]
 (.block 0 (.loop (.seq (Rg [Mv 11 5, Mv 12 0, Op 13 (.len (.slice) (.t 12)), Op 14 (.bin (.lss) (.t 11) (.t 13))]
 (.cond (.t 14) (.skip)
 (.exit 0)))
 (.seq (.block 1 (.seq (.draw [⟨5, Mv 22 5, (.quiet [0])⟩,
 ⟨4, Mv 21 1, (.quiet [0])⟩,
 ⟨6, Op 23 (.indexAddr 1 (.t 21) (.t 22)), (.quiet [0])⟩,
 ⟨7, Op 24 (.load false 1 (.t 23)), (.quiet [0])⟩,
 ⟨1, Mv 18 5, (.quiet [0])⟩,
 ⟨0, Mv 17 0, (.quiet [0])⟩,
 ⟨2, Op 19 (.indexAddr 1 (.t 17) (.t 18)), (.quiet [0])⟩,
 ⟨3, Op 20 (.load false 1 (.t 19)), (.quiet [0])⟩,
 ⟨8, Op 25 (.bin (.gtr) (.t 20) (.t 24)), (.quiet [0])⟩] 0)
 (.cond (.t 25) (Rg [Op 4 (.move (.c (.bool false)))]
 (.ret))
 (.skip))))
 (.region [Mv 15 5, Op 16 (.bin (.add) (.t 15) (Ci 1)), Mv 5 16]))))))
 (Rg [Op 4 (.move (.c (.bool true)))]
 (.ret))))⟩
theorem ok267 : compFunc prog glb 267 p267 = some c267 := by kernel_rfl
def p270 : List Plan := []
def c270 : CFunc := ⟨6, [],
 .region [Mv 2 0, Op 3 (.nilCheck (.t 2)), Op 4 (.fieldAddr 0 (.t 3)), Op 5 (Ca 283 [.t 4])]⟩
theorem ok270 : compFunc prog glb 270 p270 = some c270 := by kernel_rfl
def p271 : List Plan := []
def c271 : CFunc := ⟨6, [],
 .region [Mv 2 0, Op 3 (.nilCheck (.t 2)), Op 4 (.fieldAddr 0 (.t 3)), Op 5 (Ca 284 [.t 4])]⟩
theorem ok271 : compFunc prog glb 271 p271 = some c271 := by kernel_rfl
def p272 : List Plan := [⟨[(3, .quiet [0]), (4, .eff), (0, .quiet [0, 2]), (1, .quiet [0, 2]), (2, .quiet [0, 2]), (5, .eff)], 0, [0, 1, 3, 0, 8, 31]⟩]
def c272 : CFunc := ⟨10, [],
 .draw [⟨3, Mv 7 1, (.quiet [0])⟩,
 ⟨4, Op 8 (Ca 286 [.t 7]), (.eff)⟩,
 ⟨0, Mv 4 0, (.quiet [0, 2])⟩,
 ⟨1, Op 5 (.nilCheck (.t 4)), (.quiet [0, 2])⟩,
 ⟨2, Op 6 (.fieldAddr 0 (.t 5)), (.quiet [0, 2])⟩,
 ⟨5, Op 9 (.ext (Ext.atomicStore (.u32)) [.t 6, .t 8]), (.eff)⟩] 0⟩
theorem ok272 : compFunc prog glb 272 p272 = some c272 := by kernel_rfl
def p273 : List Plan := [⟨[(6, .quiet [0]), (5, .quiet [0]), (7, .quiet [0]), (8, .quiet [0]), (2, .quiet [0]), (1, .quiet [0]), (3, .quiet [0]), (4, .quiet [0]), (0, .quiet [0]), (9, .eff), (10, .quiet [10])], 0, [0, 0, 0, 6, 14, 0, 0, 96, 224, 511, 1023]⟩]
def c273 : CFunc := ⟨25, [],
 Rg [Op 5 (.load false 1 (.t 1)), Op 6 (.len (.slice) (.t 5)), Op 7 (.load false 1 (.t 2)), Op 8 (.len (.slice) (.t 7)), Op 9 (.maxmin false (.t 6) [.t 8]), Op 10 (.move (Ci 0))]
 (.block 0 (.loop (Rg [Op 11 (.bin (.lss) (.t 10) (.t 9))]
 (.seq (.cond (.t 11) (.skip)
 (.exit 0))
 (.seq (.block 1 (Rg [Mv 12 10, Mv 4 12]
 (.seq (.draw [⟨6, Mv 19 4, (.quiet [0])⟩,
 ⟨5, Op 18 (.load false 1 (.t 2)), (.quiet [0])⟩,
 ⟨7, Op 20 (.indexAddr 1 (.t 18) (.t 19)), (.quiet [0])⟩,
 ⟨8, Op 21 (.load false 1 (.t 20)), (.quiet [0])⟩,
 ⟨2, Mv 15 4, (.quiet [0])⟩,
 ⟨1, Op 14 (.load false 1 (.t 1)), (.quiet [0])⟩,
 ⟨3, Op 16 (.indexAddr 1 (.t 14) (.t 15)), (.quiet [0])⟩,
 ⟨4, Op 17 (.load false 1 (.t 16)), (.quiet [0])⟩,
 ⟨0, Mv 13 0, (.quiet [0])⟩,
 ⟨9, Op 22 (.call (.t 13) [.t 17, .t 21]), (.eff)⟩,
 ⟨10, Op 23 (.un (.not) (.t 22)), (.quiet [10])⟩] 0)
 (.cond (.t 23) (.ret)
 (.skip)))))
 (.region [Op 24 (.bin (.add) (.t 10) (Ci 1)), Mv 10 24]))))))⟩
theorem ok273 : compFunc prog glb 273 p273 = some c273 := by kernel_rfl
def p276 : List Plan := []
def c276 : CFunc := ⟨40, [.tmp 6, .tmp 7],
 Rg [Op 6 (.move (.c (.nilSlice))), Op 7 (.move (.c (.bool false)))]
 (.scope (.seq (Rg [Mv 10 0, Mv 11 1, Mv 12 2, Op 13 (Ca 290 [.t 10, .t 11, .t 12]), Op 14 (.un (.not) (.t 13))]
 (.cond (.t 14) (Rg [Op 6 (.move (.c (.nilSlice))), Op 7 (.move (.c (.bool false)))]
 (.ret))
 (.skip)))
 (Rg [Mv 15 0, Mv 16 1, Mv 17 2, Op 18 (Ca 291 [.t 15, .t 16, .t 17]), Op 8 (.new [.nilSlice, .nilMap, .nilMap]), On (.store 3 (.t 8) (.t 18))]
 (.seq (.skip)
 (.seq (.block 0 (.loop (.seq (Rg [Op 19 (.fieldAddr 1 (.t 8)), Op 20 (.load false 1 (.t 19)), Op 21 (.len (.map) (.t 20)), Op 22 (.bin (.gtr) (.t 21) (Ci 0))]
 (.cond (.t 22) (.skip)
 (.exit 0)))
 (.block 1 (.seq (Rg [Mv 23 1, Op 24 (.len (.slice) (.t 23)), Op 25 (.move (Ci 0))]
 (.block 2 (.loop (Rg [Op 26 (.bin (.lss) (.t 25) (.t 24))]
 (.seq (.cond (.t 26) (.skip)
 (.exit 2))
 (.seq (.block 3 (Rg [Mv 27 25, Mv 9 27]
 (Rg [Op 28 (.load true 3 (.t 8)), Mv 29 9, Op 30 (Ca 292 [.t 28, .t 29])]
 (.cond (.t 30) (Rg [Op 31 (.load true 3 (.t 8)), Mv 32 9, Op 33 (Ca 293 [.t 31, .t 32])]
 (Rg [Mv 34 6, Mv 35 9, Op 36 (.buildSlice [.int (.i64) 0] 1 [(0, 1, .t 35)]), Op 37 (.append 1 8 (.t 34) (.t 36)), Mv 6 37]
 (.exit 1)))
 (.skip)))))
 (.region [Op 38 (.bin (.add) (.t 25) (Ci 1)), Mv 25 38])))))))
 (Rg [Op 6 (.move (.c (.nilSlice))), Op 7 (.move (.c (.bool false)))]
 (.ret)))))))
 (Rg [Mv 39 6, Mv 6 39, Op 7 (.move (.c (.bool true)))]
 (.ret)))))) [(0, .seq (.skip)
 (.seq (.block 0 (.loop (.seq (Rg [Op 19 (.fieldAddr 1 (.t 8)), Op 20 (.load false 1 (.t 19)), Op 21 (.len (.map) (.t 20)), Op 22 (.bin (.gtr) (.t 21) (Ci 0))]
 (.cond (.t 22) (.skip)
 (.exit 0)))
 (.block 1 (.seq (Rg [Mv 23 1, Op 24 (.len (.slice) (.t 23)), Op 25 (.move (Ci 0))]
 (.block 2 (.loop (Rg [Op 26 (.bin (.lss) (.t 25) (.t 24))]
 (.seq (.cond (.t 26) (.skip)
 (.exit 2))
 (.seq (.block 3 (Rg [Mv 27 25, Mv 9 27]
 (Rg [Op 28 (.load true 3 (.t 8)), Mv 29 9, Op 30 (Ca 292 [.t 28, .t 29])]
 (.cond (.t 30) (Rg [Op 31 (.load true 3 (.t 8)), Mv 32 9, Op 33 (Ca 293 [.t 31, .t 32])]
 (Rg [Mv 34 6, Mv 35 9, Op 36 (.buildSlice [.int (.i64) 0] 1 [(0, 1, .t 35)]), Op 37 (.append 1 8 (.t 34) (.t 36)), Mv 6 37]
 (.exit 1)))
 (.skip)))))
 (.region [Op 38 (.bin (.add) (.t 25) (Ci 1)), Mv 25 38])))))))
 (Rg [Op 6 (.move (.c (.nilSlice))), Op 7 (.move (.c (.bool false)))]
 (.ret)))))))
 (Rg [Mv 39 6, Mv 6 39, Op 7 (.move (.c (.bool true)))]
 (.ret))))])⟩
theorem ok276 : compFunc prog glb 276 p276 = some c276 := by kernel_rfl
def p277 : List Plan := []
def c277 : CFunc := ⟨30, [.tmp 4],
 Rg [Op 4 (.move (.c (.nilSlice)))]
 (Rg [Op 7 (.buildSlice [.int (.i64) 0, .int (.i64) 0, .int (.i64) 0, .int (.i64) 0, .str [], .nilSlice] 0 []), Mv 5 7]
 (Rg [Mv 8 0, Op 9 (Ca 153 [.t 8, .c (.str [40])])]
 (.seq (Rg [Mv 10 0, Op 11 (Ca 156 [.t 10, .c (.str [41])])]
 (.cond (.t 11) (Rg [Mv 12 5, Mv 4 12]
 (.ret))
 (.skip)))
 (.seq (Rg [Op 6 (.move (.c (.bool true)))]
 (.block 0 (.loop (.seq (Rg [Mv 13 6, Mv 14 13, Mt 15 0 14, Ot 16 (Ca 162 [.t 15]) 14, Ot 17 (.un (.not) (.t 16)) 14, Op 18 (.pick (.t 14) (.t 17) (.c (.bool false)))]
 (.cond (.t 18) (.skip)
 (.exit 0)))
 (.seq (.block 1 (.region [Mv 21 5, Mv 22 0, Mv 23 1, Op 24 (Ca 254 [.t 22, Ci 1, .t 23]), Op 25 (.buildSlice [.int (.i64) 0, .int (.i64) 0, .int (.i64) 0, .int (.i64) 0, .str [], .nilSlice] 1 [(0, 6, .t 24)]), Op 26 (.append 6 72 (.t 21) (.t 25)), Mv 5 26]))
 (.region [Mv 19 0, Op 20 (Ca 156 [.t 19, .c (.str [44])]), Mv 6 20]))))))
 (Rg [Mv 27 0, Op 28 (Ca 153 [.t 27, .c (.str [41])])]
 (Rg [Mv 29 5, Mv 4 29]
 (.ret)))))))⟩
theorem ok277 : compFunc prog glb 277 p277 = some c277 := by kernel_rfl
def p278 : List Plan := [⟨[(3, .quiet [0]), (4, .quiet [0]), (2, .quiet [0]), (5, .eff), (6, .eff), (0, .quiet [0, 4, 5]), (1, .quiet [0, 4, 5]), (7, .quiet [5]), (8, .eff)], 0, [0, 1, 0, 0, 8, 28, 60, 127, 255]⟩, ⟨[(5, .quiet [0]), (4, .quiet [0]), (6, .eff), (7, .eff), (2, .quiet [0, 3, 4]), (3, .quiet [0, 3, 4]), (0, .quiet [0, 3, 4]), (1, .quiet [0, 3, 4]), (8, .quiet [4]), (9, .eff)], 0, [0, 1, 0, 4, 0, 0, 48, 112, 255, 511]⟩]
def c278 : CFunc := ⟨115, [.cell 4 true 6],
 Rg [Op 4 (.new [.int (.i64) 0, .int (.i64) 0, .int (.i64) 0, .int (.i64) 0, .str [], .nilSlice])]
 (Rg [Mv 7 0, Op 8 (Ca 160 [.t 7]), Op 5 (.new [.int (.i64) 0, .int (.i64) 0, .int (.i64) 0, .str []]), On (.store 4 (.t 5) (.t 8))]
 (.seq (.block 0 (Rg [Mv 10 0, Op 11 (Ca 225 [.t 10, .c (.str [45])]), Mv 9 11]
 (.cond (.t 9) (.seq (Rg [Mv 12 0, Mv 13 1, Op 14 (.bin (.add) (.t 13) (Ci 1)), Op 15 (Ca 279 [.t 12, .t 14]), Op 16 (.un (.not) (.t 15))]
 (.cond (.t 16) (Rg [Op 17 (.build [.int (.i64) 0, .int (.i64) 0, .int (.i64) 0, .int (.i64) 0, .str [], .nilSlice] []), On (.store 6 (.t 4) (.t 17))]
 (.ret))
 (.skip)))
 (Rg [Mv 18 0, Op 19 (.nilCheck (.t 18)), Op 20 (.fieldAddr 1 (.t 19)), Op 21 (.load false 1 (.t 20)), Op 22 (.bin (.add) (.t 21) (Ci 1)), Op 23 (.nilCheck (.t 18)), Op 24 (.fieldAddr 1 (.t 23)), On (.store 1 (.t 24) (.t 22))]
 (.seq (.draw [⟨3, Mv 28 1, (.quiet [0])⟩,
 ⟨4, Op 29 (.bin (.add) (.t 28) (Ci 1)), (.quiet [0])⟩,
 ⟨2, Mv 27 0, (.quiet [0])⟩,
 ⟨5, Op 30 (Ca 278 [.t 27, .t 29]), (.eff)⟩,
 ⟨6, Op 31 (.buildSlice [.int (.i64) 0, .int (.i64) 0, .int (.i64) 0, .int (.i64) 0, .str [], .nilSlice] 1 [(0, 6, .t 30)]), (.eff)⟩,
 ⟨0, Op 25 (.fieldAddr 1 (.t 5)), (.quiet [0, 4, 5])⟩,
 ⟨1, Op 26 (.load false 1 (.t 25)), (.quiet [0, 4, 5])⟩,
 ⟨7, Op 32 (.build [.int (.i64) 0, .int (.i64) 0, .int (.i64) 0, .int (.i64) 0, .str [], .nilSlice] [(0, 1, Ci 5), (1, 1, .t 26), (3, 1, Ci 14), (5, 1, .t 31)]), (.quiet [5])⟩,
 ⟨8, On (.store 6 (.t 4) (.t 32)), (.eff)⟩] 0)
 (.ret))))
 (Rg [Op 34 (.fieldAddr 0 (.t 5)), Op 35 (.load false 1 (.t 34)), Op 36 (.bin (.eql) (.t 35) (Ci 2)), Mv 33 36]
 (.cond (.t 33) (Rg [Mv 37 0, Op 38 (.nilCheck (.t 37)), Op 39 (.fieldAddr 1 (.t 38)), Op 40 (.load false 1 (.t 39)), Op 41 (.bin (.add) (.t 40) (Ci 1)), Op 42 (.nilCheck (.t 37)), Op 43 (.fieldAddr 1 (.t 42)), On (.store 1 (.t 43) (.t 41))]
 (Rg [Op 44 (.fieldAddr 1 (.t 5)), Op 45 (.load false 1 (.t 44)), Op 46 (.fieldAddr 2 (.t 5)), Op 47 (.load false 1 (.t 46)), Op 48 (.build [.int (.i64) 0, .int (.i64) 0, .int (.i64) 0, .int (.i64) 0, .str [], .nilSlice] [(0, 1, Ci 1), (1, 1, .t 45), (2, 1, .t 47)]), On (.store 6 (.t 4) (.t 48))]
 (.ret)))
 (Rg [Mv 50 0, Op 51 (Ca 156 [.t 50, .c (.str [116, 114, 117, 101])]), Mv 49 51]
 (.cond (.t 49) (Rg [Op 52 (.fieldAddr 1 (.t 5)), Op 53 (.load false 1 (.t 52)), Op 54 (.build [.int (.i64) 0, .int (.i64) 0, .int (.i64) 0, .int (.i64) 0, .str [], .nilSlice] [(0, 1, Ci 2), (1, 1, .t 53), (2, 1, Ci 1)]), On (.store 6 (.t 4) (.t 54))]
 (.ret))
 (Rg [Mv 56 0, Op 57 (Ca 156 [.t 56, .c (.str [102, 97, 108, 115, 101])]), Mv 55 57]
 (.cond (.t 55) (Rg [Op 58 (.fieldAddr 1 (.t 5)), Op 59 (.load false 1 (.t 58)), Op 60 (.build [.int (.i64) 0, .int (.i64) 0, .int (.i64) 0, .int (.i64) 0, .str [], .nilSlice] [(0, 1, Ci 2), (1, 1, .t 59)]), On (.store 6 (.t 4) (.t 60))]
 (.ret))
 (Rg [Mv 62 0, Op 63 (Ca 225 [.t 62, .c (.str [40])]), Mv 61 63]
 (.cond (.t 61) (.seq (Rg [Mv 64 0, Mv 65 1, Op 66 (.bin (.add) (.t 65) (Ci 1)), Op 67 (Ca 279 [.t 64, .t 66]), Op 68 (.un (.not) (.t 67))]
 (.cond (.t 68) (Rg [Op 69 (.build [.int (.i64) 0, .int (.i64) 0, .int (.i64) 0, .int (.i64) 0, .str [], .nilSlice] []), On (.store 6 (.t 4) (.t 69))]
 (.ret))
 (.skip)))
 (Rg [Mv 70 0, Op 71 (.nilCheck (.t 70)), Op 72 (.fieldAddr 1 (.t 71)), Op 73 (.load false 1 (.t 72)), Op 74 (.bin (.add) (.t 73) (Ci 1)), Op 75 (.nilCheck (.t 70)), Op 76 (.fieldAddr 1 (.t 75)), On (.store 1 (.t 76) (.t 74))]
 (Rg [Mv 77 0, Mv 78 1, Op 79 (.bin (.add) (.t 78) (Ci 1)), Op 80 (Ca 254 [.t 77, Ci 1, .t 79]), Op 6 (.new [.int (.i64) 0, .int (.i64) 0, .int (.i64) 0, .int (.i64) 0, .str [], .nilSlice]), On (.store 6 (.t 6) (.t 80))]
 (Rg [Mv 81 0, Op 82 (Ca 153 [.t 81, .c (.str [41])])]
 (Rg [Op 83 (.load true 6 (.t 6)), On (.store 6 (.t 4) (.t 83))]
 (.ret))))))
 (Rg [Op 85 (.fieldAddr 0 (.t 5)), Op 86 (.load false 1 (.t 85)), Op 87 (.bin (.eql) (.t 86) (Ci 1)), Mv 84 87]
 (.cond (.t 84) (Rg [Mv 88 0, Op 89 (.nilCheck (.t 88)), Op 90 (.fieldAddr 1 (.t 89)), Op 91 (.load false 1 (.t 90)), Op 92 (.bin (.add) (.t 91) (Ci 1)), Op 93 (.nilCheck (.t 88)), Op 94 (.fieldAddr 1 (.t 93)), On (.store 1 (.t 94) (.t 92))]
 (.seq (Rg [Mv 95 0, Op 96 (Ca 225 [.t 95, .c (.str [91])]), Op 97 (.un (.not) (.t 96))]
 (.cond (.t 97) (Rg [Op 98 (.fieldAddr 1 (.t 5)), Op 99 (.load false 1 (.t 98)), Op 100 (.fieldAddr 3 (.t 5)), Op 101 (.load false 1 (.t 100)), Op 102 (.build [.int (.i64) 0, .int (.i64) 0, .int (.i64) 0, .int (.i64) 0, .str [], .nilSlice] [(0, 1, Ci 3), (1, 1, .t 99), (4, 1, .t 101)]), On (.store 6 (.t 4) (.t 102))]
 (.ret))
 (.skip)))
 (.seq (.draw [⟨5, Mv 108 1, (.quiet [0])⟩,
 ⟨4, Mv 107 0, (.quiet [0])⟩,
 ⟨6, Op 109 (Ca 257 [.t 107, .t 108]), (.eff)⟩,
 ⟨7, Op 110 (.buildSlice [.int (.i64) 0, .int (.i64) 0, .int (.i64) 0, .int (.i64) 0, .str [], .nilSlice] 1 [(0, 6, .t 109)]), (.eff)⟩,
 ⟨2, Op 105 (.fieldAddr 3 (.t 5)), (.quiet [0, 3, 4])⟩,
 ⟨3, Op 106 (.load false 1 (.t 105)), (.quiet [0, 3, 4])⟩,
 ⟨0, Op 103 (.fieldAddr 1 (.t 5)), (.quiet [0, 3, 4])⟩,
 ⟨1, Op 104 (.load false 1 (.t 103)), (.quiet [0, 3, 4])⟩,
 ⟨8, Op 111 (.build [.int (.i64) 0, .int (.i64) 0, .int (.i64) 0, .int (.i64) 0, .str [], .nilSlice] [(0, 1, Ci 4), (1, 1, .t 104), (4, 1, .t 106), (5, 1, .t 110)]), (.quiet [4])⟩,
 ⟨9, On (.store 6 (.t 4) (.t 111)), (.eff)⟩] 0)
 (.ret))))
 (.skip))))))))))))))
 (Rg [Mv 112 0, Op 113 (Ca 161 [.t 112, Ci 14])]
 (Rg [Op 114 (.build [.int (.i64) 0, .int (.i64) 0, .int (.i64) 0, .int (.i64) 0, .str [], .nilSlice] []), On (.store 6 (.t 4) (.t 114))]
 (.ret)))))⟩
theorem ok278 : compFunc prog glb 278 p278 = some c278 := by kernel_rfl
def p279 : List Plan := []
def c279 : CFunc := ⟨12, [.tmp 4],
 Rg [Op 4 (.move (.c (.bool false)))]
 (.seq (Rg [Mv 5 1, Op 6 (.bin (.gtr) (.t 5) (Ci 24))]
 (.cond (.t 6) (.region [Mv 7 0, Op 8 (Ca 161 [.t 7, Ci 15])])
 (.skip)))
 (Rg [Mv 9 0, Op 10 (Ca 162 [.t 9]), Op 11 (.un (.not) (.t 10)), Mv 4 11]
 (.ret)))⟩
theorem ok279 : compFunc prog glb 279 p279 = some c279 := by kernel_rfl
def p280 : List Plan := [⟨[(3, .quiet [0]), (4, .quiet [0]), (0, .quiet [0]), (1, .quiet [0]), (2, .quiet [0]), (5, .quiet [0]), (6, .quiet [0]), (10, .quiet [0]), (7, .quiet [0]), (8, .quiet [0]), (9, .quiet [0]), (11, .quiet [0]), (12, .quiet [0])], 0, [0, 1, 3, 0, 8, 31, 63, 127, 255, 511, 127, 2047, 4095]⟩]
def c280 : CFunc := ⟨47, [.tmp 4],
 Rg [Op 4 (.move (Ci 0))]
 (Rg [Mv 10 0, Op 11 (Ca 160 [.t 10]), Op 5 (.new [.int (.i64) 0, .int (.i64) 0, .int (.i64) 0, .str []]), On (.store 4 (.t 5) (.t 11))]
 (.seq (Rg [Mv 12 0, Op 13 (Ca 162 [.t 12]), Mv 14 13, Of 15 (.fieldAddr 0 (.t 5)) 14, Of 16 (.load false 1 (.t 15)) 14, Of 17 (.bin (.neq) (.t 16) (Ci 4)) 14, Mf 18 17 14, Ot 19 (.fieldAddr 0 (.t 5)) 18, Ot 20 (.load false 1 (.t 19)) 18, Ot 21 (.bin (.neq) (.t 20) (Ci 3)) 18, Of 22 (.pick (.t 18) (.t 21) (.c (.bool false))) 14, Op 23 (.pick (.t 14) (.c (.bool true)) (.t 22))]
 (.cond (.t 23) (Rg [Op 4 (.move (Ci 0))]
 (.ret))
 (.skip)))
 (Rg [Op 24 (.build [.str [], .str [], .str [], .str [], .str [], .str [], .str [], .str [], .str [], .str [], .str [], .str [], .str []] [(0, 1, .c (.str [111, 114])), (1, 1, .c (.str [97, 110, 100])), (2, 1, .c (.str [61])), (3, 1, .c (.str [60, 62])), (4, 1, .c (.str [60])), (5, 1, .c (.str [60, 61])), (6, 1, .c (.str [62])), (7, 1, .c (.str [62, 61])), (8, 1, .c (.str [43])), (9, 1, .c (.str [45])), (10, 1, .c (.str [42])), (11, 1, .c (.str [47])), (12, 1, .c (.str [37]))]), Op 6 (.new [.str [], .str [], .str [], .str [], .str [], .str [], .str [], .str [], .str [], .str [], .str [], .str [], .str []]), On (.store 13 (.t 6) (.t 24))]
 (Rg [Op 25 (.build [.int (.i64) 0, .int (.i64) 0, .int (.i64) 0, .int (.i64) 0, .int (.i64) 0, .int (.i64) 0, .int (.i64) 0, .int (.i64) 0, .int (.i64) 0, .int (.i64) 0, .int (.i64) 0, .int (.i64) 0, .int (.i64) 0] [(0, 1, Ci 1), (1, 1, Ci 2), (2, 1, Ci 4), (3, 1, Ci 4), (4, 1, Ci 4), (5, 1, Ci 4), (6, 1, Ci 4), (7, 1, Ci 4), (8, 1, Ci 5), (9, 1, Ci 5), (10, 1, Ci 6), (11, 1, Ci 6), (12, 1, Ci 6)]), Op 7 (.new [.int (.i64) 0, .int (.i64) 0, .int (.i64) 0, .int (.i64) 0, .int (.i64) 0, .int (.i64) 0, .int (.i64) 0, .int (.i64) 0, .int (.i64) 0, .int (.i64) 0, .int (.i64) 0, .int (.i64) 0, .int (.i64) 0]), On (.store 13 (.t 7) (.t 25))]
 (Rg [Op 26 (.build [.int (.i64) 0, .int (.i64) 0, .int (.i64) 0, .int (.i64) 0, .int (.i64) 0, .int (.i64) 0, .int (.i64) 0, .int (.i64) 0, .int (.i64) 0, .int (.i64) 0, .int (.i64) 0, .int (.i64) 0, .int (.i64) 0] [(0, 1, Ci 22), (1, 1, Ci 21), (2, 1, Ci 15), (3, 1, Ci 16), (4, 1, Ci 17), (5, 1, Ci 18), (6, 1, Ci 19), (7, 1, Ci 20), (8, 1, Ci 9), (9, 1, Ci 10), (10, 1, Ci 11), (11, 1, Ci 12), (12, 1, Ci 13)]), Op 8 (.new [.int (.i64) 0, .int (.i64) 0, .int (.i64) 0, .int (.i64) 0, .int (.i64) 0, .int (.i64) 0, .int (.i64) 0, .int (.i64) 0, .int (.i64) 0, .int (.i64) 0, .int (.i64) 0, .int (.i64) 0, .int (.i64) 0]), On (.store 13 (.t 8) (.t 26))]
 (.seq (Rg [Op 9 (.move (Ci 0))]
 (.block 0 (.loop (.seq (Rg [Mv 27 9, Op 28 (.bin (.lss) (.t 27) (Ci 13))]
 (.cond (.t 28) (.skip)
 (.exit 0)))
 (.seq (.block 1 (.seq (.draw [⟨3, Op 34 (.fieldAddr 3 (.t 5)), (.quiet [0])⟩,
 ⟨4, Op 35 (.load false 1 (.t 34)), (.quiet [0])⟩,
 ⟨0, Mv 31 9, (.quiet [0])⟩,
 ⟨1, Op 32 (.indexAddrArr 13 1 (.t 6) (.t 31)), (.quiet [0])⟩,
 ⟨2, Op 33 (.load false 1 (.t 32)), (.quiet [0])⟩,
 ⟨5, Op 36 (.bin (.eql) (.t 33) (.t 35)), (.quiet [0])⟩,
 ⟨6, Mv 37 36, (.quiet [0])⟩,
 ⟨10, Mt 41 1 37, (.quiet [0])⟩,
 ⟨7, Mt 38 9 37, (.quiet [0])⟩,
 ⟨8, Ot 39 (.indexAddrArr 13 1 (.t 7) (.t 38)) 37, (.quiet [0])⟩,
 ⟨9, Ot 40 (.load false 1 (.t 39)) 37, (.quiet [0])⟩,
 ⟨11, Ot 42 (.bin (.eql) (.t 40) (.t 41)) 37, (.quiet [0])⟩,
 ⟨12, Op 43 (.pick (.t 37) (.t 42) (.c (.bool false))), (.quiet [0])⟩] 0)
 (.cond (.t 43) (Rg [Mv 44 9, Op 45 (.indexAddrArr 13 1 (.t 8) (.t 44)), Op 46 (.load false 1 (.t 45)), Mv 4 46]
 (.ret))
 (.skip))))
 (.region [Mv 29 9, Op 30 (.bin (.add) (.t 29) (Ci 1)), Mv 9 30]))))))
 (Rg [Op 4 (.move (Ci 0))]
 (.ret))))))))⟩
theorem ok280 : compFunc prog glb 280 p280 = some c280 := by kernel_rfl
def p281 : List Plan := []
def c281 : CFunc := ⟨72, [.tmp 4],
 Rg [Op 3 (.box (.t 1)), Op 4 (.move (Ci 0))]
 (.seq (Rg [Op 7 (.fieldAddr 0 (.t 3)), Op 8 (.load false 1 (.t 7))]
 (.block 0 (Rg [Op 10 (.bin (.eql) (.t 8) (Ci 2)), Mv 9 10]
 (.cond (.t 9) (Rg [Op 4 (.move (Ci 2))]
 (.ret))
 (Rg [Op 12 (.bin (.eql) (.t 8) (Ci 3)), Mv 11 12]
 (.cond (.t 11) (.region [Mv 13 0, Op 14 (.fieldAddr 4 (.t 3)), Op 15 (.load false 1 (.t 14)), Op 16 (.fieldAddr 1 (.t 3)), Op 17 (.load false 1 (.t 16)), Op 18 (Ca 258 [.t 13, .t 15, .t 17, .c (.bool false)])])
 (Rg [Op 20 (.bin (.eql) (.t 8) (Ci 4)), Mv 19 20]
 (.cond (.t 19) (Rg [Mv 21 0, Op 22 (.fieldAddr 4 (.t 3)), Op 23 (.load false 1 (.t 22)), Op 24 (.fieldAddr 1 (.t 3)), Op 25 (.load false 1 (.t 24)), Op 26 (Ca 258 [.t 21, .t 23, .t 25, .c (.bool true)])]
 (.region [Mv 27 0, Op 28 (.fieldAddr 5 (.t 3)), Op 29 (.load false 1 (.t 28)), Op 30 (.indexAddr 6 (.t 29) (Ci 0)), Op 31 (.load true 6 (.t 30)), Op 32 (Ca 259 [.t 27, .t 31, Ci 1])]))
 (.seq (Rg [Op 34 (.bin (.eql) (.t 8) (Ci 5)), Mv 33 34]
 (.cond (.t 33) (.skip)
 (.region [Op 35 (.bin (.eql) (.t 8) (Ci 6)), Mv 33 35])))
 (.cond (.t 33) (Rg [Op 5 (.move (Ci 1))]
 (.seq (Rg [Op 36 (.fieldAddr 3 (.t 3)), Op 37 (.load false 1 (.t 36)), Op 38 (.bin (.eql) (.t 37) (Ci 23)), Mv 39 38, Of 40 (.fieldAddr 3 (.t 3)) 39, Of 41 (.load false 1 (.t 40)) 39, Of 42 (.bin (.eql) (.t 41) (Ci 21)) 39, Op 43 (.pick (.t 39) (.c (.bool true)) (.t 42)), Mv 44 43, Of 45 (.fieldAddr 3 (.t 3)) 44, Of 46 (.load false 1 (.t 45)) 44, Of 47 (.bin (.eql) (.t 46) (Ci 22)) 44, Op 48 (.pick (.t 44) (.c (.bool true)) (.t 47))]
 (.cond (.t 48) (.region [Op 5 (.move (Ci 2))])
 (.skip)))
 (.seq (Rg [Op 6 (.move (Ci 0))]
 (.block 1 (.loop (.seq (Rg [Mv 49 6, Op 50 (.fieldAddr 5 (.t 3)), Op 51 (.load false 1 (.t 50)), Op 52 (.len (.slice) (.t 51)), Op 53 (.bin (.lss) (.t 49) (.t 52))]
 (.cond (.t 53) (.skip)
 (.exit 1)))
 (.seq (.block 2 (.region [Mv 56 0, Op 57 (.fieldAddr 5 (.t 3)), Op 58 (.load false 1 (.t 57)), Mv 59 6, Op 60 (.indexAddr 6 (.t 58) (.t 59)), Op 61 (.load true 6 (.t 60)), Mv 62 5, Op 63 (Ca 259 [.t 56, .t 61, .t 62])]))
 (.region [Mv 54 6, Op 55 (.bin (.add) (.t 54) (Ci 1)), Mv 6 55]))))))
 (Rg [Op 64 (.fieldAddr 3 (.t 3)), Op 65 (.load false 1 (.t 64)), Op 66 (.bin (.geq) (.t 65) (Ci 15)), Mv 67 66, Ot 68 (.fieldAddr 3 (.t 3)) 67, Ot 69 (.load false 1 (.t 68)) 67, Ot 70 (.bin (.leq) (.t 69) (Ci 23)) 67, Op 71 (.pick (.t 67) (.t 70) (.c (.bool false)))]
 (.cond (.t 71) (Rg [Op 4 (.move (Ci 2))]
 (.ret))
 (.skip))))))
 (.skip)))))))))))
 (Rg [Op 4 (.move (Ci 1))]
 (.ret)))⟩
theorem ok281 : compFunc prog glb 281 p281 = some c281 := by kernel_rfl
def p282 : List Plan := []
def c282 : CFunc := ⟨24, [.tmp 4],
 Rg [Op 4 (.move (Ci 0))]
 (.seq (Rg [Mv 5 1, Op 6 (.bin (.lss) (.t 5) (Ci 1)), Mv 7 6, Mf 8 1 7, Mf 9 0 7, Of 10 (.nilCheck (.t 9)) 7, Of 11 (.fieldAddr 3 (.t 10)) 7, Of 12 (.load false 1 (.t 11)) 7, Of 13 (.len (.slice) (.t 12)) 7, Of 14 (.bin (.gtr) (.t 8) (.t 13)) 7, Op 15 (.pick (.t 7) (.c (.bool true)) (.t 14))]
 (.cond (.t 15) (Rg [Op 4 (.move (Ci 0))]
 (.ret))
 (.skip)))
 (Rg [Mv 16 0, Op 17 (.nilCheck (.t 16)), Op 18 (.fieldAddr 3 (.t 17)), Op 19 (.load false 1 (.t 18)), Mv 20 1, Op 21 (.bin (.sub) (.t 20) (Ci 1)), Op 22 (.indexAddr 1 (.t 19) (.t 21)), Op 23 (.load false 1 (.t 22)), Mv 4 23]
 (.ret)))⟩
theorem ok282 : compFunc prog glb 282 p282 = some c282 := by kernel_rfl
def p283 : List Plan := []
def c283 : CFunc := ⟨13, [],
 Rg [Op 2 (.ext (Ext.mark0) [])]
 (.seq (Rg [Mv 3 0, Op 4 (.nilCheck (.t 3)), Op 5 (.fieldAddr 0 (.t 4)), Op 6 (.ext (Ext.atomicCas (.i32)) [.t 5, .c (.int (.i32) 0), .c (.int (.i32) 1)])]
 (.cond (.t 6) (.seq (.cond (.c (.bool true)) (Rg [Op 7 (.ext (Ext.mark0) [])]
 (.region [Mv 8 0, Op 9 (.ext (Ext.uptr) [.t 8]), Op 10 (.ext (Ext.mark1) [.t 9])]))
 (.skip))
 (.ret))
 (.skip)))
 (.region [Mv 11 0, Op 12 (Ca 298 [.t 11])]))⟩
theorem ok283 : compFunc prog glb 283 p283 = some c283 := by kernel_rfl
def p284 : List Plan := []
def c284 : CFunc := ⟨21, [],
 .seq (.cond (.c (.bool true)) (Rg [Mv 3 0, Op 4 (.nilCheck (.t 3)), Op 5 (.fieldAddr 0 (.t 4)), Op 6 (.load false 1 (.t 5))]
 (Rg [Mv 7 0, Op 8 (.ext (Ext.uptr) [.t 7]), Op 9 (.ext (Ext.mark1) [.t 8])]
 (.region [Op 10 (.ext (Ext.mark0) [])])))
 (.skip))
 (Rg [Mv 11 0, Op 12 (.nilCheck (.t 11)), Op 13 (.fieldAddr 0 (.t 12)), Op 14 (.ext (Ext.atomicAdd (.i32)) [.t 13, .c (.int (.i32) (-1))]), Mv 2 14]
 (.seq (Rg [Mv 15 2, Op 16 (.bin (.neq) (.t 15) (.c (.int (.i32) 0)))]
 (.cond (.t 16) (.region [Mv 17 0, Mv 18 2, Op 19 (Ca 301 [.t 17, .t 18])])
 (.skip)))
 (.region [Op 20 (.ext (Ext.mark0) [])])))⟩
theorem ok284 : compFunc prog glb 284 p284 = some c284 := by kernel_rfl
def p286 : List Plan := []
def c286 : CFunc := ⟨4, [.tmp 2],
 Rg [Op 2 (.move (.c (.int (.u32) 0)))]
 (.seq (Rg [Mv 3 0]
 (.cond (.t 3) (Rg [Op 2 (.move (.c (.int (.u32) 1)))]
 (.ret))
 (.skip)))
 (Rg [Op 2 (.move (.c (.int (.u32) 0)))]
 (.ret)))⟩
theorem ok286 : compFunc prog glb 286 p286 = some c286 := by kernel_rfl
def p290 : List Plan := [⟨[(4, .quiet [0]), (1, .quiet [0]), (0, .quiet [0]), (2, .quiet [0]), (3, .quiet [0]), (5, .eff), (6, .quiet [6]), (7, .quiet [6]), (12, .quiet [6]), (9, .quiet [6]), (8, .quiet [6]), (10, .quiet [6]), (11, .quiet [6]), (13, .eff), (14, .quiet [14]), (15, .quiet [14]), (16, .quiet [14]), (22, .quiet [14]), (21, .quiet [14]), (23, .quiet [14]), (24, .quiet [14]), (18, .quiet [14]), (17, .quiet [14]), (19, .quiet [14]), (20, .quiet [14]), (25, .eff), (26, .quiet [26]), (27, .quiet [26])], 0, [0, 0, 3, 7, 0, 31, 63, 127, 255, 255, 1023, 2047, 255, 8191, 16383, 32767, 65535, 131071, 131071, 524287, 1048575, 131071, 131071, 6422527, 14811135, 33554431, 67108863, 134217727]⟩]
def c290 : CFunc := ⟨65, [.tmp 6],
 Rg [Op 6 (.move (.c (.bool false)))]
 (Rg [Mv 9 0, Op 10 (.len (.slice) (.t 9)), Mv 7 10]
 (.seq (Rg [Mv 11 7, Op 12 (.bin (.gtr) (.t 11) (Ci 6)), Mv 13 12, Mf 14 0 13, Mf 15 7 13, Of 16 (Ca 175 [.t 14, .t 15]) 13, Of 17 (.un (.not) (.t 16)) 13, Op 18 (.pick (.t 13) (.c (.bool true)) (.t 17)), Mv 19 18, Mf 20 1 19, Of 21 (.len (.slice) (.t 20)) 19, Mf 22 2 19, Of 23 (.len (.slice) (.t 22)) 19, Of 24 (.bin (.neq) (.t 21) (.t 23)) 19, Op 25 (.pick (.t 19) (.c (.bool true)) (.t 24)), Mv 26 25, Mf 27 1 26, Of 28 (.len (.slice) (.t 27)) 26, Of 29 (.bin (.gtr) (.t 28) (Ci 32)) 26, Op 30 (.pick (.t 26) (.c (.bool true)) (.t 29))]
 (.cond (.t 30) (Rg [Op 6 (.move (.c (.bool false)))]
 (.ret))
 (.skip)))
 (.seq (Rg [Mv 31 1, Op 32 (.len (.slice) (.t 31)), Op 33 (.move (Ci 0))]
 (.block 0 (.loop (Rg [Op 34 (.bin (.lss) (.t 33) (.t 32))]
 (.seq (.cond (.t 34) (.skip)
 (.exit 0))
 (.seq (.block 1 (Rg [Mv 35 33, Mv 8 35]
 (.seq (.draw [⟨4, Mv 40 7, (.quiet [0])⟩,
 ⟨1, Mv 37 8, (.quiet [0])⟩,
 ⟨0, Mv 36 1, (.quiet [0])⟩,
 ⟨2, Op 38 (.indexAddr 1 (.t 36) (.t 37)), (.quiet [0])⟩,
 ⟨3, Op 39 (.load false 1 (.t 38)), (.quiet [0])⟩,
 ⟨5, Op 41 (Ca 175 [.t 39, .t 40]), (.eff)⟩,
 ⟨6, Op 42 (.un (.not) (.t 41)), (.quiet [6])⟩,
 ⟨7, Mv 43 42, (.quiet [6])⟩,
 ⟨12, Mf 48 7 43, (.quiet [6])⟩,
 ⟨9, Mf 45 8 43, (.quiet [6])⟩,
 ⟨8, Mf 44 2 43, (.quiet [6])⟩,
 ⟨10, Of 46 (.indexAddr 1 (.t 44) (.t 45)) 43, (.quiet [6])⟩,
 ⟨11, Of 47 (.load false 1 (.t 46)) 43, (.quiet [6])⟩,
 ⟨13, Of 49 (Ca 175 [.t 47, .t 48]) 43, (.eff)⟩,
 ⟨14, Of 50 (.un (.not) (.t 49)) 43, (.quiet [14])⟩,
 ⟨15, Op 51 (.pick (.t 43) (.c (.bool true)) (.t 50)), (.quiet [14])⟩,
 ⟨16, Mv 52 51, (.quiet [14])⟩,
 ⟨22, Mf 58 8 52, (.quiet [14])⟩,
 ⟨21, Mf 57 2 52, (.quiet [14])⟩,
 ⟨23, Of 59 (.indexAddr 1 (.t 57) (.t 58)) 52, (.quiet [14])⟩,
 ⟨24, Of 60 (.load false 1 (.t 59)) 52, (.quiet [14])⟩,
 ⟨18, Mf 54 8 52, (.quiet [14])⟩,
 ⟨17, Mf 53 1 52, (.quiet [14])⟩,
 ⟨19, Of 55 (.indexAddr 1 (.t 53) (.t 54)) 52, (.quiet [14])⟩,
 ⟨20, Of 56 (.load false 1 (.t 55)) 52, (.quiet [14])⟩,
 ⟨25, Of 61 (Ca 215 [.t 56, .t 60]) 52, (.eff)⟩,
 ⟨26, Of 62 (.un (.not) (.t 61)) 52, (.quiet [26])⟩,
 ⟨27, Op 63 (.pick (.t 52) (.c (.bool true)) (.t 62)), (.quiet [26])⟩] 0)
 (.cond (.t 63) (Rg [Op 6 (.move (.c (.bool false)))]
 (.ret))
 (.skip)))))
 (.region [Op 64 (.bin (.add) (.t 33) (Ci 1)), Mv 33 64])))))))
 (Rg [Op 6 (.move (.c (.bool true)))]
 (.ret)))))⟩
theorem ok290 : compFunc prog glb 290 p290 = some c290 := by kernel_rfl
def p291 : List Plan := [⟨[(11, .quiet [0]), (10, .quiet [0]), (12, .quiet [0]), (13, .quiet [0]), (2, .quiet [0]), (0, .quiet [0]), (1, .quiet [0]), (14, .eff), (15, .quiet [8]), (7, .quiet [0, 8]), (6, .quiet [0, 8]), (8, .quiet [0, 8]), (9, .quiet [0, 8]), (16, .eff), (5, .quiet [0, 8, 14]), (3, .quiet [0, 8, 14]), (4, .quiet [0, 8, 14]), (17, .eff), (18, .quiet [18]), (19, .eff)], 0, [0, 1, 0, 0, 8, 0, 0, 0, 192, 448, 0, 0, 3072, 7168, 15367, 31751, 65479, 131071, 262143, 524287]⟩]
def c291 : CFunc := ⟨39, [.cell 6 true 3],
 Rg [Op 6 (.new [.nilSlice, .nilMap, .nilMap])]
 (Rg [Mv 9 0, Op 10 (Ca 25 [.t 9]), Op 11 (.newMap), Op 12 (.newMap), Op 13 (.build [.nilSlice, .nilMap, .nilMap] [(0, 1, .t 10), (1, 1, .t 11), (2, 1, .t 12)]), Op 7 (.new [.nilSlice, .nilMap, .nilMap]), On (.store 3 (.t 7) (.t 13))]
 (.seq (Rg [Mv 14 1, Op 15 (.len (.slice) (.t 14)), Op 16 (.move (Ci 0))]
 (.block 0 (.loop (Rg [Op 17 (.bin (.lss) (.t 16) (.t 15))]
 (.seq (.cond (.t 17) (.skip)
 (.exit 0))
 (.seq (.block 1 (Rg [Mv 18 16, Mv 8 18]
 (.draw [⟨11, Mv 30 8, (.quiet [0])⟩,
 ⟨10, Mv 29 2, (.quiet [0])⟩,
 ⟨12, Op 31 (.indexAddr 1 (.t 29) (.t 30)), (.quiet [0])⟩,
 ⟨13, Op 32 (.load false 1 (.t 31)), (.quiet [0])⟩,
 ⟨2, Mv 21 8, (.quiet [0])⟩,
 ⟨0, Op 19 (.fieldAddr 1 (.t 7)), (.quiet [0])⟩,
 ⟨1, Op 20 (.load false 1 (.t 19)), (.quiet [0])⟩,
 ⟨14, Op 33 (.mapEntry (.one (.int)) (.nilSlice) (.t 20) (.t 21)), (.eff)⟩,
 ⟨15, Op 34 (.extract (.t 33) 1), (.quiet [8])⟩,
 ⟨7, Mv 26 8, (.quiet [0, 8])⟩,
 ⟨6, Mv 25 1, (.quiet [0, 8])⟩,
 ⟨8, Op 27 (.indexAddr 1 (.t 25) (.t 26)), (.quiet [0, 8])⟩,
 ⟨9, Op 28 (.load false 1 (.t 27)), (.quiet [0, 8])⟩,
 ⟨16, On (.entryStore (.t 20) (.t 34) (.t 28)), (.eff)⟩,
 ⟨5, Mv 24 8, (.quiet [0, 8, 14])⟩,
 ⟨3, Op 22 (.fieldAddr 2 (.t 7)), (.quiet [0, 8, 14])⟩,
 ⟨4, Op 23 (.load false 1 (.t 22)), (.quiet [0, 8, 14])⟩,
 ⟨17, Op 35 (.mapEntry (.one (.int)) (.nilSlice) (.t 23) (.t 24)), (.eff)⟩,
 ⟨18, Op 36 (.extract (.t 35) 1), (.quiet [18])⟩,
 ⟨19, On (.entryStore (.t 23) (.t 36) (.t 32)), (.eff)⟩] 0)))
 (.region [Op 37 (.bin (.add) (.t 16) (Ci 1)), Mv 16 37])))))))
 (Rg [Op 38 (.load true 3 (.t 7)), On (.store 3 (.t 6) (.t 38))]
 (.ret))))⟩
theorem ok291 : compFunc prog glb 291 p291 = some c291 := by kernel_rfl
def p292 : List Plan := [⟨[(8, .quiet [0]), (6, .quiet [0]), (7, .quiet [0]), (9, .quiet [0]), (10, .quiet [0]), (2, .quiet [0]), (1, .quiet [0]), (3, .quiet [0]), (4, .quiet [0]), (0, .quiet [0]), (5, .quiet [0]), (11, .quiet [0])], 0, [0, 0, 0, 6, 14, 31, 0, 64, 0, 448, 960, 2047]⟩]
def c292 : CFunc := ⟨41, [.tmp 4],
 Rg [Op 2 (.box (.t 0)), Op 4 (.move (.c (.bool false)))]
 (Rg [Op 10 (.fieldAddr 1 (.t 2)), Op 11 (.load false 1 (.t 10)), Mv 12 1, Op 13 (.lookup (.one (.int)) (.nilSlice) true (.t 11) (.t 12)), Mv 9 13, Op 14 (.extract (.t 9) 0), Op 15 (.extract (.t 9) 1), Mv 5 14, Mv 6 15]
 (.seq (Rg [Mv 16 6, Op 17 (.un (.not) (.t 16))]
 (.cond (.t 17) (Rg [Op 4 (.move (.c (.bool false)))]
 (.ret))
 (.skip)))
 (.seq (Rg [Op 18 (.fieldAddr 2 (.t 2)), Op 19 (.load false 1 (.t 18)), Mv 20 1, Op 21 (.lookup (.one (.int)) (.nilSlice) false (.t 19) (.t 20)), Op 22 (.len (.slice) (.t 21)), Op 23 (.move (Ci 0))]
 (.block 0 (.loop (Rg [Op 24 (.bin (.lss) (.t 23) (.t 22))]
 (.seq (.cond (.t 24) (.skip)
 (.exit 0))
 (.seq (.block 1 (Rg [Mv 25 23, Op 26 (.indexAddr 1 (.t 21) (.t 23)), Op 27 (.load false 1 (.t 26)), Mv 7 25, Mv 8 27]
 (.seq (.draw [⟨8, Mv 36 7, (.quiet [0])⟩,
 ⟨6, Op 34 (.fieldAddr 0 (.t 2)), (.quiet [0])⟩,
 ⟨7, Op 35 (.load false 1 (.t 34)), (.quiet [0])⟩,
 ⟨9, Op 37 (.indexAddr 1 (.t 35) (.t 36)), (.quiet [0])⟩,
 ⟨10, Op 38 (.load false 1 (.t 37)), (.quiet [0])⟩,
 ⟨2, Mv 30 7, (.quiet [0])⟩,
 ⟨1, Mv 29 5, (.quiet [0])⟩,
 ⟨3, Op 31 (.indexAddr 1 (.t 29) (.t 30)), (.quiet [0])⟩,
 ⟨4, Op 32 (.load false 1 (.t 31)), (.quiet [0])⟩,
 ⟨0, Mv 28 8, (.quiet [0])⟩,
 ⟨5, Op 33 (.bin (.sub) (.t 28) (.t 32)), (.quiet [0])⟩,
 ⟨11, Op 39 (.bin (.gtr) (.t 33) (.t 38)), (.quiet [0])⟩] 0)
 (.cond (.t 39) (Rg [Op 4 (.move (.c (.bool false)))]
 (.ret))
 (.skip)))))
 (.region [Op 40 (.bin (.add) (.t 23) (Ci 1)), Mv 23 40])))))))
 (Rg [Op 4 (.move (.c (.bool true)))]
 (.ret)))))⟩
theorem ok292 : compFunc prog glb 292 p292 = some c292 := by kernel_rfl
def p293 : List Plan := []
def c293 : CFunc := ⟨28, [],
 Rg [Op 2 (.box (.t 0))]
 (.seq (Rg [Op 6 (.fieldAddr 1 (.t 2)), Op 7 (.load false 1 (.t 6)), Mv 8 1, Op 9 (.lookup (.one (.int)) (.nilSlice) false (.t 7) (.t 8)), Op 10 (.len (.slice) (.t 9)), Op 11 (.move (Ci 0))]
 (.block 0 (.loop (Rg [Op 12 (.bin (.lss) (.t 11) (.t 10))]
 (.seq (.cond (.t 12) (.skip)
 (.exit 0))
 (.seq (.block 1 (Rg [Mv 13 11, Op 14 (.indexAddr 1 (.t 9) (.t 11)), Op 15 (.load false 1 (.t 14)), Mv 4 13, Mv 5 15]
 (.region [Op 16 (.fieldAddr 0 (.t 2)), Op 17 (.load false 1 (.t 16)), Mv 18 4, Op 19 (.indexAddr 1 (.t 17) (.t 18)), Op 20 (.load false 1 (.t 19)), Mv 21 5, Op 22 (.bin (.add) (.t 20) (.t 21)), Op 23 (.indexAddr 1 (.t 17) (.t 18)), On (.store 1 (.t 23) (.t 22))])))
 (.region [Op 24 (.bin (.add) (.t 11) (Ci 1)), Mv 11 24])))))))
 (.region [Op 25 (.fieldAddr 1 (.t 2)), Op 26 (.load false 1 (.t 25)), Mv 27 1, On (.delete (.one (.int)) (.t 26) (.t 27))]))⟩
theorem ok293 : compFunc prog glb 293 p293 = some c293 := by kernel_rfl
def p298 : List Plan := []
def c298 : CFunc := ⟨139, [],
 Rg [Op 2 (.move (Ci 0))]
 (Rg [Op 3 (.move (.c (.bool false)))]
 (Rg [Op 4 (.move (.c (.bool false)))]
 (Rg [Op 5 (.move (Ci 0))]
 (Rg [Mv 10 0, Op 11 (.nilCheck (.t 10)), Op 12 (.fieldAddr 0 (.t 11)), Op 13 (.load false 1 (.t 12)), Mv 6 13]
 (.seq (.block 0 (.loop (.block 1 (.seq (Rg [Mv 14 6, Op 15 (.bin (.and) (.t 14) (.c (.int (.i32) 5))), Op 16 (.bin (.eql) (.t 15) (.c (.int (.i32) 1))), Mv 17 16, Mt 18 5 17, Ot 19 (Ca 305 [.t 18]) 17, Op 20 (.pick (.t 17) (.t 19) (.c (.bool false)))]
 (.cond (.t 20) (.seq (Rg [Mv 21 4, Op 22 (.un (.not) (.t 21)), Mv 23 22, Mt 24 6 23, Ot 25 (.bin (.and) (.t 24) (.c (.int (.i32) 2))) 23, Ot 26 (.bin (.eql) (.t 25) (.c (.int (.i32) 0))) 23, Op 27 (.pick (.t 23) (.t 26) (.c (.bool false))), Mv 28 27, Mt 29 6 28, Ot 30 (.bin (.shr) (.t 29) (.c (.int (.u64) 3))) 28, Ot 31 (.bin (.neq) (.t 30) (.c (.int (.i32) 0))) 28, Op 32 (.pick (.t 28) (.t 31) (.c (.bool false))), Mv 33 32, Mt 34 0 33, Ot 35 (.nilCheck (.t 34)) 33, Ot 36 (.fieldAddr 0 (.t 35)) 33, Mt 37 6 33, Mt 38 6 33, Ot 39 (.bin (.or) (.t 38) (.c (.int (.i32) 2))) 33, Ot 40 (.ext (Ext.atomicCas (.i32)) [.t 36, .t 37, .t 39]) 33, Op 41 (.pick (.t 33) (.t 40) (.c (.bool false)))]
 (.cond (.t 41) (.region [Op 4 (.move (.c (.bool true)))])
 (.skip)))
 (Rg [Op 42 (Ca 306 [])]
 (Rg [Mv 43 5, Op 44 (.bin (.add) (.t 43) (Ci 1)), Mv 5 44]
 (Rg [Mv 45 0, Op 46 (.nilCheck (.t 45)), Op 47 (.fieldAddr 0 (.t 46)), Op 48 (.load false 1 (.t 47)), Mv 6 48]
 (.exit 1)))))
 (.skip)))
 (Rg [Mv 49 6, Mv 7 49]
 (.seq (Rg [Mv 50 6, Op 51 (.bin (.and) (.t 50) (.c (.int (.i32) 4))), Op 52 (.bin (.eql) (.t 51) (.c (.int (.i32) 0)))]
 (.cond (.t 52) (.region [Mv 53 7, Op 54 (.bin (.or) (.t 53) (.c (.int (.i32) 1))), Mv 7 54])
 (.skip)))
 (.seq (Rg [Mv 55 6, Op 56 (.bin (.and) (.t 55) (.c (.int (.i32) 5))), Op 57 (.bin (.neq) (.t 56) (.c (.int (.i32) 0)))]
 (.cond (.t 57) (.region [Mv 58 7, Op 59 (.bin (.add) (.t 58) (.c (.int (.i32) 8))), Mv 7 59])
 (.skip)))
 (.seq (Rg [Mv 60 3, Mv 61 60, Mt 62 6 61, Ot 63 (.bin (.and) (.t 62) (.c (.int (.i32) 1))) 61, Ot 64 (.bin (.neq) (.t 63) (.c (.int (.i32) 0))) 61, Op 65 (.pick (.t 61) (.t 64) (.c (.bool false)))]
 (.cond (.t 65) (.region [Mv 66 7, Op 67 (.bin (.or) (.t 66) (.c (.int (.i32) 4))), Mv 7 67])
 (.skip)))
 (.seq (Rg [Mv 68 4]
 (.cond (.t 68) (.seq (Rg [Mv 69 7, Op 70 (.bin (.and) (.t 69) (.c (.int (.i32) 2))), Op 71 (.bin (.eql) (.t 70) (.c (.int (.i32) 0)))]
 (.cond (.t 71) (.region [Op 72 (Ca 307 [.c (.str [115, 121, 110, 99, 58, 32, 105, 110, 99, 111, 110, 115, 105, 115, 116, 101, 110, 116, 32, 109, 117, 116, 101, 120, 32, 115, 116, 97, 116, 101])])])
 (.skip)))
 (.region [Mv 73 7, Op 74 (.bin (.andNot) (.t 73) (.c (.int (.i32) 2))), Mv 7 74]))
 (.skip)))
 (Rg [Mv 75 0, Op 76 (.nilCheck (.t 75)), Op 77 (.fieldAddr 0 (.t 76)), Mv 78 6, Mv 79 7, Op 80 (.ext (Ext.atomicCas (.i32)) [.t 77, .t 78, .t 79])]
 (.cond (.t 80) (.seq (Rg [Mv 81 6, Op 82 (.bin (.and) (.t 81) (.c (.int (.i32) 5))), Op 83 (.bin (.eql) (.t 82) (.c (.int (.i32) 0)))]
 (.cond (.t 83) (.exit 0)
 (.skip)))
 (Rg [Mv 84 2, Op 85 (.bin (.neq) (.t 84) (Ci 0)), Mv 8 85]
 (.seq (Rg [Mv 86 2, Op 87 (.bin (.eql) (.t 86) (Ci 0))]
 (.cond (.t 87) (.region [Op 88 (Ca 308 []), Mv 2 88])
 (.skip)))
 (Rg [Mv 89 0, Op 90 (.nilCheck (.t 89)), Op 91 (.fieldAddr 1 (.t 90)), Mv 92 8, Op 93 (Ca 309 [.t 91, .t 92, Ci 2])]
 (Rg [Mv 94 3, Mv 95 94, Of 96 (Ca 308 []) 95, Mf 97 2 95, Of 98 (.bin (.sub) (.t 96) (.t 97)) 95, Of 99 (.bin (.gtr) (.t 98) (Ci 1000000)) 95, Op 100 (.pick (.t 95) (.c (.bool true)) (.t 99)), Mv 3 100]
 (Rg [Mv 101 0, Op 102 (.nilCheck (.t 101)), Op 103 (.fieldAddr 0 (.t 102)), Op 104 (.load false 1 (.t 103)), Mv 6 104]
 (.seq (Rg [Mv 105 6, Op 106 (.bin (.and) (.t 105) (.c (.int (.i32) 4))), Op 107 (.bin (.neq) (.t 106) (.c (.int (.i32) 0)))]
 (.cond (.t 107) (.seq (Rg [Mv 108 6, Op 109 (.bin (.and) (.t 108) (.c (.int (.i32) 3))), Op 110 (.bin (.neq) (.t 109) (.c (.int (.i32) 0))), Mv 111 110, Mf 112 6 111, Of 113 (.bin (.shr) (.t 112) (.c (.int (.u64) 3))) 111, Of 114 (.bin (.eql) (.t 113) (.c (.int (.i32) 0))) 111, Op 115 (.pick (.t 111) (.c (.bool true)) (.t 114))]
 (.cond (.t 115) (.region [Op 116 (Ca 307 [.c (.str [115, 121, 110, 99, 58, 32, 105, 110, 99, 111, 110, 115, 105, 115, 116, 101, 110, 116, 32, 109, 117, 116, 101, 120, 32, 115, 116, 97, 116, 101])])])
 (.skip)))
 (Rg [Op 9 (.move (.c (.int (.i32) (-7))))]
 (.seq (Rg [Mv 117 3, Op 118 (.un (.not) (.t 117)), Mv 119 118, Mf 120 6 119, Of 121 (.bin (.shr) (.t 120) (.c (.int (.u64) 3))) 119, Of 122 (.bin (.eql) (.t 121) (.c (.int (.i32) 1))) 119, Op 123 (.pick (.t 119) (.c (.bool true)) (.t 122))]
 (.cond (.t 123) (.region [Mv 124 9, Op 125 (.bin (.sub) (.t 124) (.c (.int (.i32) 4))), Mv 9 125])
 (.skip)))
 (Rg [Mv 126 0, Op 127 (.nilCheck (.t 126)), Op 128 (.fieldAddr 0 (.t 127)), Mv 129 9, Op 130 (.ext (Ext.atomicAdd (.i32)) [.t 128, .t 129])]
 (.exit 0)))))
 (.skip)))
 (Rg [Op 4 (.move (.c (.bool true)))]
 (.region [Op 5 (.move (Ci 0))])))))))))
 (.region [Mv 131 0, Op 132 (.nilCheck (.t 131)), Op 133 (.fieldAddr 0 (.t 132)), Op 134 (.load false 1 (.t 133)), Mv 6 134]))))))))))))
 (.cond (.c (.bool true)) (Rg [Op 135 (.ext (Ext.mark0) [])]
 (.region [Mv 136 0, Op 137 (.ext (Ext.uptr) [.t 136]), Op 138 (.ext (Ext.mark1) [.t 137])]))
 (.skip)))))))⟩
theorem ok298 : compFunc prog glb 298 p298 = some c298 := by kernel_rfl
def p301 : List Plan := []
def c301 : CFunc := ⟨43, [],
 .seq (Rg [Mv 5 1, Op 6 (.bin (.add) (.t 5) (.c (.int (.i32) 1))), Op 7 (.bin (.and) (.t 6) (.c (.int (.i32) 1))), Op 8 (.bin (.eql) (.t 7) (.c (.int (.i32) 0)))]
 (.cond (.t 8) (.region [Op 9 (Ca 310 [.c (.str [115, 121, 110, 99, 58, 32, 117, 110, 108, 111, 99, 107, 32, 111, 102, 32, 117, 110, 108, 111, 99, 107, 101, 100, 32, 109, 117, 116, 101, 120])])])
 (.skip)))
 (Rg [Mv 10 1, Op 11 (.bin (.and) (.t 10) (.c (.int (.i32) 4))), Op 12 (.bin (.eql) (.t 11) (.c (.int (.i32) 0)))]
 (.cond (.t 12) (Rg [Mv 13 1, Mv 4 13]
 (.block 0 (.loop (.block 1 (.seq (Rg [Mv 14 4, Op 15 (.bin (.shr) (.t 14) (.c (.int (.u64) 3))), Op 16 (.bin (.eql) (.t 15) (.c (.int (.i32) 0))), Mv 17 16, Mf 18 4 17, Of 19 (.bin (.and) (.t 18) (.c (.int (.i32) 7))) 17, Of 20 (.bin (.neq) (.t 19) (.c (.int (.i32) 0))) 17, Op 21 (.pick (.t 17) (.c (.bool true)) (.t 20))]
 (.cond (.t 21) (.ret)
 (.skip)))
 (Rg [Mv 22 4, Op 23 (.bin (.sub) (.t 22) (.c (.int (.i32) 8))), Op 24 (.bin (.or) (.t 23) (.c (.int (.i32) 2))), Mv 1 24]
 (.seq (Rg [Mv 25 0, Op 26 (.nilCheck (.t 25)), Op 27 (.fieldAddr 0 (.t 26)), Mv 28 4, Mv 29 1, Op 30 (.ext (Ext.atomicCas (.i32)) [.t 27, .t 28, .t 29])]
 (.cond (.t 30) (Rg [Mv 31 0, Op 32 (.nilCheck (.t 31)), Op 33 (.fieldAddr 1 (.t 32)), Op 34 (Ca 311 [.t 33, .c (.bool false), Ci 2])]
 (.ret))
 (.skip)))
 (.region [Mv 35 0, Op 36 (.nilCheck (.t 35)), Op 37 (.fieldAddr 0 (.t 36)), Op 38 (.load false 1 (.t 37)), Mv 4 38]))))))))
 (.region [Mv 39 0, Op 40 (.nilCheck (.t 39)), Op 41 (.fieldAddr 1 (.t 40)), Op 42 (Ca 311 [.t 41, .c (.bool true), Ci 2])])))⟩
theorem ok301 : compFunc prog glb 301 p301 = some c301 := by kernel_rfl
def p350 : List Plan := [⟨[(8, .quiet [0]), (9, .quiet [0]), (10, .quiet [0]), (11, .quiet [0]), (12, .quiet [0]), (6, .quiet [0]), (7, .quiet [0]), (13, .quiet [0]), (4, .quiet [0]), (5, .quiet [0]), (0, .quiet [0]), (1, .quiet [0]), (2, .quiet [0]), (3, .quiet [0]), (14, .eff)], 0, [0, 1, 3, 7, 0, 16, 0, 64, 0, 256, 768, 1792, 3840, 8128, 16383]⟩, ⟨[(5, .quiet [0]), (6, .quiet [0]), (7, .eff), (1, .quiet [0, 3]), (2, .quiet [0, 3]), (3, .quiet [0, 3]), (4, .quiet [0, 3]), (8, .eff), (0, .quiet [0, 3, 8]), (9, .quiet [8]), (10, .quiet [8]), (11, .eff)], 0, [0, 0, 2, 6, 14, 0, 32, 96, 254, 511, 1023, 2047]⟩]
def c350 : CFunc := ⟨48, [.tmp 6],
 Rg [Op 3 (.box (.t 0)), Op 5 (.box (.t 2)), Op 6 (.move (Ci 0))]
 (.seq (.block 0 (Rg [Mv 8 1, Op 9 (.nilCheck (.t 8)), Op 10 (.fieldAddr 6 (.t 9)), Op 11 (.load false 1 (.t 10)), Op 12 (.len (.slice) (.t 11)), Op 13 (.bin (.geq) (.t 12) (Ci 6)), Mv 7 13]
 (.cond (.t 7) (Rg [Op 6 (.move (Ci 16))]
 (.ret))
 (Rg [Op 15 (.fieldAddr 3 (.t 5)), Op 16 (.load false 1 (.t 15)), Op 17 (.bin (.lss) (.t 16) (Ci 1)), Mv 18 17, Of 19 (.fieldAddr 3 (.t 5)) 18, Of 20 (.load false 1 (.t 19)) 18, Of 21 (.bin (.gtr) (.t 20) (Ci 1000)) 18, Op 22 (.pick (.t 18) (.c (.bool true)) (.t 21)), Mv 14 22]
 (.cond (.t 14) (Rg [Op 6 (.move (Ci 24))]
 (.ret))
 (.skip))))))
 (.seq (.draw [⟨8, Mv 31 1, (.quiet [0])⟩,
 ⟨9, Op 32 (.nilCheck (.t 31)), (.quiet [0])⟩,
 ⟨10, Op 33 (.fieldAddr 6 (.t 32)), (.quiet [0])⟩,
 ⟨11, Op 34 (.load false 1 (.t 33)), (.quiet [0])⟩,
 ⟨12, Op 35 (.len (.slice) (.t 34)), (.quiet [0])⟩,
 ⟨6, Op 29 (.fieldAddr 0 (.t 5)), (.quiet [0])⟩,
 ⟨7, Op 30 (.load false 1 (.t 29)), (.quiet [0])⟩,
 ⟨13, Op 36 (.build [.int (.i64) 0, .int (.i64) 0, .int (.i64) 0] [(0, 1, .t 30), (1, 1, .t 35)]), (.quiet [0])⟩,
 ⟨4, Op 27 (.fieldAddr 2 (.t 5)), (.quiet [0])⟩,
 ⟨5, Op 28 (.load false 1 (.t 27)), (.quiet [0])⟩,
 ⟨0, Mv 23 1, (.quiet [0])⟩,
 ⟨1, Op 24 (.nilCheck (.t 23)), (.quiet [0])⟩,
 ⟨2, Op 25 (.fieldAddr 0 (.t 24)), (.quiet [0])⟩,
 ⟨3, Op 26 (.load false 1 (.t 25)), (.quiet [0])⟩,
 ⟨14, On (.mapUpdate (.one (.str)) (.t 26) (.t 28) (.t 36)), (.eff)⟩] 0)
 (.seq (.draw [⟨5, Op 42 (.fieldAddr 3 (.t 5)), (.quiet [0])⟩,
 ⟨6, Op 43 (.load false 1 (.t 42)), (.quiet [0])⟩,
 ⟨7, Op 44 (.buildSlice [.int (.i64) 0] 1 [(0, 1, .t 43)]), (.eff)⟩,
 ⟨1, Mv 38 1, (.quiet [0, 3])⟩,
 ⟨2, Op 39 (.nilCheck (.t 38)), (.quiet [0, 3])⟩,
 ⟨3, Op 40 (.fieldAddr 6 (.t 39)), (.quiet [0, 3])⟩,
 ⟨4, Op 41 (.load false 1 (.t 40)), (.quiet [0, 3])⟩,
 ⟨8, Op 45 (.append 1 8 (.t 41) (.t 44)), (.eff)⟩,
 ⟨0, Mv 37 1, (.quiet [0, 3, 8])⟩,
 ⟨9, Op 46 (.nilCheck (.t 37)), (.quiet [8])⟩,
 ⟨10, Op 47 (.fieldAddr 6 (.t 46)), (.quiet [8])⟩,
 ⟨11, On (.store 1 (.t 47) (.t 45)), (.eff)⟩] 0)
 (Rg [Op 6 (.move (Ci 0))]
 (.ret)))))⟩
theorem ok350 : compFunc prog glb 350 p350 = some c350 := by kernel_rfl
def p351 : List Plan := [⟨[(8, .quiet [0]), (9, .quiet [0]), (10, .quiet [0]), (11, .quiet [0]), (12, .quiet [0]), (6, .quiet [0]), (7, .quiet [0]), (13, .quiet [0]), (4, .quiet [0]), (5, .quiet [0]), (0, .quiet [0]), (1, .quiet [0]), (2, .quiet [0]), (3, .quiet [0]), (14, .eff)], 0, [0, 1, 3, 7, 0, 16, 0, 64, 0, 256, 768, 1792, 3840, 8128, 16383]⟩, ⟨[(5, .quiet [0]), (6, .quiet [0]), (7, .eff), (1, .quiet [0, 3]), (2, .quiet [0, 3]), (3, .quiet [0, 3]), (4, .quiet [0, 3]), (8, .eff), (0, .quiet [0, 3, 8]), (9, .quiet [8]), (10, .quiet [8]), (11, .eff)], 0, [0, 0, 2, 6, 14, 0, 32, 96, 254, 511, 1023, 2047]⟩]
def c351 : CFunc := ⟨48, [.tmp 6],
 Rg [Op 3 (.box (.t 0)), Op 5 (.box (.t 2)), Op 6 (.move (Ci 0))]
 (.seq (.block 0 (Rg [Mv 8 1, Op 9 (.nilCheck (.t 8)), Op 10 (.fieldAddr 5 (.t 9)), Op 11 (.load false 1 (.t 10)), Op 12 (.len (.slice) (.t 11)), Op 13 (.bin (.geq) (.t 12) (Ci 8)), Mv 7 13]
 (.cond (.t 7) (Rg [Op 6 (.move (Ci 16))]
 (.ret))
 (Rg [Op 15 (.fieldAddr 3 (.t 5)), Op 16 (.load false 1 (.t 15)), Op 17 (.bin (.lss) (.t 16) (Ci 0)), Mv 18 17, Of 19 (.fieldAddr 3 (.t 5)) 18, Of 20 (.load false 1 (.t 19)) 18, Of 21 (.bin (.gtr) (.t 20) (Ci 1000)) 18, Op 22 (.pick (.t 18) (.c (.bool true)) (.t 21)), Mv 14 22]
 (.cond (.t 14) (Rg [Op 6 (.move (Ci 24))]
 (.ret))
 (.skip))))))
 (.seq (.draw [⟨8, Mv 31 1, (.quiet [0])⟩,
 ⟨9, Op 32 (.nilCheck (.t 31)), (.quiet [0])⟩,
 ⟨10, Op 33 (.fieldAddr 5 (.t 32)), (.quiet [0])⟩,
 ⟨11, Op 34 (.load false 1 (.t 33)), (.quiet [0])⟩,
 ⟨12, Op 35 (.len (.slice) (.t 34)), (.quiet [0])⟩,
 ⟨6, Op 29 (.fieldAddr 0 (.t 5)), (.quiet [0])⟩,
 ⟨7, Op 30 (.load false 1 (.t 29)), (.quiet [0])⟩,
 ⟨13, Op 36 (.build [.int (.i64) 0, .int (.i64) 0, .int (.i64) 0] [(0, 1, .t 30), (1, 1, .t 35)]), (.quiet [0])⟩,
 ⟨4, Op 27 (.fieldAddr 2 (.t 5)), (.quiet [0])⟩,
 ⟨5, Op 28 (.load false 1 (.t 27)), (.quiet [0])⟩,
 ⟨0, Mv 23 1, (.quiet [0])⟩,
 ⟨1, Op 24 (.nilCheck (.t 23)), (.quiet [0])⟩,
 ⟨2, Op 25 (.fieldAddr 0 (.t 24)), (.quiet [0])⟩,
 ⟨3, Op 26 (.load false 1 (.t 25)), (.quiet [0])⟩,
 ⟨14, On (.mapUpdate (.one (.str)) (.t 26) (.t 28) (.t 36)), (.eff)⟩] 0)
 (.seq (.draw [⟨5, Op 42 (.fieldAddr 3 (.t 5)), (.quiet [0])⟩,
 ⟨6, Op 43 (.load false 1 (.t 42)), (.quiet [0])⟩,
 ⟨7, Op 44 (.buildSlice [.int (.i64) 0] 1 [(0, 1, .t 43)]), (.eff)⟩,
 ⟨1, Mv 38 1, (.quiet [0, 3])⟩,
 ⟨2, Op 39 (.nilCheck (.t 38)), (.quiet [0, 3])⟩,
 ⟨3, Op 40 (.fieldAddr 5 (.t 39)), (.quiet [0, 3])⟩,
 ⟨4, Op 41 (.load false 1 (.t 40)), (.quiet [0, 3])⟩,
 ⟨8, Op 45 (.append 1 8 (.t 41) (.t 44)), (.eff)⟩,
 ⟨0, Mv 37 1, (.quiet [0, 3, 8])⟩,
 ⟨9, Op 46 (.nilCheck (.t 37)), (.quiet [8])⟩,
 ⟨10, Op 47 (.fieldAddr 5 (.t 46)), (.quiet [8])⟩,
 ⟨11, On (.store 1 (.t 47) (.t 45)), (.eff)⟩] 0)
 (Rg [Op 6 (.move (Ci 0))]
 (.ret)))))⟩
theorem ok351 : compFunc prog glb 351 p351 = some c351 := by kernel_rfl
def p352 : List Plan := [⟨[(13, .quiet [0]), (14, .quiet [0]), (8, .quiet [0]), (9, .quiet [0]), (10, .quiet [0]), (11, .quiet [0]), (12, .quiet [0]), (6, .quiet [0]), (7, .quiet [0]), (15, .quiet [0]), (4, .quiet [0]), (5, .quiet [0]), (0, .quiet [0]), (1, .quiet [0]), (2, .quiet [0]), (3, .quiet [0]), (16, .eff)], 0, [0, 1, 3, 7, 0, 16, 0, 64, 0, 256, 768, 1792, 3840, 0, 8192, 32704, 65535]⟩, ⟨[(9, .quiet [0]), (10, .quiet [0]), (5, .quiet [0]), (6, .quiet [0]), (7, .quiet [0]), (8, .quiet [0]), (11, .quiet [0]), (12, .eff), (1, .quiet [0, 8]), (2, .quiet [0, 8]), (3, .quiet [0, 8]), (4, .quiet [0, 8]), (13, .eff), (0, .quiet [0, 8, 13]), (14, .quiet [13]), (15, .quiet [13]), (16, .eff)], 0, [0, 0, 2, 6, 14, 0, 32, 96, 224, 0, 512, 2016, 4064, 8190, 16383, 32767, 65535]⟩, ⟨[(4, .quiet [0]), (5, .quiet [0]), (6, .quiet [0]), (0, .quiet [0]), (1, .quiet [0]), (2, .quiet [0]), (3, .quiet [0]), (7, .quiet [0]), (8, .quiet [0]), (9, .quiet [0]), (10, .eff)], 0, [0, 1, 3, 7, 0, 16, 48, 127, 255, 511, 1023]⟩]
def c352 : CFunc := ⟨55, [.tmp 6],
 Rg [Op 3 (.box (.t 0)), Op 5 (.box (.t 2)), Op 6 (.move (Ci 0))]
 (.seq (Rg [Mv 7 1, Op 8 (.nilCheck (.t 7)), Op 9 (.fieldAddr 4 (.t 8)), Op 10 (.load false 1 (.t 9)), Op 11 (.len (.slice) (.t 10)), Op 12 (.bin (.geq) (.t 11) (Ci 16))]
 (.cond (.t 12) (Rg [Op 6 (.move (Ci 16))]
 (.ret))
 (.skip)))
 (.seq (.draw [⟨13, Op 26 (.fieldAddr 3 (.t 5)), (.quiet [0])⟩,
 ⟨14, Op 27 (.load false 1 (.t 26)), (.quiet [0])⟩,
 ⟨8, Mv 21 1, (.quiet [0])⟩,
 ⟨9, Op 22 (.nilCheck (.t 21)), (.quiet [0])⟩,
 ⟨10, Op 23 (.fieldAddr 4 (.t 22)), (.quiet [0])⟩,
 ⟨11, Op 24 (.load false 1 (.t 23)), (.quiet [0])⟩,
 ⟨12, Op 25 (.len (.slice) (.t 24)), (.quiet [0])⟩,
 ⟨6, Op 19 (.fieldAddr 0 (.t 5)), (.quiet [0])⟩,
 ⟨7, Op 20 (.load false 1 (.t 19)), (.quiet [0])⟩,
 ⟨15, Op 28 (.build [.int (.i64) 0, .int (.i64) 0, .int (.i64) 0] [(0, 1, .t 20), (1, 1, .t 25), (2, 1, .t 27)]), (.quiet [0])⟩,
 ⟨4, Op 17 (.fieldAddr 2 (.t 5)), (.quiet [0])⟩,
 ⟨5, Op 18 (.load false 1 (.t 17)), (.quiet [0])⟩,
 ⟨0, Mv 13 1, (.quiet [0])⟩,
 ⟨1, Op 14 (.nilCheck (.t 13)), (.quiet [0])⟩,
 ⟨2, Op 15 (.fieldAddr 0 (.t 14)), (.quiet [0])⟩,
 ⟨3, Op 16 (.load false 1 (.t 15)), (.quiet [0])⟩,
 ⟨16, On (.mapUpdate (.one (.str)) (.t 16) (.t 18) (.t 28)), (.eff)⟩] 0)
 (.seq (.draw [⟨9, Op 38 (.fieldAddr 3 (.t 5)), (.quiet [0])⟩,
 ⟨10, Op 39 (.load false 1 (.t 38)), (.quiet [0])⟩,
 ⟨5, Mv 34 1, (.quiet [0])⟩,
 ⟨6, Op 35 (.nilCheck (.t 34)), (.quiet [0])⟩,
 ⟨7, Op 36 (.fieldAddr 8 (.t 35)), (.quiet [0])⟩,
 ⟨8, Op 37 (.load false 1 (.t 36)), (.quiet [0])⟩,
 ⟨11, Op 40 (.build [.int (.i64) 0, .int (.i64) 0] [(0, 1, .t 37), (1, 1, .t 39)]), (.quiet [0])⟩,
 ⟨12, Op 41 (.buildSlice [.int (.i64) 0, .int (.i64) 0] 1 [(0, 2, .t 40)]), (.eff)⟩,
 ⟨1, Mv 30 1, (.quiet [0, 8])⟩,
 ⟨2, Op 31 (.nilCheck (.t 30)), (.quiet [0, 8])⟩,
 ⟨3, Op 32 (.fieldAddr 4 (.t 31)), (.quiet [0, 8])⟩,
 ⟨4, Op 33 (.load false 1 (.t 32)), (.quiet [0, 8])⟩,
 ⟨13, Op 42 (.append 2 16 (.t 33) (.t 41)), (.eff)⟩,
 ⟨0, Mv 29 1, (.quiet [0, 8, 13])⟩,
 ⟨14, Op 43 (.nilCheck (.t 29)), (.quiet [13])⟩,
 ⟨15, Op 44 (.fieldAddr 4 (.t 43)), (.quiet [13])⟩,
 ⟨16, On (.store 1 (.t 44) (.t 42)), (.eff)⟩] 0)
 (.seq (.draw [⟨4, Op 49 (.fieldAddr 3 (.t 5)), (.quiet [0])⟩,
 ⟨5, Op 50 (.load false 1 (.t 49)), (.quiet [0])⟩,
 ⟨6, Op 51 (.maxmin true (.t 50) [Ci 1]), (.quiet [0])⟩,
 ⟨0, Mv 45 1, (.quiet [0])⟩,
 ⟨1, Op 46 (.nilCheck (.t 45)), (.quiet [0])⟩,
 ⟨2, Op 47 (.fieldAddr 8 (.t 46)), (.quiet [0])⟩,
 ⟨3, Op 48 (.load false 1 (.t 47)), (.quiet [0])⟩,
 ⟨7, Op 52 (.bin (.add) (.t 48) (.t 51)), (.quiet [0])⟩,
 ⟨8, Op 53 (.nilCheck (.t 45)), (.quiet [0])⟩,
 ⟨9, Op 54 (.fieldAddr 8 (.t 53)), (.quiet [0])⟩,
 ⟨10, On (.store 1 (.t 54) (.t 52)), (.eff)⟩] 0)
 (Rg [Op 6 (.move (Ci 0))]
 (.ret))))))⟩
theorem ok352 : compFunc prog glb 352 p352 = some c352 := by kernel_rfl
def p353 : List Plan := [⟨[(6, .quiet [0]), (7, .quiet [0]), (8, .quiet [0]), (9, .quiet [0]), (10, .quiet [0]), (4, .quiet [0]), (5, .quiet [0]), (0, .quiet [0]), (1, .quiet [0]), (2, .quiet [0]), (3, .quiet [0]), (11, .eff)], 0, [0, 1, 3, 7, 0, 16, 0, 64, 192, 448, 960, 2047]⟩]
def c353 : CFunc := ⟨27, [.tmp 6],
 Rg [Op 3 (.box (.t 0)), Op 5 (.box (.t 2)), Op 6 (.move (Ci 0))]
 (Rg [Op 8 (.dead), Op 9 (.load true 0 (.t 8)), Mv 10 1, Op 11 (.load true 4 (.t 5)), Op 12 (Ca 352 [.t 9, .t 10, .t 11]), Mv 7 12]
 (.seq (Rg [Mv 13 7, Op 14 (.bin (.eql) (.t 13) (Ci 0))]
 (.cond (.t 14) (.draw [⟨6, Mv 21 1, (.quiet [0])⟩,
 ⟨7, Op 22 (.nilCheck (.t 21)), (.quiet [0])⟩,
 ⟨8, Op 23 (.fieldAddr 7 (.t 22)), (.quiet [0])⟩,
 ⟨9, Op 24 (.load false 1 (.t 23)), (.quiet [0])⟩,
 ⟨10, Op 25 (.len (.map) (.t 24)), (.quiet [0])⟩,
 ⟨4, Op 19 (.fieldAddr 2 (.t 5)), (.quiet [0])⟩,
 ⟨5, Op 20 (.load false 1 (.t 19)), (.quiet [0])⟩,
 ⟨0, Mv 15 1, (.quiet [0])⟩,
 ⟨1, Op 16 (.nilCheck (.t 15)), (.quiet [0])⟩,
 ⟨2, Op 17 (.fieldAddr 7 (.t 16)), (.quiet [0])⟩,
 ⟨3, Op 18 (.load false 1 (.t 17)), (.quiet [0])⟩,
 ⟨11, On (.mapUpdate (.one (.str)) (.t 18) (.t 20) (.t 25)), (.eff)⟩] 0)
 (.skip)))
 (Rg [Mv 26 7, Mv 6 26]
 (.ret))))⟩
theorem ok353 : compFunc prog glb 353 p353 = some c353 := by kernel_rfl
end Go.Proofs.YtkjdgdkkepmciaaGreat.Cm
