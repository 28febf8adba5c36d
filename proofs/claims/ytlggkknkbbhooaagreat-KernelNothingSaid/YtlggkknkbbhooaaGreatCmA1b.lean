/-
  The functions that this seat's laws reach, each as a clean function, and that it is the program's.
-/
import Derived.Test.YtlggkknkbbhooaaGreatCmA1
import Derived.Test.YtlggkknkbbhooaaGreatCmZ
namespace Go.Proofs.YtlggkknkbbhooaaGreat.Cm

/-- (*signalbox/alloc.Alloc).Admit -/
def p116 : List Plan := [⟨[(5, .eff), (6, .quiet [0, 1]), (7, .eff), (4, .quiet [0, 1, 3]), (0, .quiet [0, 1, 3]), (1, .quiet [0, 1, 3]), (2, .quiet [0, 1, 3]), (3, .quiet [0, 1, 3]), (8, .eff)], 0, [0, 1, 3, 7, 0, 0, 0, 96, 255]⟩]
def c116 : CFunc := ⟨52, [.tmp 6],
 .seq (.region [⟨(some 6), (.move (.c (.int (.i64) 0))), none⟩])
 (.seq (.block 0 (.seq (.region [⟨(some 8), (.move (.t 0)), none⟩,
      ⟨(some 9), (.eq (.ptr) false (.t 8) (.c (.nilPtr))), none⟩,
      ⟨(some 7), (.move (.t 9)), none⟩])
    (.cond (.t 7) (.seq (.region [⟨(some 6), (.move (.c (.int (.i64) 3))), none⟩])
      (.ret))
     (.seq (.region [⟨(some 11), (.move (.t 1)), none⟩,
        ⟨(some 12), (.bin (.lss) (.t 11) (.c (.int (.i64) 1))), none⟩,
        ⟨(some 13), (.move (.t 12)), none⟩,
        ⟨(some 14), (.move (.t 0)), (some (13, false))⟩,
        ⟨(some 15), (.move (.t 2)), (some (13, false))⟩,
        ⟨(some 16), (.call (.c (.func 126 [] [])) [.t 14, .t 15]), (some (13, false))⟩,
        ⟨(some 17), (.un (.not) (.t 16)), (some (13, false))⟩,
        ⟨(some 18), (.pick (.t 13) (.c (.bool true)) (.t 17)), none⟩,
        ⟨(some 10), (.move (.t 18)), none⟩])
      (.cond (.t 10) (.seq (.region [⟨(some 6), (.move (.c (.int (.i64) 1))), none⟩])
        (.ret))
       (.seq (.region [⟨(some 20), (.move (.t 0)), none⟩,
          ⟨(some 21), (.move (.t 1)), none⟩,
          ⟨(some 22), (.call (.c (.func 119 [] [])) [.t 20, .t 21]), none⟩,
          ⟨(some 19), (.move (.t 22)), none⟩])
        (.cond (.t 19) (.seq (.region [⟨(some 6), (.move (.c (.int (.i64) 4))), none⟩])
          (.ret))
         (.seq (.region [⟨(some 24), (.move (.t 0)), none⟩,
            ⟨(some 25), (.nilCheck (.t 24)), none⟩,
            ⟨(some 26), (.fieldAddr 7 (.t 25)), none⟩,
            ⟨(some 27), (.load false 1 (.t 26)), none⟩,
            ⟨(some 28), (.len (.map) (.t 27)), none⟩,
            ⟨(some 29), (.bin (.geq) (.t 28) (.c (.int (.i64) 32))), none⟩,
            ⟨(some 23), (.move (.t 29)), none⟩])
          (.cond (.t 23) (.seq (.region [⟨(some 6), (.move (.c (.int (.i64) 1))), none⟩])
            (.ret))
           (.seq (.region [⟨(some 31), (.move (.t 0)), none⟩,
              ⟨(some 32), (.nilCheck (.t 31)), none⟩,
              ⟨(some 33), (.fieldAddr 1 (.t 32)), none⟩,
              ⟨(some 34), (.load false 1 (.t 33)), none⟩,
              ⟨(some 35), (.move (.t 34)), none⟩,
              ⟨(some 36), (.move (.t 2)), (some (35, true))⟩,
              ⟨(some 37), (.move (.t 0)), (some (35, true))⟩,
              ⟨(some 38), (.nilCheck (.t 37)), (some (35, true))⟩,
              ⟨(some 39), (.fieldAddr 0 (.t 38)), (some (35, true))⟩,
              ⟨(some 40), (.load false 1 (.t 39)), (some (35, true))⟩,
              ⟨(some 41), (.call (.c (.func 88 [] [])) [.t 36, .t 40]), (some (35, true))⟩,
              ⟨(some 42), (.un (.not) (.t 41)), (some (35, true))⟩,
              ⟨(some 43), (.pick (.t 35) (.t 42) (.c (.bool false))), none⟩,
              ⟨(some 30), (.move (.t 43)), none⟩])
            (.cond (.t 30) (.seq (.region [⟨(some 6), (.move (.c (.int (.i64) 35))), none⟩])
              (.ret))
             (.skip))))))))))))
  (.seq (.draw [⟨5, ⟨(some 49), (.buildSlice [.int (.i64) 0] 0 []), none⟩, (.eff)⟩,
     ⟨6, ⟨(some 50), (.move (.t 2)), none⟩, (.quiet [0, 1])⟩,
     ⟨7, ⟨(some 51), (.append 1 8 (.t 49) (.t 50)), none⟩, (.eff)⟩,
     ⟨4, ⟨(some 48), (.move (.t 1)), none⟩, (.quiet [0, 1, 3])⟩,
     ⟨0, ⟨(some 44), (.move (.t 0)), none⟩, (.quiet [0, 1, 3])⟩,
     ⟨1, ⟨(some 45), (.nilCheck (.t 44)), none⟩, (.quiet [0, 1, 3])⟩,
     ⟨2, ⟨(some 46), (.fieldAddr 7 (.t 45)), none⟩, (.quiet [0, 1, 3])⟩,
     ⟨3, ⟨(some 47), (.load false 1 (.t 46)), none⟩, (.quiet [0, 1, 3])⟩,
     ⟨8, ⟨none, (.mapUpdate (.one (.int)) (.t 47) (.t 48) (.t 51)), none⟩, (.eff)⟩] 0)
   (.seq (.region [⟨(some 6), (.move (.c (.int (.i64) 0))), none⟩])
    (.ret))))⟩
theorem ok116 : compFunc prog glb 116 p116 = some c116 := by kernel_rfl
/-- (*signalbox/procs.Table).End -/
def p117 : List Plan := []
def c117 : CFunc := ⟨36, [.tmp 6],
 .seq (.region [⟨(some 6), (.move (.c (.bool false))), none⟩])
 (.seq (.seq (.region [⟨(some 8), (.move (.t 0)), none⟩,
     ⟨(some 9), (.move (.t 1)), none⟩,
     ⟨(some 10), (.call (.c (.func 163 [] [])) [.t 8, .t 9]), none⟩,
     ⟨(some 11), (.call (.c (.func 164 [] [])) [.t 10]), none⟩,
     ⟨(some 12), (.un (.not) (.t 11)), none⟩])
   (.cond (.t 12) (.seq (.region [⟨(some 6), (.move (.c (.bool false))), none⟩])
     (.ret))
    (.skip)))
  (.seq (.region [⟨(some 13), (.move (.t 0)), none⟩,
     ⟨(some 14), (.nilCheck (.t 13)), none⟩,
     ⟨(some 15), (.fieldAddr 2 (.t 14)), none⟩,
     ⟨(some 16), (.load false 1 (.t 15)), none⟩,
     ⟨(some 17), (.move (.t 1)), none⟩,
     ⟨(some 18), (.bin (.sub) (.t 17) (.c (.int (.i64) 1))), none⟩,
     ⟨(some 19), (.indexAddr 5 (.t 16) (.t 18)), none⟩,
     ⟨(some 7), (.move (.t 19)), none⟩])
   (.seq (.region [⟨(some 20), (.move (.t 7)), none⟩,
      ⟨(some 21), (.move (.t 7)), none⟩,
      ⟨(some 22), (.move (.t 7)), none⟩,
      ⟨(some 23), (.build [.int (.i64) 0, .int (.i64) 0] []), none⟩,
      ⟨(some 24), (.move (.t 2)), none⟩,
      ⟨(some 25), (.nilCheck (.t 20)), none⟩,
      ⟨(some 26), (.fieldAddr 0 (.t 25)), none⟩,
      ⟨none, (.store 1 (.t 26) (.c (.int (.i64) 3))), none⟩,
      ⟨(some 27), (.nilCheck (.t 21)), none⟩,
      ⟨(some 28), (.fieldAddr 2 (.t 27)), none⟩,
      ⟨none, (.store 2 (.t 28) (.t 23)), none⟩,
      ⟨(some 29), (.nilCheck (.t 22)), none⟩,
      ⟨(some 30), (.fieldAddr 4 (.t 29)), none⟩,
      ⟨none, (.store 1 (.t 30) (.t 24)), none⟩])
    (.seq (.seq (.region [⟨(some 31), (.move (.t 2)), none⟩,
        ⟨(some 32), (.bin (.neq) (.t 31) (.c (.int (.i64) 0))), none⟩])
      (.cond (.t 32) (.region [⟨(some 33), (.move (.t 7)), none⟩,
         ⟨(some 34), (.nilCheck (.t 33)), none⟩,
         ⟨(some 35), (.fieldAddr 0 (.t 34)), none⟩,
         ⟨none, (.store 1 (.t 35) (.c (.int (.i64) 4))), none⟩])
       (.skip)))
     (.seq (.region [⟨(some 6), (.move (.c (.bool true))), none⟩])
      (.ret))))))⟩
theorem ok117 : compFunc prog glb 117 p117 = some c117 := by kernel_rfl
/-- (*signalbox/procs.Table).State -/
def p118 : List Plan := []
def c118 : CFunc := ⟨9, [.tmp 4],
 .seq (.region [⟨(some 4), (.move (.c (.int (.i64) 0))), none⟩])
 (.seq (.region [⟨(some 5), (.move (.t 0)), none⟩,
    ⟨(some 6), (.move (.t 1)), none⟩,
    ⟨(some 7), (.call (.c (.func 163 [] [])) [.t 5, .t 6]), none⟩,
    ⟨(some 8), (.part false 0 1 (.t 7)), none⟩,
    ⟨(some 4), (.move (.t 8)), none⟩])
  (.ret))⟩
theorem ok118 : compFunc prog glb 118 p118 = some c118 := by kernel_rfl
/-- (*signalbox/alloc.Alloc).in -/
def p119 : List Plan := []
def c119 : CFunc := ⟨21, [.tmp 4],
 .seq (.region [⟨(some 4), (.move (.c (.bool false))), none⟩])
 (.seq (.seq (.region [⟨(some 7), (.move (.t 0)), none⟩,
     ⟨(some 8), (.eq (.ptr) false (.t 7) (.c (.nilPtr))), none⟩])
   (.cond (.t 8) (.seq (.region [⟨(some 4), (.move (.c (.bool false))), none⟩])
     (.ret))
    (.skip)))
  (.seq (.region [⟨(some 9), (.move (.t 0)), none⟩,
     ⟨(some 10), (.call (.c (.func 144 [] [])) [.t 9]), none⟩])
   (.seq (.region [⟨(some 12), (.move (.t 0)), none⟩,
      ⟨(some 13), (.nilCheck (.t 12)), none⟩,
      ⟨(some 14), (.fieldAddr 7 (.t 13)), none⟩,
      ⟨(some 15), (.load false 1 (.t 14)), none⟩,
      ⟨(some 16), (.move (.t 1)), none⟩,
      ⟨(some 17), (.lookup (.one (.int)) (.nilSlice) true (.t 15) (.t 16)), none⟩,
      ⟨(some 11), (.move (.t 17)), none⟩,
      ⟨(some 18), (.extract (.t 11) 0), none⟩,
      ⟨(some 19), (.extract (.t 11) 1), none⟩,
      ⟨(some 5), (.move (.t 18)), none⟩,
      ⟨(some 6), (.move (.t 19)), none⟩])
    (.seq (.region [⟨(some 20), (.move (.t 6)), none⟩,
       ⟨(some 4), (.move (.t 20)), none⟩])
     (.ret)))))⟩
theorem ok119 : compFunc prog glb 119 p119 = some c119 := by kernel_rfl
/-- (*signalbox/procs.Table).Kids -/
def p120 : List Plan := []
def c120 : CFunc := ⟨9, [.tmp 4],
 .seq (.region [⟨(some 3), (.box (.t 1)), none⟩,
   ⟨(some 4), (.move (.c (.int (.i64) 0))), none⟩])
 (.seq (.region [⟨(some 5), (.move (.t 0)), none⟩,
    ⟨(some 6), (.func 166 [] [.t 3]), none⟩,
    ⟨(some 7), (.call (.c (.func 154 [] [])) [.t 5, .t 6]), none⟩,
    ⟨(some 8), (.len (.slice) (.t 7)), none⟩,
    ⟨(some 4), (.move (.t 8)), none⟩])
  (.ret))⟩
theorem ok120 : compFunc prog glb 120 p120 = some c120 := by kernel_rfl
/-- (*signalbox/procs.Table).Block -/
def p121 : List Plan := [⟨[(0, .quiet [0]), (3, .quiet [0]), (4, .quiet [0]), (5, .eff), (2, .quiet [0, 4]), (1, .quiet [0, 4]), (6, .quiet [4]), (7, .quiet [4]), (8, .eff)], 0, [0, 0, 0, 1, 9, 25, 63, 127, 255]⟩]
def c121 : CFunc := ⟨36, [.tmp 6],
 .seq (.region [⟨(some 5), (.box (.t 2)), none⟩,
   ⟨(some 6), (.move (.c (.bool false))), none⟩])
 (.seq (.seq (.region [⟨(some 8), (.move (.t 0)), none⟩,
     ⟨(some 9), (.move (.t 1)), none⟩,
     ⟨(some 10), (.call (.c (.func 118 [] [])) [.t 8, .t 9]), none⟩,
     ⟨(some 11), (.bin (.neq) (.t 10) (.c (.int (.i64) 1))), none⟩,
     ⟨(some 12), (.move (.t 11)), none⟩,
     ⟨(some 13), (.fieldAddr 0 (.t 5)), (some (12, false))⟩,
     ⟨(some 14), (.load false 1 (.t 13)), (some (12, false))⟩,
     ⟨(some 15), (.bin (.lss) (.t 14) (.c (.int (.i64) 1))), (some (12, false))⟩,
     ⟨(some 16), (.pick (.t 12) (.c (.bool true)) (.t 15)), none⟩,
     ⟨(some 17), (.move (.t 16)), none⟩,
     ⟨(some 18), (.fieldAddr 0 (.t 5)), (some (17, false))⟩,
     ⟨(some 19), (.load false 1 (.t 18)), (some (17, false))⟩,
     ⟨(some 20), (.bin (.gtr) (.t 19) (.c (.int (.i64) 5))), (some (17, false))⟩,
     ⟨(some 21), (.pick (.t 17) (.c (.bool true)) (.t 20)), none⟩])
   (.cond (.t 21) (.seq (.region [⟨(some 6), (.move (.c (.bool false))), none⟩])
     (.ret))
    (.skip)))
  (.seq (.region [⟨(some 22), (.move (.t 0)), none⟩,
     ⟨(some 23), (.nilCheck (.t 22)), none⟩,
     ⟨(some 24), (.fieldAddr 2 (.t 23)), none⟩,
     ⟨(some 25), (.load false 1 (.t 24)), none⟩,
     ⟨(some 26), (.move (.t 1)), none⟩,
     ⟨(some 27), (.bin (.sub) (.t 26) (.c (.int (.i64) 1))), none⟩,
     ⟨(some 28), (.indexAddr 5 (.t 25) (.t 27)), none⟩,
     ⟨(some 7), (.move (.t 28)), none⟩])
   (.seq (.draw [⟨0, ⟨(some 29), (.move (.t 7)), none⟩, (.quiet [0])⟩,
      ⟨3, ⟨(some 32), (.nilCheck (.t 29)), none⟩, (.quiet [0])⟩,
      ⟨4, ⟨(some 33), (.fieldAddr 0 (.t 32)), none⟩, (.quiet [0])⟩,
      ⟨5, ⟨none, (.store 1 (.t 33) (.c (.int (.i64) 2))), none⟩, (.eff)⟩,
      ⟨2, ⟨(some 31), (.load true 2 (.t 5)), none⟩, (.quiet [0, 4])⟩,
      ⟨1, ⟨(some 30), (.move (.t 7)), none⟩, (.quiet [0, 4])⟩,
      ⟨6, ⟨(some 34), (.nilCheck (.t 30)), none⟩, (.quiet [4])⟩,
      ⟨7, ⟨(some 35), (.fieldAddr 2 (.t 34)), none⟩, (.quiet [4])⟩,
      ⟨8, ⟨none, (.store 2 (.t 35) (.t 31)), none⟩, (.eff)⟩] 0)
    (.seq (.region [⟨(some 6), (.move (.c (.bool true))), none⟩])
     (.ret)))))⟩
theorem ok121 : compFunc prog glb 121 p121 = some c121 := by kernel_rfl
/-- (*sync/atomic.Int64).Add -/
def p122 : List Plan := []
def c122 : CFunc := ⟨10, [.tmp 4],
 .seq (.region [⟨(some 4), (.move (.c (.int (.i64) 0))), none⟩])
 (.seq (.region [⟨(some 5), (.move (.t 0)), none⟩,
    ⟨(some 6), (.nilCheck (.t 5)), none⟩,
    ⟨(some 7), (.fieldAddr 0 (.t 6)), none⟩,
    ⟨(some 8), (.move (.t 1)), none⟩,
    ⟨(some 9), (.ext (Ext.atomicAdd (.i64)) [.t 7, .t 8]), none⟩,
    ⟨(some 4), (.move (.t 9)), none⟩])
  (.ret))⟩
theorem ok122 : compFunc prog glb 122 p122 = some c122 := by kernel_rfl
/-- (*signalbox/region.queue[int]).put -/
def p123 : List Plan := []
def c123 : CFunc := ⟨13, [],
 .region [⟨(some 4), (.move (.t 0)), none⟩,
  ⟨(some 5), (.move (.t 0)), none⟩,
  ⟨(some 6), (.nilCheck (.t 5)), none⟩,
  ⟨(some 7), (.fieldAddr 0 (.t 6)), none⟩,
  ⟨(some 8), (.load false 1 (.t 7)), none⟩,
  ⟨(some 9), (.move (.t 1)), none⟩,
  ⟨(some 10), (.append 1 8 (.t 8) (.t 9)), none⟩,
  ⟨(some 11), (.nilCheck (.t 4)), none⟩,
  ⟨(some 12), (.fieldAddr 0 (.t 11)), none⟩,
  ⟨none, (.store 1 (.t 12) (.t 10)), none⟩]⟩
theorem ok123 : compFunc prog glb 123 p123 = some c123 := by kernel_rfl
/-- (*signalbox/region.Region).is -/
def p124 : List Plan := []
def c124 : CFunc := ⟨13, [.tmp 4],
 .seq (.region [⟨(some 4), (.move (.c (.bool false))), none⟩])
 (.seq (.region [⟨(some 5), (.move (.t 1)), none⟩,
    ⟨(some 6), (.bin (.gtr) (.t 5) (.c (.int (.i64) 0))), none⟩,
    ⟨(some 7), (.move (.t 6)), none⟩,
    ⟨(some 8), (.move (.t 0)), (some (7, true))⟩,
    ⟨(some 9), (.call (.c (.func 55 [] [])) [.t 8]), (some (7, true))⟩,
    ⟨(some 10), (.move (.t 1)), (some (7, true))⟩,
    ⟨(some 11), (.bin (.eql) (.t 9) (.t 10)), (some (7, true))⟩,
    ⟨(some 12), (.pick (.t 7) (.t 11) (.c (.bool false))), none⟩,
    ⟨(some 4), (.move (.t 12)), none⟩])
  (.ret))⟩
theorem ok124 : compFunc prog glb 124 p124 = some c124 := by kernel_rfl
/-- (*signalbox/region.Region).next -/
def p125 : List Plan := []
def c125 : CFunc := ⟨18, [.tmp 2, .tmp 3],
 .seq (.region [⟨(some 2), (.move (.c (.int (.i64) 0))), none⟩,
   ⟨(some 3), (.move (.c (.bool false))), none⟩])
 (.seq (.region [⟨(some 5), (.move (.t 0)), none⟩,
    ⟨(some 6), (.move (.t 0)), none⟩,
    ⟨(some 7), (.nilCheck (.t 6)), none⟩,
    ⟨(some 8), (.fieldAddr 1 (.t 7)), none⟩,
    ⟨(some 9), (.call (.c (.func 168 [] [])) [.t 8]), none⟩,
    ⟨(some 4), (.move (.t 9)), none⟩,
    ⟨(some 10), (.extract (.t 4) 0), none⟩,
    ⟨(some 11), (.extract (.t 4) 1), none⟩,
    ⟨(some 12), (.nilCheck (.t 5)), none⟩,
    ⟨(some 13), (.fieldAddr 0 (.t 12)), none⟩,
    ⟨none, (.store 1 (.t 13) (.t 10)), none⟩])
  (.seq (.region [⟨(some 14), (.move (.t 0)), none⟩,
     ⟨(some 15), (.nilCheck (.t 14)), none⟩,
     ⟨(some 16), (.fieldAddr 0 (.t 15)), none⟩,
     ⟨(some 17), (.load false 1 (.t 16)), none⟩,
     ⟨(some 2), (.move (.t 17)), none⟩,
     ⟨(some 3), (.move (.c (.bool true))), none⟩])
   (.ret)))⟩
theorem ok125 : compFunc prog glb 125 p125 = some c125 := by kernel_rfl
/-- (*signalbox/alloc.Alloc).are -/
def p126 : List Plan := []
def c126 : CFunc := ⟨12, [.tmp 4],
 .seq (.region [⟨(some 4), (.move (.c (.bool false))), none⟩])
 (.seq (.region [⟨(some 5), (.move (.t 1)), none⟩,
    ⟨(some 6), (.move (.t 0)), none⟩,
    ⟨(some 7), (.nilCheck (.t 6)), none⟩,
    ⟨(some 8), (.fieldAddr 0 (.t 7)), none⟩,
    ⟨(some 9), (.load false 1 (.t 8)), none⟩,
    ⟨(some 10), (.len (.slice) (.t 9)), none⟩,
    ⟨(some 11), (.call (.c (.func 41 [] [])) [.t 5, .t 10]), none⟩,
    ⟨(some 4), (.move (.t 11)), none⟩])
  (.ret))⟩
theorem ok126 : compFunc prog glb 126 p126 = some c126 := by kernel_rfl
/-- slices.ContainsFunc[[]signalbox/alloc.Ask,signalbox/alloc.Ask] -/
def p127 : List Plan := []
def c127 : CFunc := ⟨9, [.tmp 4],
 .seq (.region [⟨(some 4), (.move (.c (.bool false))), none⟩])
 (.seq (.region [⟨(some 5), (.move (.t 0)), none⟩,
    ⟨(some 6), (.move (.t 1)), none⟩,
    ⟨(some 7), (.call (.c (.func 109 [] [])) [.t 5, .t 6]), none⟩,
    ⟨(some 8), (.bin (.geq) (.t 7) (.c (.int (.i64) 0))), none⟩,
    ⟨(some 4), (.move (.t 8)), none⟩])
  (.ret))⟩
theorem ok127 : compFunc prog glb 127 p127 = some c127 := by kernel_rfl
/-- slices.Clone[[]int,int] -/
def p128 : List Plan := []
def c128 : CFunc := ⟨8, [.tmp 2],
 .seq (.region [⟨(some 2), (.move (.c (.nilSlice))), none⟩])
 (.seq (.seq (.region [⟨(some 3), (.move (.t 0)), none⟩,
     ⟨(some 4), (.eq (.slice) false (.t 3) (.c (.nilSlice))), none⟩])
   (.cond (.t 4) (.seq (.region [⟨(some 2), (.move (.c (.nilSlice))), none⟩])
     (.ret))
    (.skip)))
  (.seq (.region [⟨(some 5), (.buildSlice [.int (.i64) 0] 0 []), none⟩,
     ⟨(some 6), (.move (.t 0)), none⟩,
     ⟨(some 7), (.append 1 8 (.t 5) (.t 6)), none⟩,
     ⟨(some 2), (.move (.t 7)), none⟩])
   (.ret)))⟩
theorem ok128 : compFunc prog glb 128 p128 = some c128 := by kernel_rfl
/-- (*signalbox/alloc.Alloc).scan -/
def p129 : List Plan := []
def c129 : CFunc := ⟨43, [.tmp 2],
 .seq (.region [⟨(some 2), (.move (.c (.nilSlice))), none⟩])
 (.seq (.region [⟨(some 3), (.move (.c (.nilSlice))), none⟩])
  (.seq (.seq (.region [⟨(some 6), (.move (.t 0)), none⟩,
      ⟨(some 7), (.nilCheck (.t 6)), none⟩,
      ⟨(some 8), (.fieldAddr 8 (.t 7)), none⟩,
      ⟨(some 9), (.load false 1 (.t 8)), none⟩,
      ⟨(some 10), (.len (.slice) (.t 9)), none⟩,
      ⟨(some 11), (.move (.c (.int (.i64) 0))), none⟩])
    (.block 0 (.loop (.seq (.region [⟨(some 12), (.bin (.lss) (.t 11) (.t 10)), none⟩])
       (.seq (.cond (.t 12) (.skip)
         (.exit 0))
        (.seq (.block 1 (.seq (.region [⟨(some 13), (.indexAddr 2 (.t 9) (.t 11)), none⟩,
             ⟨(some 14), (.load true 2 (.t 13)), none⟩,
             ⟨(some 5), (.new [.int (.i64) 0, .nilSlice]), none⟩,
             ⟨none, (.store 2 (.t 5) (.t 14)), none⟩])
           (.seq (.seq (.region [⟨(some 15), (.move (.t 0)), none⟩,
               ⟨(some 16), (.load true 2 (.t 5)), none⟩,
               ⟨(some 17), (.move (.t 3)), none⟩,
               ⟨(some 18), (.len (.slice) (.t 17)), none⟩,
               ⟨(some 19), (.bin (.gtr) (.t 18) (.c (.int (.i64) 0))), none⟩,
               ⟨(some 20), (.call (.c (.func 169 [] [])) [.t 15, .t 16, .t 19]), none⟩,
               ⟨(some 21), (.un (.not) (.t 20)), none⟩])
             (.cond (.t 21) (.seq (.region [⟨(some 22), (.move (.t 3)), none⟩,
                 ⟨(some 23), (.load true 2 (.t 5)), none⟩,
                 ⟨(some 24), (.buildSlice [.int (.i64) 0, .nilSlice] 1 [(0, 2, .t 23)]), none⟩,
                 ⟨(some 25), (.append 2 32 (.t 22) (.t 24)), none⟩,
                 ⟨(some 3), (.move (.t 25)), none⟩])
               (.exit 1))
              (.skip)))
            (.seq (.region [⟨(some 26), (.move (.t 0)), none⟩,
               ⟨(some 27), (.fieldAddr 0 (.t 5)), none⟩,
               ⟨(some 28), (.load false 1 (.t 27)), none⟩,
               ⟨(some 29), (.fieldAddr 1 (.t 5)), none⟩,
               ⟨(some 30), (.load false 1 (.t 29)), none⟩,
               ⟨(some 31), (.call (.c (.func 132 [] [])) [.t 26, .t 28, .t 30, .c (.int (.i64) 1)]), none⟩])
             (.region [⟨(some 32), (.move (.t 2)), none⟩,
               ⟨(some 33), (.fieldAddr 0 (.t 5)), none⟩,
               ⟨(some 34), (.load false 1 (.t 33)), none⟩,
               ⟨(some 35), (.buildSlice [.int (.i64) 0] 1 [(0, 1, .t 34)]), none⟩,
               ⟨(some 36), (.append 1 8 (.t 32) (.t 35)), none⟩,
               ⟨(some 2), (.move (.t 36)), none⟩])))))
         (.region [⟨(some 37), (.bin (.add) (.t 11) (.c (.int (.i64) 1))), none⟩,
           ⟨(some 11), (.move (.t 37)), none⟩])))))))
   (.seq (.region [⟨(some 38), (.move (.t 0)), none⟩,
      ⟨(some 39), (.move (.t 3)), none⟩,
      ⟨(some 40), (.nilCheck (.t 38)), none⟩,
      ⟨(some 41), (.fieldAddr 8 (.t 40)), none⟩,
      ⟨none, (.store 1 (.t 41) (.t 39)), none⟩])
    (.seq (.region [⟨(some 42), (.move (.t 2)), none⟩,
       ⟨(some 2), (.move (.t 42)), none⟩])
     (.ret)))))⟩
theorem ok129 : compFunc prog glb 129 p129 = some c129 := by kernel_rfl
/-- slices.Index[[]int,int] -/
def p130 : List Plan := []
def c130 : CFunc := ⟨19, [.tmp 4],
 .seq (.region [⟨(some 4), (.move (.c (.int (.i64) 0))), none⟩])
 (.seq (.seq (.region [⟨(some 6), (.move (.t 0)), none⟩,
     ⟨(some 7), (.len (.slice) (.t 6)), none⟩,
     ⟨(some 8), (.move (.c (.int (.i64) 0))), none⟩])
   (.block 0 (.loop (.seq (.region [⟨(some 9), (.bin (.lss) (.t 8) (.t 7)), none⟩])
      (.seq (.cond (.t 9) (.skip)
        (.exit 0))
       (.seq (.block 1 (.seq (.region [⟨(some 10), (.move (.t 8)), none⟩,
            ⟨(some 5), (.move (.t 10)), none⟩])
          (.seq (.region [⟨(some 11), (.move (.t 1)), none⟩,
             ⟨(some 12), (.move (.t 0)), none⟩,
             ⟨(some 13), (.move (.t 5)), none⟩,
             ⟨(some 14), (.indexAddr 1 (.t 12) (.t 13)), none⟩,
             ⟨(some 15), (.load false 1 (.t 14)), none⟩,
             ⟨(some 16), (.bin (.eql) (.t 11) (.t 15)), none⟩])
           (.cond (.t 16) (.seq (.region [⟨(some 17), (.move (.t 5)), none⟩,
               ⟨(some 4), (.move (.t 17)), none⟩])
             (.ret))
            (.skip)))))
        (.region [⟨(some 18), (.bin (.add) (.t 8) (.c (.int (.i64) 1))), none⟩,
          ⟨(some 8), (.move (.t 18)), none⟩])))))))
  (.seq (.region [⟨(some 4), (.move (.c (.int (.i64) (-1)))), none⟩])
   (.ret)))⟩
theorem ok130 : compFunc prog glb 130 p130 = some c130 := by kernel_rfl
/-- signalbox/units.sum -/
def p131 : List Plan := []
def c131 : CFunc := ⟨16, [.tmp 2],
 .seq (.region [⟨(some 2), (.move (.c (.int (.i64) 0))), none⟩])
 (.seq (.seq (.region [⟨(some 5), (.move (.t 0)), none⟩,
     ⟨(some 6), (.len (.slice) (.t 5)), none⟩,
     ⟨(some 7), (.move (.c (.int (.i64) 0))), none⟩])
   (.block 0 (.loop (.seq (.region [⟨(some 8), (.bin (.lss) (.t 7) (.t 6)), none⟩])
      (.seq (.cond (.t 8) (.skip)
        (.exit 0))
       (.seq (.block 1 (.seq (.region [⟨(some 9), (.indexAddr 1 (.t 5) (.t 7)), none⟩,
            ⟨(some 10), (.load false 1 (.t 9)), none⟩,
            ⟨(some 4), (.move (.t 10)), none⟩])
          (.region [⟨(some 11), (.move (.t 2)), none⟩,
            ⟨(some 12), (.move (.t 4)), none⟩,
            ⟨(some 13), (.bin (.add) (.t 11) (.t 12)), none⟩,
            ⟨(some 2), (.move (.t 13)), none⟩])))
        (.region [⟨(some 14), (.bin (.add) (.t 7) (.c (.int (.i64) 1))), none⟩,
          ⟨(some 7), (.move (.t 14)), none⟩])))))))
  (.seq (.region [⟨(some 15), (.move (.t 2)), none⟩,
     ⟨(some 2), (.move (.t 15)), none⟩])
   (.ret)))⟩
theorem ok131 : compFunc prog glb 131 p131 = some c131 := by kernel_rfl
/-- (*signalbox/alloc.Alloc).move -/
def p132 : List Plan := [⟨[(9, .quiet [0]), (8, .quiet [0]), (10, .quiet [0]), (5, .quiet [0]), (4, .quiet [0]), (6, .quiet [0]), (0, .quiet [0]), (1, .quiet [0]), (2, .quiet [0]), (3, .quiet [0]), (12, .eff), (13, .quiet [11]), (7, .quiet [0, 11]), (11, .quiet [0, 11]), (14, .eff)], 0, [0, 1, 3, 7, 0, 0, 48, 127, 0, 0, 768, 2047, 1919, 6015, 16383]⟩]
def c132 : CFunc := ⟨44, [],
 .seq (.region [⟨(some 10), (.move (.t 2)), none⟩,
   ⟨(some 11), (.len (.slice) (.t 10)), none⟩,
   ⟨(some 12), (.move (.c (.int (.i64) 0))), none⟩])
 (.block 0 (.loop (.seq (.region [⟨(some 13), (.bin (.lss) (.t 12) (.t 11)), none⟩])
    (.seq (.cond (.t 13) (.skip)
      (.exit 0))
     (.seq (.block 1 (.seq (.region [⟨(some 14), (.move (.t 12)), none⟩,
          ⟨(some 15), (.indexAddr 1 (.t 10) (.t 12)), none⟩,
          ⟨(some 16), (.load false 1 (.t 15)), none⟩,
          ⟨(some 8), (.move (.t 14)), none⟩,
          ⟨(some 9), (.move (.t 16)), none⟩])
        (.seq (.region [⟨(some 17), (.move (.t 0)), none⟩,
           ⟨(some 18), (.nilCheck (.t 17)), none⟩,
           ⟨(some 19), (.fieldAddr 5 (.t 18)), none⟩,
           ⟨(some 20), (.load false 1 (.t 19)), none⟩,
           ⟨(some 21), (.move (.t 8)), none⟩,
           ⟨(some 22), (.indexAddr 1 (.t 20) (.t 21)), none⟩,
           ⟨(some 23), (.load false 1 (.t 22)), none⟩,
           ⟨(some 24), (.move (.t 3)), none⟩,
           ⟨(some 25), (.move (.t 9)), none⟩,
           ⟨(some 26), (.bin (.mul) (.t 24) (.t 25)), none⟩,
           ⟨(some 27), (.bin (.sub) (.t 23) (.t 26)), none⟩,
           ⟨(some 28), (.indexAddr 1 (.t 20) (.t 21)), none⟩,
           ⟨none, (.store 1 (.t 28) (.t 27)), none⟩])
         (.draw [⟨9, ⟨(some 38), (.move (.t 9)), none⟩, (.quiet [0])⟩,
           ⟨8, ⟨(some 37), (.move (.t 3)), none⟩, (.quiet [0])⟩,
           ⟨10, ⟨(some 39), (.bin (.mul) (.t 37) (.t 38)), none⟩, (.quiet [0])⟩,
           ⟨5, ⟨(some 34), (.move (.t 8)), none⟩, (.quiet [0])⟩,
           ⟨4, ⟨(some 33), (.move (.t 1)), none⟩, (.quiet [0])⟩,
           ⟨6, ⟨(some 35), (.build [.int (.i64) 0, .int (.i64) 0] [(0, 1, .t 33), (1, 1, .t 34)]), none⟩, (.quiet [0])⟩,
           ⟨0, ⟨(some 29), (.move (.t 0)), none⟩, (.quiet [0])⟩,
           ⟨1, ⟨(some 30), (.nilCheck (.t 29)), none⟩, (.quiet [0])⟩,
           ⟨2, ⟨(some 31), (.fieldAddr 6 (.t 30)), none⟩, (.quiet [0])⟩,
           ⟨3, ⟨(some 32), (.load false 1 (.t 31)), none⟩, (.quiet [0])⟩,
           ⟨12, ⟨(some 41), (.mapEntry (.flat [.int, .int]) (.int (.i64) 0) (.t 32) (.t 35)), none⟩, (.eff)⟩,
           ⟨13, ⟨(some 42), (.extract (.t 41) 1), none⟩, (.quiet [11])⟩,
           ⟨7, ⟨(some 36), (.lookup (.flat [.int, .int]) (.int (.i64) 0) false (.t 32) (.t 35)), none⟩, (.quiet [0, 11])⟩,
           ⟨11, ⟨(some 40), (.bin (.add) (.t 36) (.t 39)), none⟩, (.quiet [0, 11])⟩,
           ⟨14, ⟨none, (.entryStore (.t 32) (.t 42) (.t 40)), none⟩, (.eff)⟩] 0))))
      (.region [⟨(some 43), (.bin (.add) (.t 12) (.c (.int (.i64) 1))), none⟩,
        ⟨(some 12), (.move (.t 43)), none⟩]))))))⟩
theorem ok132 : compFunc prog glb 132 p132 = some c132 := by kernel_rfl
/-- (*signalbox/kernel.Kernel).grants$1 -/
def p133 : List Plan := []
def c133 : CFunc := ⟨8, [.tmp 3],
 .seq (.region [⟨(some 2), (.box (.t 0)), none⟩,
   ⟨(some 3), (.move (.c (.bool false))), none⟩])
 (.seq (.region [⟨(some 4), (.fieldAddr 0 (.t 2)), none⟩,
    ⟨(some 5), (.load false 1 (.t 4)), none⟩,
    ⟨(some 6), (.load false 1 (.t 1)), none⟩,
    ⟨(some 7), (.bin (.eql) (.t 5) (.t 6)), none⟩,
    ⟨(some 3), (.move (.t 7)), none⟩])
  (.ret))⟩
theorem ok133 : compFunc prog glb 133 p133 = some c133 := by kernel_rfl
/-- slices.DeleteFunc[[]signalbox/alloc.Ask,signalbox/alloc.Ask] -/
def p134 : List Plan := []
def c134 : CFunc := ⟨42, [.tmp 4],
 .seq (.region [⟨(some 4), (.move (.c (.nilSlice))), none⟩])
 (.seq (.region [⟨(some 8), (.move (.t 0)), none⟩,
    ⟨(some 9), (.move (.t 1)), none⟩,
    ⟨(some 10), (.call (.c (.func 109 [] [])) [.t 8, .t 9]), none⟩,
    ⟨(some 5), (.move (.t 10)), none⟩])
  (.seq (.seq (.region [⟨(some 11), (.move (.t 5)), none⟩,
      ⟨(some 12), (.bin (.eql) (.t 11) (.c (.int (.i64) (-1)))), none⟩])
    (.cond (.t 12) (.seq (.region [⟨(some 13), (.move (.t 0)), none⟩,
        ⟨(some 4), (.move (.t 13)), none⟩])
      (.ret))
     (.skip)))
   (.seq (.seq (.region [⟨(some 14), (.move (.t 5)), none⟩,
       ⟨(some 15), (.bin (.add) (.t 14) (.c (.int (.i64) 1))), none⟩,
       ⟨(some 6), (.move (.t 15)), none⟩])
     (.block 0 (.loop (.seq (.seq (.region [⟨(some 16), (.move (.t 6)), none⟩,
           ⟨(some 17), (.move (.t 0)), none⟩,
           ⟨(some 18), (.len (.slice) (.t 17)), none⟩,
           ⟨(some 19), (.bin (.lss) (.t 16) (.t 18)), none⟩])
         (.cond (.t 19) (.skip)
          (.exit 0)))
        (.seq (.block 1 (.seq (.region [⟨(some 22), (.move (.t 0)), none⟩,
             ⟨(some 23), (.move (.t 6)), none⟩,
             ⟨(some 24), (.indexAddr 2 (.t 22) (.t 23)), none⟩,
             ⟨(some 25), (.load true 2 (.t 24)), none⟩,
             ⟨(some 7), (.new [.int (.i64) 0, .nilSlice]), none⟩,
             ⟨none, (.store 2 (.t 7) (.t 25)), none⟩])
           (.seq (.region [⟨(some 26), (.move (.t 1)), none⟩,
              ⟨(some 27), (.load true 2 (.t 7)), none⟩,
              ⟨(some 28), (.call (.t 26) [.t 27]), none⟩,
              ⟨(some 29), (.un (.not) (.t 28)), none⟩])
            (.cond (.t 29) (.seq (.region [⟨(some 30), (.move (.t 0)), none⟩,
                ⟨(some 31), (.move (.t 5)), none⟩,
                ⟨(some 32), (.load true 2 (.t 7)), none⟩,
                ⟨(some 33), (.indexAddr 2 (.t 30) (.t 31)), none⟩,
                ⟨none, (.store 2 (.t 33) (.t 32)), none⟩])
              (.region [⟨(some 34), (.move (.t 5)), none⟩,
                ⟨(some 35), (.bin (.add) (.t 34) (.c (.int (.i64) 1))), none⟩,
                ⟨(some 5), (.move (.t 35)), none⟩]))
             (.skip)))))
         (.region [⟨(some 20), (.move (.t 6)), none⟩,
           ⟨(some 21), (.bin (.add) (.t 20) (.c (.int (.i64) 1))), none⟩,
           ⟨(some 6), (.move (.t 21)), none⟩]))))))
    (.seq (.region [⟨(some 36), (.move (.t 0)), none⟩,
       ⟨(some 37), (.move (.t 5)), none⟩,
       ⟨(some 38), (.slice 2 (.t 36) (some (.t 37)) none none), none⟩,
       ⟨none, (.clear [.int (.i64) 0, .nilSlice] (.t 38)), none⟩])
     (.seq (.region [⟨(some 39), (.move (.t 0)), none⟩,
        ⟨(some 40), (.move (.t 5)), none⟩,
        ⟨(some 41), (.slice 2 (.t 39) none (some (.t 40)) none), none⟩,
        ⟨(some 4), (.move (.t 41)), none⟩])
      (.ret))))))⟩
theorem ok134 : compFunc prog glb 134 p134 = some c134 := by kernel_rfl
/-- (*signalbox/alloc.Alloc).Leave$1 -/
def p136 : List Plan := []
def c136 : CFunc := ⟨10, [.tmp 5],
 .seq (.region [⟨(some 3), (.box (.t 0)), none⟩,
   ⟨(some 5), (.move (.c (.bool false))), none⟩])
 (.seq (.region [⟨(some 6), (.fieldAddr 0 (.t 3)), none⟩,
    ⟨(some 7), (.load false 1 (.t 6)), none⟩,
    ⟨(some 8), (.load false 1 (.t 2)), none⟩,
    ⟨(some 9), (.bin (.eql) (.t 7) (.t 8)), none⟩,
    ⟨(some 5), (.move (.t 9)), none⟩])
  (.ret))⟩
theorem ok136 : compFunc prog glb 136 p136 = some c136 := by kernel_rfl
/-- (*signalbox/procs.Table).Parent -/
def p137 : List Plan := []
def c137 : CFunc := ⟨9, [.tmp 4],
 .seq (.region [⟨(some 4), (.move (.c (.int (.i64) 0))), none⟩])
 (.seq (.region [⟨(some 5), (.move (.t 0)), none⟩,
    ⟨(some 6), (.move (.t 1)), none⟩,
    ⟨(some 7), (.call (.c (.func 163 [] [])) [.t 5, .t 6]), none⟩,
    ⟨(some 8), (.part false 1 1 (.t 7)), none⟩,
    ⟨(some 4), (.move (.t 8)), none⟩])
  (.ret))⟩
theorem ok137 : compFunc prog glb 137 p137 = some c137 := by kernel_rfl
/-- (*signalbox/procs.Table).Why -/
def p138 : List Plan := []
def c138 : CFunc := ⟨9, [.cell 4 true 2],
 .seq (.region [⟨(some 4), (.new [.int (.i64) 0, .int (.i64) 0]), none⟩])
 (.seq (.region [⟨(some 5), (.move (.t 0)), none⟩,
    ⟨(some 6), (.move (.t 1)), none⟩,
    ⟨(some 7), (.call (.c (.func 163 [] [])) [.t 5, .t 6]), none⟩,
    ⟨(some 8), (.part true 2 2 (.t 7)), none⟩,
    ⟨none, (.store 2 (.t 4) (.t 8)), none⟩])
  (.ret))⟩
theorem ok138 : compFunc prog glb 138 p138 = some c138 := by kernel_rfl
/-- (*sync/atomic.Int64).Store -/
def p139 : List Plan := []
def c139 : CFunc := ⟨9, [],
 .region [⟨(some 4), (.move (.t 0)), none⟩,
  ⟨(some 5), (.nilCheck (.t 4)), none⟩,
  ⟨(some 6), (.fieldAddr 0 (.t 5)), none⟩,
  ⟨(some 7), (.move (.t 1)), none⟩,
  ⟨(some 8), (.ext (Ext.atomicStore (.i64)) [.t 6, .t 7]), none⟩]⟩
theorem ok139 : compFunc prog glb 139 p139 = some c139 := by kernel_rfl
/-- signalbox/signalboxref1.in -/
def p140 : List Plan := []
def c140 : CFunc := ⟨15, [.tmp 6],
 .seq (.region [⟨(some 6), (.move (.c (.bool false))), none⟩])
 (.seq (.region [⟨(some 7), (.move (.t 0)), none⟩,
    ⟨(some 8), (.move (.t 1)), none⟩,
    ⟨(some 9), (.bin (.geq) (.t 7) (.t 8)), none⟩,
    ⟨(some 10), (.move (.t 9)), none⟩,
    ⟨(some 11), (.move (.t 0)), (some (10, true))⟩,
    ⟨(some 12), (.move (.t 2)), (some (10, true))⟩,
    ⟨(some 13), (.bin (.leq) (.t 11) (.t 12)), (some (10, true))⟩,
    ⟨(some 14), (.pick (.t 10) (.t 13) (.c (.bool false))), none⟩,
    ⟨(some 6), (.move (.t 14)), none⟩])
  (.ret))⟩
theorem ok140 : compFunc prog glb 140 p140 = some c140 := by kernel_rfl
/-- signalbox/signalboxref1.Is -/
def p141 : List Plan := []
def c141 : CFunc := ⟨22, [.tmp 4],
 .seq (.region [⟨(some 4), (.move (.c (.bool false))), none⟩])
 (.seq (.seq (.region [⟨(some 6), (.move (.t 0)), none⟩,
     ⟨(some 7), (.len (.slice) (.t 6)), none⟩,
     ⟨(some 8), (.move (.t 1)), none⟩,
     ⟨(some 9), (.bin (.neq) (.t 7) (.t 8)), none⟩])
   (.cond (.t 9) (.seq (.region [⟨(some 4), (.move (.c (.bool false))), none⟩])
     (.ret))
    (.skip)))
  (.seq (.seq (.region [⟨(some 5), (.move (.c (.int (.i64) 0))), none⟩])
    (.block 0 (.loop (.seq (.seq (.region [⟨(some 10), (.move (.t 5)), none⟩,
          ⟨(some 11), (.move (.t 0)), none⟩,
          ⟨(some 12), (.len (.slice) (.t 11)), none⟩,
          ⟨(some 13), (.bin (.lss) (.t 10) (.t 12)), none⟩])
        (.cond (.t 13) (.skip)
         (.exit 0)))
       (.seq (.block 1 (.seq (.region [⟨(some 16), (.move (.t 0)), none⟩,
            ⟨(some 17), (.move (.t 5)), none⟩,
            ⟨(some 18), (.indexAddr 1 (.t 16) (.t 17)), none⟩,
            ⟨(some 19), (.load false 1 (.t 18)), none⟩,
            ⟨(some 20), (.call (.c (.func 140 [] [])) [.t 19, .c (.int (.i64) 0), .c (.int (.i64) 1000)]), none⟩,
            ⟨(some 21), (.un (.not) (.t 20)), none⟩])
          (.cond (.t 21) (.seq (.region [⟨(some 4), (.move (.c (.bool false))), none⟩])
            (.ret))
           (.skip))))
        (.region [⟨(some 14), (.move (.t 5)), none⟩,
          ⟨(some 15), (.bin (.add) (.t 14) (.c (.int (.i64) 1))), none⟩,
          ⟨(some 5), (.move (.t 15)), none⟩]))))))
   (.seq (.region [⟨(some 4), (.move (.c (.bool true))), none⟩])
    (.ret))))⟩
theorem ok141 : compFunc prog glb 141 p141 = some c141 := by kernel_rfl
/-- signalbox/signalboxref1.Has -/
def p142 : List Plan := []
def c142 : CFunc := ⟨18, [.tmp 4],
 .seq (.region [⟨(some 4), (.move (.c (.bool false))), none⟩])
 (.seq (.seq (.region [⟨(some 5), (.move (.c (.int (.i64) 0))), none⟩])
   (.block 0 (.loop (.seq (.seq (.region [⟨(some 6), (.move (.t 5)), none⟩,
         ⟨(some 7), (.move (.t 0)), none⟩,
         ⟨(some 8), (.len (.slice) (.t 7)), none⟩,
         ⟨(some 9), (.bin (.lss) (.t 6) (.t 8)), none⟩])
       (.cond (.t 9) (.skip)
        (.exit 0)))
      (.seq (.block 1 (.seq (.region [⟨(some 12), (.move (.t 0)), none⟩,
           ⟨(some 13), (.move (.t 5)), none⟩,
           ⟨(some 14), (.indexAddr 1 (.t 12) (.t 13)), none⟩,
           ⟨(some 15), (.load false 1 (.t 14)), none⟩,
           ⟨(some 16), (.move (.t 1)), none⟩,
           ⟨(some 17), (.bin (.eql) (.t 15) (.t 16)), none⟩])
         (.cond (.t 17) (.seq (.region [⟨(some 4), (.move (.c (.bool true))), none⟩])
           (.ret))
          (.skip))))
       (.region [⟨(some 10), (.move (.t 5)), none⟩,
         ⟨(some 11), (.bin (.add) (.t 10) (.c (.int (.i64) 1))), none⟩,
         ⟨(some 5), (.move (.t 11)), none⟩]))))))
  (.seq (.region [⟨(some 4), (.move (.c (.bool false))), none⟩])
   (.ret)))⟩
theorem ok142 : compFunc prog glb 142 p142 = some c142 := by kernel_rfl
/-- signalbox/signalboxref1.Copy -/
def p143 : List Plan := []
def c143 : CFunc := ⟨6, [.tmp 2],
 .seq (.region [⟨(some 2), (.move (.c (.nilSlice))), none⟩])
 (.seq (.region [⟨(some 3), (.buildSlice [.int (.i64) 0] 0 []), none⟩,
    ⟨(some 4), (.move (.t 0)), none⟩,
    ⟨(some 5), (.append 1 8 (.t 3) (.t 4)), none⟩,
    ⟨(some 2), (.move (.t 5)), none⟩])
  (.ret))⟩
theorem ok143 : compFunc prog glb 143 p143 = some c143 := by kernel_rfl
/-- (*signalbox/alloc.Alloc).begin -/
def p144 : List Plan := []
def c144 : CFunc := ⟨7, [],
 .seq (.region [⟨(some 1), (.box (.t 0)), none⟩])
 (.region [⟨(some 2), (.load false 1 (.t 1)), none⟩,
   ⟨(some 3), (.nilCheck (.t 2)), none⟩,
   ⟨(some 4), (.fieldAddr 2 (.t 3)), none⟩,
   ⟨(some 5), (.func 172 [] [.t 1]), none⟩,
   ⟨(some 6), (.call (.c (.func 171 [] [])) [.t 4, .t 5]), none⟩])⟩
theorem ok144 : compFunc prog glb 144 p144 = some c144 := by kernel_rfl
/-- slices.IndexFunc[[]int,int] -/
def p147 : List Plan := []
def c147 : CFunc := ⟨19, [.tmp 4],
 .seq (.region [⟨(some 4), (.move (.c (.int (.i64) 0))), none⟩])
 (.seq (.seq (.region [⟨(some 6), (.move (.t 0)), none⟩,
     ⟨(some 7), (.len (.slice) (.t 6)), none⟩,
     ⟨(some 8), (.move (.c (.int (.i64) 0))), none⟩])
   (.block 0 (.loop (.seq (.region [⟨(some 9), (.bin (.lss) (.t 8) (.t 7)), none⟩])
      (.seq (.cond (.t 9) (.skip)
        (.exit 0))
       (.seq (.block 1 (.seq (.region [⟨(some 10), (.move (.t 8)), none⟩,
            ⟨(some 5), (.move (.t 10)), none⟩])
          (.seq (.region [⟨(some 11), (.move (.t 1)), none⟩,
             ⟨(some 12), (.move (.t 0)), none⟩,
             ⟨(some 13), (.move (.t 5)), none⟩,
             ⟨(some 14), (.indexAddr 1 (.t 12) (.t 13)), none⟩,
             ⟨(some 15), (.load false 1 (.t 14)), none⟩,
             ⟨(some 16), (.call (.t 11) [.t 15]), none⟩])
           (.cond (.t 16) (.seq (.region [⟨(some 17), (.move (.t 5)), none⟩,
               ⟨(some 4), (.move (.t 17)), none⟩])
             (.ret))
            (.skip)))))
        (.region [⟨(some 18), (.bin (.add) (.t 8) (.c (.int (.i64) 1))), none⟩,
          ⟨(some 8), (.move (.t 18)), none⟩])))))))
  (.seq (.region [⟨(some 4), (.move (.c (.int (.i64) (-1)))), none⟩])
   (.ret)))⟩
theorem ok147 : compFunc prog glb 147 p147 = some c147 := by kernel_rfl
/-- signalbox/units.pairs -/
def p148 : List Plan := []
def c148 : CFunc := ⟨6, [.tmp 4],
 .seq (.region [⟨(some 2), (.box (.t 0)), none⟩,
   ⟨(some 3), (.box (.t 1)), none⟩,
   ⟨(some 4), (.move (.c (.nilFunc))), none⟩])
 (.seq (.region [⟨(some 5), (.func 176 [] [.t 2, .t 3]), none⟩,
    ⟨(some 4), (.move (.t 5)), none⟩])
  (.ret))⟩
theorem ok148 : compFunc prog glb 148 p148 = some c148 := by kernel_rfl
/-- signalbox/bank.Safe -/
def p149 : List Plan := []
def c149 : CFunc := ⟨17, [.tmp 6],
 .seq (.region [⟨(some 6), (.move (.c (.bool false))), none⟩])
 (.seq (.region [⟨(some 10), (.move (.t 0)), none⟩,
    ⟨(some 11), (.move (.t 1)), none⟩,
    ⟨(some 12), (.move (.t 2)), none⟩,
    ⟨(some 13), (.call (.c (.func 177 [] [])) [.t 10, .t 11, .t 12]), none⟩,
    ⟨(some 9), (.move (.t 13)), none⟩,
    ⟨(some 14), (.extract (.t 9) 0), none⟩,
    ⟨(some 15), (.extract (.t 9) 1), none⟩,
    ⟨(some 7), (.move (.t 14)), none⟩,
    ⟨(some 8), (.move (.t 15)), none⟩])
  (.seq (.region [⟨(some 16), (.move (.t 8)), none⟩,
     ⟨(some 6), (.move (.t 16)), none⟩])
   (.ret)))⟩
theorem ok149 : compFunc prog glb 149 p149 = some c149 := by kernel_rfl
/-- signalbox/audit.those[signalbox/sema.Sema] -/
def p150 : List Plan := []
def c150 : CFunc := ⟨4, [.tmp 2],
 .seq (.region [⟨(some 1), (.box (.t 0)), none⟩,
   ⟨(some 2), (.move (.c (.nilFunc))), none⟩])
 (.seq (.region [⟨(some 3), (.func 178 [] [.t 1]), none⟩,
    ⟨(some 2), (.move (.t 3)), none⟩])
  (.ret))⟩
theorem ok150 : compFunc prog glb 150 p150 = some c150 := by kernel_rfl
/-- signalbox/audit.those[signalbox/region.Region] -/
def p151 : List Plan := []
def c151 : CFunc := ⟨4, [.tmp 2],
 .seq (.region [⟨(some 1), (.box (.t 0)), none⟩,
   ⟨(some 2), (.move (.c (.nilFunc))), none⟩])
 (.seq (.region [⟨(some 3), (.func 179 [] [.t 1]), none⟩,
    ⟨(some 2), (.move (.t 3)), none⟩])
  (.ret))⟩
theorem ok151 : compFunc prog glb 151 p151 = some c151 := by kernel_rfl
/-- (*signalbox/region.queue[int]).all -/
def p152 : List Plan := []
def c152 : CFunc := ⟨8, [.tmp 2],
 .seq (.region [⟨(some 2), (.move (.c (.nilSlice))), none⟩])
 (.seq (.region [⟨(some 3), (.move (.t 0)), none⟩,
    ⟨(some 4), (.nilCheck (.t 3)), none⟩,
    ⟨(some 5), (.fieldAddr 0 (.t 4)), none⟩,
    ⟨(some 6), (.load false 1 (.t 5)), none⟩,
    ⟨(some 7), (.call (.c (.func 128 [] [])) [.t 6]), none⟩,
    ⟨(some 2), (.move (.t 7)), none⟩])
  (.ret))⟩
theorem ok152 : compFunc prog glb 152 p152 = some c152 := by kernel_rfl
/-- slices.Grow[[]int,int] -/
def p153 : List Plan := []
def c153 : CFunc := ⟨27, [.tmp 4],
 .seq (.region [⟨(some 4), (.move (.c (.nilSlice))), none⟩])
 (.seq (.seq (.region [⟨(some 5), (.move (.t 1)), none⟩,
     ⟨(some 6), (.bin (.lss) (.t 5) (.c (.int (.i64) 0))), none⟩])
   (.cond (.t 6) (.region [⟨(some 7), (.iface 9 (.c (.str [99, 97, 110, 110, 111, 116, 32, 98, 101, 32, 110, 101, 103, 97, 116, 105, 118, 101]))), none⟩,
      ⟨none, (.dead), none⟩])
    (.skip)))
  (.seq (.seq (.region [⟨(some 8), (.move (.t 1)), none⟩,
      ⟨(some 9), (.move (.t 0)), none⟩,
      ⟨(some 10), (.dead), none⟩,
      ⟨(some 11), (.move (.t 0)), none⟩,
      ⟨(some 12), (.len (.slice) (.t 11)), none⟩,
      ⟨(some 13), (.bin (.sub) (.t 10) (.t 12)), none⟩,
      ⟨(some 14), (.bin (.sub) (.t 8) (.t 13)), none⟩,
      ⟨(some 1), (.move (.t 14)), none⟩])
    (.seq (.region [⟨(some 15), (.move (.t 1)), none⟩,
       ⟨(some 16), (.bin (.gtr) (.t 15) (.c (.int (.i64) 0))), none⟩])
     (.cond (.t 16) (.region [⟨(some 17), (.move (.t 0)), none⟩,
        ⟨(some 18), (.move (.t 0)), none⟩,
        ⟨(some 19), (.dead), none⟩,
        ⟨(some 20), (.slice 1 (.t 17) none (some (.t 19)) none), none⟩,
        ⟨(some 21), (.move (.t 1)), none⟩,
        ⟨(some 22), (.dead), none⟩,
        ⟨(some 23), (.move (.t 0)), none⟩,
        ⟨(some 24), (.len (.slice) (.t 23)), none⟩,
        ⟨(some 25), (.slice 1 (.t 22) none (some (.t 24)) none), none⟩,
        ⟨(some 0), (.move (.t 25)), none⟩])
      (.skip))))
   (.seq (.region [⟨(some 26), (.move (.t 0)), none⟩,
      ⟨(some 4), (.move (.t 26)), none⟩])
    (.ret))))⟩
theorem ok153 : compFunc prog glb 153 p153 = some c153 := by kernel_rfl
/-- (*signalbox/procs.Table).those -/
def p154 : List Plan := []
def c154 : CFunc := ⟨22, [.tmp 4],
 .seq (.region [⟨(some 4), (.move (.c (.nilSlice))), none⟩])
 (.seq (.seq (.region [⟨(some 5), (.move (.c (.int (.i64) 1))), none⟩])
   (.block 0 (.loop (.seq (.seq (.region [⟨(some 6), (.move (.t 5)), none⟩,
         ⟨(some 7), (.move (.t 0)), none⟩,
         ⟨(some 8), (.call (.c (.func 40 [] [])) [.t 7]), none⟩,
         ⟨(some 9), (.bin (.leq) (.t 6) (.t 8)), none⟩])
       (.cond (.t 9) (.skip)
        (.exit 0)))
      (.seq (.block 1 (.seq (.region [⟨(some 12), (.move (.t 1)), none⟩,
           ⟨(some 13), (.move (.t 0)), none⟩,
           ⟨(some 14), (.move (.t 5)), none⟩,
           ⟨(some 15), (.call (.c (.func 163 [] [])) [.t 13, .t 14]), none⟩,
           ⟨(some 16), (.call (.t 12) [.t 15]), none⟩])
         (.cond (.t 16) (.region [⟨(some 17), (.move (.t 4)), none⟩,
            ⟨(some 18), (.move (.t 5)), none⟩,
            ⟨(some 19), (.buildSlice [.int (.i64) 0] 1 [(0, 1, .t 18)]), none⟩,
            ⟨(some 20), (.append 1 8 (.t 17) (.t 19)), none⟩,
            ⟨(some 4), (.move (.t 20)), none⟩])
          (.skip))))
       (.region [⟨(some 10), (.move (.t 5)), none⟩,
         ⟨(some 11), (.bin (.add) (.t 10) (.c (.int (.i64) 1))), none⟩,
         ⟨(some 5), (.move (.t 11)), none⟩]))))))
  (.seq (.region [⟨(some 21), (.move (.t 4)), none⟩,
     ⟨(some 4), (.move (.t 21)), none⟩])
   (.ret)))⟩
theorem ok154 : compFunc prog glb 154 p154 = some c154 := by kernel_rfl
/-- (*signalbox/procs.Table).Blocked$1 -/
def p155 : List Plan := []
def c155 : CFunc := ⟨6, [.tmp 2],
 .seq (.region [⟨(some 1), (.box (.t 0)), none⟩,
   ⟨(some 2), (.move (.c (.bool false))), none⟩])
 (.seq (.region [⟨(some 3), (.fieldAddr 0 (.t 1)), none⟩,
    ⟨(some 4), (.load false 1 (.t 3)), none⟩,
    ⟨(some 5), (.bin (.eql) (.t 4) (.c (.int (.i64) 2))), none⟩,
    ⟨(some 2), (.move (.t 5)), none⟩])
  (.ret))⟩
theorem ok155 : compFunc prog glb 155 p155 = some c155 := by kernel_rfl
/-- (signalbox/audit.look).asks -/
def p156 : List Plan := []
def c156 : CFunc := ⟨11, [.tmp 4],
 .seq (.region [⟨(some 2), (.box (.t 0)), none⟩,
   ⟨(some 3), (.box (.t 1)), none⟩,
   ⟨(some 4), (.move (.c (.bool false))), none⟩])
 (.seq (.region [⟨(some 5), (.fieldAddr 0 (.t 2)), none⟩,
    ⟨(some 6), (.load false 1 (.t 5)), none⟩,
    ⟨(some 7), (.call (.c (.func 24 [] [])) [.t 6]), none⟩,
    ⟨(some 8), (.call (.c (.func 67 [] [])) [.t 7]), none⟩,
    ⟨(some 9), (.func 180 [] [.t 3]), none⟩,
    ⟨(some 10), (.call (.c (.func 127 [] [])) [.t 8, .t 9]), none⟩,
    ⟨(some 4), (.move (.t 10)), none⟩])
  (.ret))⟩
theorem ok156 : compFunc prog glb 156 p156 = some c156 := by kernel_rfl
/-- (*signalbox/procs.Table).Ready$1 -/
def p157 : List Plan := []
def c157 : CFunc := ⟨6, [.tmp 2],
 .seq (.region [⟨(some 1), (.box (.t 0)), none⟩,
   ⟨(some 2), (.move (.c (.bool false))), none⟩])
 (.seq (.region [⟨(some 3), (.fieldAddr 0 (.t 1)), none⟩,
    ⟨(some 4), (.load false 1 (.t 3)), none⟩,
    ⟨(some 5), (.bin (.eql) (.t 4) (.c (.int (.i64) 1))), none⟩,
    ⟨(some 2), (.move (.t 5)), none⟩])
  (.ret))⟩
theorem ok157 : compFunc prog glb 157 p157 = some c157 := by kernel_rfl
/-- signalbox/alloc.of$1 -/
def p158 : List Plan := []
def c158 : CFunc := ⟨8, [.tmp 3],
 .seq (.region [⟨(some 2), (.box (.t 0)), none⟩,
   ⟨(some 3), (.move (.c (.bool false))), none⟩])
 (.seq (.region [⟨(some 4), (.fieldAddr 0 (.t 2)), none⟩,
    ⟨(some 5), (.load false 1 (.t 4)), none⟩,
    ⟨(some 6), (.load false 1 (.t 1)), none⟩,
    ⟨(some 7), (.bin (.eql) (.t 5) (.t 6)), none⟩,
    ⟨(some 3), (.move (.t 7)), none⟩])
  (.ret))⟩
theorem ok158 : compFunc prog glb 158 p158 = some c158 := by kernel_rfl
/-- signalbox/holt.May -/
def p159 : List Plan := []
def c159 : CFunc := ⟨53, [.tmp 6],
 .seq (.region [⟨(some 6), (.move (.c (.bool false))), none⟩])
 (.seq (.region [⟨(some 9), (.move (.t 0)), none⟩,
    ⟨(some 10), (.len (.slice) (.t 9)), none⟩,
    ⟨(some 7), (.move (.t 10)), none⟩])
  (.seq (.seq (.region [⟨(some 11), (.move (.t 7)), none⟩,
      ⟨(some 12), (.bin (.gtr) (.t 11) (.c (.int (.i64) 6))), none⟩,
      ⟨(some 13), (.move (.t 12)), none⟩,
      ⟨(some 14), (.move (.t 0)), (some (13, false))⟩,
      ⟨(some 15), (.move (.t 7)), (some (13, false))⟩,
      ⟨(some 16), (.call (.c (.func 41 [] [])) [.t 14, .t 15]), (some (13, false))⟩,
      ⟨(some 17), (.un (.not) (.t 16)), (some (13, false))⟩,
      ⟨(some 18), (.pick (.t 13) (.c (.bool true)) (.t 17)), none⟩,
      ⟨(some 19), (.move (.t 18)), none⟩,
      ⟨(some 20), (.move (.t 1)), (some (19, false))⟩,
      ⟨(some 21), (.len (.slice) (.t 20)), (some (19, false))⟩,
      ⟨(some 22), (.move (.t 2)), (some (19, false))⟩,
      ⟨(some 23), (.len (.slice) (.t 22)), (some (19, false))⟩,
      ⟨(some 24), (.bin (.neq) (.t 21) (.t 23)), (some (19, false))⟩,
      ⟨(some 25), (.pick (.t 19) (.c (.bool true)) (.t 24)), none⟩,
      ⟨(some 26), (.move (.t 25)), none⟩,
      ⟨(some 27), (.move (.t 1)), (some (26, false))⟩,
      ⟨(some 28), (.len (.slice) (.t 27)), (some (26, false))⟩,
      ⟨(some 29), (.bin (.gtr) (.t 28) (.c (.int (.i64) 32))), (some (26, false))⟩,
      ⟨(some 30), (.pick (.t 26) (.c (.bool true)) (.t 29)), none⟩])
    (.cond (.t 30) (.seq (.region [⟨(some 6), (.move (.c (.bool false))), none⟩])
      (.ret))
     (.skip)))
   (.seq (.seq (.region [⟨(some 31), (.move (.t 1)), none⟩,
       ⟨(some 32), (.len (.slice) (.t 31)), none⟩,
       ⟨(some 33), (.move (.c (.int (.i64) 0))), none⟩])
     (.block 0 (.loop (.seq (.region [⟨(some 34), (.bin (.lss) (.t 33) (.t 32)), none⟩])
        (.seq (.cond (.t 34) (.skip)
          (.exit 0))
         (.seq (.block 1 (.seq (.region [⟨(some 35), (.move (.t 33)), none⟩,
              ⟨(some 8), (.move (.t 35)), none⟩])
            (.seq (.region [⟨(some 36), (.move (.t 1)), none⟩,
               ⟨(some 37), (.move (.t 8)), none⟩,
               ⟨(some 38), (.indexAddr 1 (.t 36) (.t 37)), none⟩,
               ⟨(some 39), (.load false 1 (.t 38)), none⟩,
               ⟨(some 40), (.move (.t 7)), none⟩,
               ⟨(some 41), (.call (.c (.func 41 [] [])) [.t 39, .t 40]), none⟩,
               ⟨(some 42), (.un (.not) (.t 41)), none⟩,
               ⟨(some 43), (.move (.t 42)), none⟩,
               ⟨(some 44), (.move (.t 2)), (some (43, false))⟩,
               ⟨(some 45), (.move (.t 8)), (some (43, false))⟩,
               ⟨(some 46), (.indexAddr 1 (.t 44) (.t 45)), (some (43, false))⟩,
               ⟨(some 47), (.load false 1 (.t 46)), (some (43, false))⟩,
               ⟨(some 48), (.move (.t 7)), (some (43, false))⟩,
               ⟨(some 49), (.call (.c (.func 41 [] [])) [.t 47, .t 48]), (some (43, false))⟩,
               ⟨(some 50), (.un (.not) (.t 49)), (some (43, false))⟩,
               ⟨(some 51), (.pick (.t 43) (.c (.bool true)) (.t 50)), none⟩])
             (.cond (.t 51) (.seq (.region [⟨(some 6), (.move (.c (.bool false))), none⟩])
               (.ret))
              (.skip)))))
          (.region [⟨(some 52), (.bin (.add) (.t 33) (.c (.int (.i64) 1))), none⟩,
            ⟨(some 33), (.move (.t 52)), none⟩])))))))
    (.seq (.region [⟨(some 6), (.move (.c (.bool true))), none⟩])
     (.ret)))))⟩
theorem ok159 : compFunc prog glb 159 p159 = some c159 := by kernel_rfl
/-- signalbox/holt.Stuck$1 -/
def p160 : List Plan := [⟨[(4, .quiet [0]), (1, .quiet [0]), (0, .quiet [0]), (2, .quiet [0]), (3, .quiet [0]), (5, .eff), (6, .quiet [6])], 0, [0, 0, 3, 7, 0, 31, 63]⟩, ⟨[(2, .quiet [0]), (1, .quiet [0]), (3, .quiet [0]), (4, .quiet [0]), (0, .quiet [0]), (5, .eff)], 0, [0, 0, 0, 6, 14, 31]⟩]
def c160 : CFunc := ⟨44, [],
 .seq (.region [⟨(some 8), (.load false 1 (.t 0)), none⟩,
   ⟨none, (.clear [.int (.i64) 0] (.t 8)), none⟩])
 (.seq (.region [⟨(some 9), (.load false 1 (.t 0)), none⟩,
    ⟨(some 10), (.slice 1 (.t 9) none (some (.c (.int (.i64) 0))) none), none⟩,
    ⟨none, (.store 1 (.t 0) (.t 10)), none⟩])
  (.seq (.region [⟨(some 6), (.move (.c (.bool false))), none⟩])
   (.seq (.seq (.region [⟨(some 11), (.load false 1 (.t 1)), none⟩,
       ⟨(some 12), (.len (.slice) (.t 11)), none⟩,
       ⟨(some 13), (.move (.c (.int (.i64) 0))), none⟩])
     (.block 0 (.loop (.seq (.region [⟨(some 14), (.bin (.lss) (.t 13) (.t 12)), none⟩])
        (.seq (.cond (.t 14) (.skip)
          (.exit 0))
         (.seq (.block 1 (.seq (.region [⟨(some 15), (.move (.t 13)), none⟩,
              ⟨(some 7), (.move (.t 15)), none⟩])
            (.block 2 (.seq (.region [⟨(some 21), (.load false 1 (.t 2)), none⟩,
                ⟨(some 22), (.move (.t 7)), none⟩,
                ⟨(some 23), (.lookup (.one (.int)) (.bool false) false (.t 21) (.t 22)), none⟩,
                ⟨(some 24), (.un (.not) (.t 23)), none⟩,
                ⟨(some 20), (.move (.t 24)), none⟩])
              (.cond (.t 20) (.skip)
               (.seq (.draw [⟨4, ⟨(some 30), (.load false 1 (.t 4)), none⟩, (.quiet [0])⟩,
                  ⟨1, ⟨(some 27), (.move (.t 7)), none⟩, (.quiet [0])⟩,
                  ⟨0, ⟨(some 26), (.load false 1 (.t 3)), none⟩, (.quiet [0])⟩,
                  ⟨2, ⟨(some 28), (.indexAddr 1 (.t 26) (.t 27)), none⟩, (.quiet [0])⟩,
                  ⟨3, ⟨(some 29), (.load false 1 (.t 28)), none⟩, (.quiet [0])⟩,
                  ⟨5, ⟨(some 31), (.call (.c (.func 88 [] [])) [.t 29, .t 30]), none⟩, (.eff)⟩,
                  ⟨6, ⟨(some 25), (.move (.t 31)), none⟩, (.quiet [6])⟩] 0)
                (.cond (.t 25) (.seq (.draw [⟨2, ⟨(some 34), (.move (.t 7)), none⟩, (.quiet [0])⟩,
                    ⟨1, ⟨(some 33), (.load false 1 (.t 1)), none⟩, (.quiet [0])⟩,
                    ⟨3, ⟨(some 35), (.indexAddr 1 (.t 33) (.t 34)), none⟩, (.quiet [0])⟩,
                    ⟨4, ⟨(some 36), (.load false 1 (.t 35)), none⟩, (.quiet [0])⟩,
                    ⟨0, ⟨(some 32), (.load false 1 (.t 4)), none⟩, (.quiet [0])⟩,
                    ⟨5, ⟨(some 37), (.call (.c (.func 161 [] [])) [.t 32, .t 36]), none⟩, (.eff)⟩] 0)
                  (.region [⟨(some 38), (.load false 1 (.t 2)), none⟩,
                    ⟨(some 39), (.move (.t 7)), none⟩,
                    ⟨none, (.mapUpdate (.one (.int)) (.t 38) (.t 39) (.c (.bool false))), none⟩,
                    ⟨(some 6), (.move (.c (.bool true))), none⟩]))
                 (.region [⟨(some 16), (.load false 1 (.t 0)), none⟩,
                   ⟨(some 17), (.move (.t 7)), none⟩,
                   ⟨(some 18), (.buildSlice [.int (.i64) 0] 1 [(0, 1, .t 17)]), none⟩,
                   ⟨(some 19), (.append 1 8 (.t 16) (.t 18)), none⟩,
                   ⟨none, (.store 1 (.t 0) (.t 19)), none⟩]))))))))
          (.region [⟨(some 40), (.bin (.add) (.t 13) (.c (.int (.i64) 1))), none⟩,
            ⟨(some 13), (.move (.t 40)), none⟩])))))))
    (.seq (.region [⟨(some 41), (.move (.t 6)), none⟩])
     (.cond (.t 41) (.region [⟨(some 42), (.load false 1 (.t 5)), none⟩,
        ⟨(some 43), (.call (.t 42) []), none⟩])
      (.skip))))))⟩
theorem ok160 : compFunc prog glb 160 p160 = some c160 := by kernel_rfl
/-- signalbox/holt.add -/
def p161 : List Plan := []
def c161 : CFunc := ⟨21, [],
 .seq (.region [⟨(some 6), (.move (.t 1)), none⟩,
   ⟨(some 7), (.len (.slice) (.t 6)), none⟩,
   ⟨(some 8), (.move (.c (.int (.i64) 0))), none⟩])
 (.block 0 (.loop (.seq (.region [⟨(some 9), (.bin (.lss) (.t 8) (.t 7)), none⟩])
    (.seq (.cond (.t 9) (.skip)
      (.exit 0))
     (.seq (.block 1 (.seq (.region [⟨(some 10), (.move (.t 8)), none⟩,
          ⟨(some 11), (.indexAddr 1 (.t 6) (.t 8)), none⟩,
          ⟨(some 12), (.load false 1 (.t 11)), none⟩,
          ⟨(some 4), (.move (.t 10)), none⟩,
          ⟨(some 5), (.move (.t 12)), none⟩])
        (.region [⟨(some 13), (.move (.t 0)), none⟩,
          ⟨(some 14), (.move (.t 4)), none⟩,
          ⟨(some 15), (.indexAddr 1 (.t 13) (.t 14)), none⟩,
          ⟨(some 16), (.load false 1 (.t 15)), none⟩,
          ⟨(some 17), (.move (.t 5)), none⟩,
          ⟨(some 18), (.bin (.add) (.t 16) (.t 17)), none⟩,
          ⟨(some 19), (.indexAddr 1 (.t 13) (.t 14)), none⟩,
          ⟨none, (.store 1 (.t 19) (.t 18)), none⟩])))
      (.region [⟨(some 20), (.bin (.add) (.t 8) (.c (.int (.i64) 1))), none⟩,
        ⟨(some 8), (.move (.t 20)), none⟩]))))))⟩
theorem ok161 : compFunc prog glb 161 p161 = some c161 := by kernel_rfl
/-- (*signalbox/procs.Table).row -/
def p163 : List Plan := []
def c163 : CFunc := ⟨22, [.cell 4 true 5],
 .seq (.region [⟨(some 4), (.new [.int (.i64) 0, .int (.i64) 0, .int (.i64) 0, .int (.i64) 0, .int (.i64) 0]), none⟩])
 (.seq (.seq (.region [⟨(some 5), (.move (.t 1)), none⟩,
     ⟨(some 6), (.bin (.lss) (.t 5) (.c (.int (.i64) 1))), none⟩,
     ⟨(some 7), (.move (.t 6)), none⟩,
     ⟨(some 8), (.move (.t 1)), (some (7, false))⟩,
     ⟨(some 9), (.move (.t 0)), (some (7, false))⟩,
     ⟨(some 10), (.call (.c (.func 40 [] [])) [.t 9]), (some (7, false))⟩,
     ⟨(some 11), (.bin (.gtr) (.t 8) (.t 10)), (some (7, false))⟩,
     ⟨(some 12), (.pick (.t 7) (.c (.bool true)) (.t 11)), none⟩])
   (.cond (.t 12) (.seq (.region [⟨(some 13), (.build [.int (.i64) 0, .int (.i64) 0, .int (.i64) 0, .int (.i64) 0, .int (.i64) 0] []), none⟩,
       ⟨none, (.store 5 (.t 4) (.t 13)), none⟩])
     (.ret))
    (.skip)))
  (.seq (.region [⟨(some 14), (.move (.t 0)), none⟩,
     ⟨(some 15), (.nilCheck (.t 14)), none⟩,
     ⟨(some 16), (.fieldAddr 2 (.t 15)), none⟩,
     ⟨(some 17), (.load false 1 (.t 16)), none⟩,
     ⟨(some 18), (.move (.t 1)), none⟩,
     ⟨(some 19), (.bin (.sub) (.t 18) (.c (.int (.i64) 1))), none⟩,
     ⟨(some 20), (.indexAddr 5 (.t 17) (.t 19)), none⟩,
     ⟨(some 21), (.load true 5 (.t 20)), none⟩,
     ⟨none, (.store 5 (.t 4) (.t 21)), none⟩])
   (.ret)))⟩
theorem ok163 : compFunc prog glb 163 p163 = some c163 := by kernel_rfl
/-- (signalbox/procs.row).live -/
def p164 : List Plan := []
def c164 : CFunc := ⟨11, [.tmp 2],
 .seq (.region [⟨(some 1), (.box (.t 0)), none⟩,
   ⟨(some 2), (.move (.c (.bool false))), none⟩])
 (.seq (.region [⟨(some 3), (.fieldAddr 0 (.t 1)), none⟩,
    ⟨(some 4), (.load false 1 (.t 3)), none⟩,
    ⟨(some 5), (.bin (.eql) (.t 4) (.c (.int (.i64) 1))), none⟩,
    ⟨(some 6), (.move (.t 5)), none⟩,
    ⟨(some 7), (.fieldAddr 0 (.t 1)), (some (6, false))⟩,
    ⟨(some 8), (.load false 1 (.t 7)), (some (6, false))⟩,
    ⟨(some 9), (.bin (.eql) (.t 8) (.c (.int (.i64) 2))), (some (6, false))⟩,
    ⟨(some 10), (.pick (.t 6) (.c (.bool true)) (.t 9)), none⟩,
    ⟨(some 2), (.move (.t 10)), none⟩])
  (.ret))⟩
theorem ok164 : compFunc prog glb 164 p164 = some c164 := by kernel_rfl
/-- (*signalbox/procs.Table).Live -/
def p165 : List Plan := []
def c165 : CFunc := ⟨6, [.tmp 2],
 .seq (.region [⟨(some 2), (.move (.c (.int (.i64) 0))), none⟩])
 (.seq (.region [⟨(some 3), (.move (.t 0)), none⟩,
    ⟨(some 4), (.call (.c (.func 154 [] [])) [.t 3, .c (.func 164 [] [])]), none⟩,
    ⟨(some 5), (.len (.slice) (.t 4)), none⟩,
    ⟨(some 2), (.move (.t 5)), none⟩])
  (.ret))⟩
theorem ok165 : compFunc prog glb 165 p165 = some c165 := by kernel_rfl
/-- (*signalbox/procs.Table).Kids$1 -/
def p166 : List Plan := []
def c166 : CFunc := ⟨16, [.tmp 3],
 .seq (.region [⟨(some 2), (.box (.t 0)), none⟩,
   ⟨(some 3), (.move (.c (.bool false))), none⟩])
 (.seq (.region [⟨(some 4), (.load false 1 (.t 1)), none⟩,
    ⟨(some 5), (.bin (.gtr) (.t 4) (.c (.int (.i64) 0))), none⟩,
    ⟨(some 6), (.move (.t 5)), none⟩,
    ⟨(some 7), (.load true 5 (.t 2)), (some (6, true))⟩,
    ⟨(some 8), (.call (.c (.func 164 [] [])) [.t 7]), (some (6, true))⟩,
    ⟨(some 9), (.pick (.t 6) (.t 8) (.c (.bool false))), none⟩,
    ⟨(some 10), (.move (.t 9)), none⟩,
    ⟨(some 11), (.fieldAddr 1 (.t 2)), (some (10, true))⟩,
    ⟨(some 12), (.load false 1 (.t 11)), (some (10, true))⟩,
    ⟨(some 13), (.load false 1 (.t 1)), (some (10, true))⟩,
    ⟨(some 14), (.bin (.eql) (.t 12) (.t 13)), (some (10, true))⟩,
    ⟨(some 15), (.pick (.t 10) (.t 14) (.c (.bool false))), none⟩,
    ⟨(some 3), (.move (.t 15)), none⟩])
  (.ret))⟩
theorem ok166 : compFunc prog glb 166 p166 = some c166 := by kernel_rfl
/-- (*signalbox/region.queue[int]).take -/
def p168 : List Plan := [⟨[(1, .quiet [0]), (2, .quiet [0]), (3, .quiet [0]), (4, .quiet [0]), (5, .quiet [0]), (6, .quiet [0]), (12, .quiet [0]), (7, .quiet [0]), (8, .quiet [0]), (9, .quiet [0]), (10, .quiet [0]), (11, .quiet [0]), (0, .quiet [0]), (13, .quiet [0]), (14, .quiet [0]), (15, .eff)], 0, [0, 0, 2, 6, 14, 30, 62, 0, 128, 384, 896, 1920, 126, 8191, 16383, 32767]⟩]
def c168 : CFunc := ⟨26, [.tmp 2, .tmp 3],
 .seq (.region [⟨(some 2), (.move (.c (.int (.i64) 0))), none⟩,
   ⟨(some 3), (.move (.c (.bool false))), none⟩])
 (.seq (.seq (.region [⟨(some 4), (.move (.t 0)), none⟩,
     ⟨(some 5), (.nilCheck (.t 4)), none⟩,
     ⟨(some 6), (.fieldAddr 0 (.t 5)), none⟩,
     ⟨(some 7), (.load false 1 (.t 6)), none⟩,
     ⟨(some 8), (.len (.slice) (.t 7)), none⟩,
     ⟨(some 9), (.bin (.eql) (.t 8) (.c (.int (.i64) 0))), none⟩])
   (.cond (.t 9) (.seq (.region [⟨(some 10), (.move (.t 2)), none⟩,
       ⟨(some 2), (.move (.t 10)), none⟩,
       ⟨(some 3), (.move (.c (.bool false))), none⟩])
     (.ret))
    (.skip)))
  (.seq (.draw [⟨1, ⟨(some 12), (.move (.t 0)), none⟩, (.quiet [0])⟩,
     ⟨2, ⟨(some 13), (.nilCheck (.t 12)), none⟩, (.quiet [0])⟩,
     ⟨3, ⟨(some 14), (.fieldAddr 0 (.t 13)), none⟩, (.quiet [0])⟩,
     ⟨4, ⟨(some 15), (.load false 1 (.t 14)), none⟩, (.quiet [0])⟩,
     ⟨5, ⟨(some 16), (.indexAddr 1 (.t 15) (.c (.int (.i64) 0))), none⟩, (.quiet [0])⟩,
     ⟨6, ⟨(some 17), (.load false 1 (.t 16)), none⟩, (.quiet [0])⟩,
     ⟨12, ⟨(some 2), (.move (.t 17)), none⟩, (.quiet [0])⟩,
     ⟨7, ⟨(some 18), (.move (.t 0)), none⟩, (.quiet [0])⟩,
     ⟨8, ⟨(some 19), (.nilCheck (.t 18)), none⟩, (.quiet [0])⟩,
     ⟨9, ⟨(some 20), (.fieldAddr 0 (.t 19)), none⟩, (.quiet [0])⟩,
     ⟨10, ⟨(some 21), (.load false 1 (.t 20)), none⟩, (.quiet [0])⟩,
     ⟨11, ⟨(some 22), (.slice 1 (.t 21) (some (.c (.int (.i64) 1))) none none), none⟩, (.quiet [0])⟩,
     ⟨0, ⟨(some 11), (.move (.t 0)), none⟩, (.quiet [0])⟩,
     ⟨13, ⟨(some 23), (.nilCheck (.t 11)), none⟩, (.quiet [0])⟩,
     ⟨14, ⟨(some 24), (.fieldAddr 0 (.t 23)), none⟩, (.quiet [0])⟩,
     ⟨15, ⟨none, (.store 1 (.t 24) (.t 22)), none⟩, (.eff)⟩] 0)
   (.seq (.region [⟨(some 25), (.move (.t 2)), none⟩,
      ⟨(some 2), (.move (.t 25)), none⟩,
      ⟨(some 3), (.move (.c (.bool true))), none⟩])
    (.ret))))⟩
theorem ok168 : compFunc prog glb 168 p168 = some c168 := by kernel_rfl
/-- (*signalbox/alloc.Alloc).may -/
def p169 : List Plan := [⟨[(2, .quiet [0]), (3, .quiet [0]), (4, .quiet [0]), (5, .quiet [0]), (0, .quiet [0]), (1, .quiet [0]), (6, .eff), (7, .quiet [7])], 0, [0, 1, 0, 4, 12, 28, 63, 127]⟩]
def c169 : CFunc := ⟨41, [.tmp 6],
 .seq (.region [⟨(some 4), (.box (.t 1)), none⟩,
   ⟨(some 6), (.move (.c (.bool false))), none⟩])
 (.seq (.seq (.draw [⟨2, ⟨(some 9), (.move (.t 0)), none⟩, (.quiet [0])⟩,
     ⟨3, ⟨(some 10), (.nilCheck (.t 9)), none⟩, (.quiet [0])⟩,
     ⟨4, ⟨(some 11), (.fieldAddr 5 (.t 10)), none⟩, (.quiet [0])⟩,
     ⟨5, ⟨(some 12), (.load false 1 (.t 11)), none⟩, (.quiet [0])⟩,
     ⟨0, ⟨(some 7), (.fieldAddr 1 (.t 4)), none⟩, (.quiet [0])⟩,
     ⟨1, ⟨(some 8), (.load false 1 (.t 7)), none⟩, (.quiet [0])⟩,
     ⟨6, ⟨(some 13), (.call (.c (.func 88 [] [])) [.t 8, .t 12]), none⟩, (.eff)⟩,
     ⟨7, ⟨(some 14), (.un (.not) (.t 13)), none⟩, (.quiet [7])⟩] 0)
   (.cond (.t 14) (.seq (.region [⟨(some 6), (.move (.c (.bool false))), none⟩])
     (.ret))
    (.skip)))
  (.seq (.seq (.region [⟨(some 15), (.move (.t 0)), none⟩,
      ⟨(some 16), (.nilCheck (.t 15)), none⟩,
      ⟨(some 17), (.fieldAddr 1 (.t 16)), none⟩,
      ⟨(some 18), (.load false 1 (.t 17)), none⟩,
      ⟨(some 19), (.un (.not) (.t 18)), none⟩])
    (.cond (.t 19) (.seq (.region [⟨(some 6), (.move (.c (.bool true))), none⟩])
      (.ret))
     (.skip)))
   (.seq (.seq (.region [⟨(some 20), (.move (.t 2)), none⟩,
       ⟨(some 21), (.move (.t 20)), none⟩,
       ⟨(some 22), (.move (.t 0)), (some (21, true))⟩,
       ⟨(some 23), (.fieldAddr 0 (.t 4)), (some (21, true))⟩,
       ⟨(some 24), (.load false 1 (.t 23)), (some (21, true))⟩,
       ⟨(some 25), (.call (.c (.func 47 [] [])) [.t 22, .t 24]), (some (21, true))⟩,
       ⟨(some 26), (.call (.c (.func 46 [] [])) [.t 25]), (some (21, true))⟩,
       ⟨(some 27), (.pick (.t 21) (.t 26) (.c (.bool false))), none⟩])
     (.cond (.t 27) (.seq (.region [⟨(some 6), (.move (.c (.bool false))), none⟩])
       (.ret))
      (.skip)))
    (.seq (.region [⟨(some 28), (.move (.t 0)), none⟩,
       ⟨(some 29), (.fieldAddr 0 (.t 4)), none⟩,
       ⟨(some 30), (.load false 1 (.t 29)), none⟩,
       ⟨(some 31), (.fieldAddr 1 (.t 4)), none⟩,
       ⟨(some 32), (.load false 1 (.t 31)), none⟩,
       ⟨(some 33), (.call (.c (.func 132 [] [])) [.t 28, .t 30, .t 32, .c (.int (.i64) 1)]), none⟩])
     (.seq (.region [⟨(some 34), (.move (.t 0)), none⟩,
        ⟨(some 35), (.fieldAddr 0 (.t 4)), none⟩,
        ⟨(some 36), (.load false 1 (.t 35)), none⟩,
        ⟨(some 37), (.fieldAddr 1 (.t 4)), none⟩,
        ⟨(some 38), (.load false 1 (.t 37)), none⟩,
        ⟨none, (.defer (.c (.func 132 [] [])) [.t 34, .t 36, .t 38, .c (.int (.i64) (-1))]), none⟩])
      (.seq (.region [⟨(some 39), (.move (.t 0)), none⟩,
         ⟨(some 40), (.call (.c (.func 90 [] [])) [.t 39]), none⟩,
         ⟨(some 6), (.move (.t 40)), none⟩])
       (.ret)))))))⟩
theorem ok169 : compFunc prog glb 169 p169 = some c169 := by kernel_rfl
/-- (*sync.Once).Do -/
def p171 : List Plan := []
def c171 : CFunc := ⟨12, [],
 .seq (.region [⟨(some 4), (.move (.t 0)), none⟩,
   ⟨(some 5), (.nilCheck (.t 4)), none⟩,
   ⟨(some 6), (.fieldAddr 0 (.t 5)), none⟩,
   ⟨(some 7), (.call (.c (.func 181 [] [])) [.t 6]), none⟩,
   ⟨(some 8), (.un (.not) (.t 7)), none⟩])
 (.cond (.t 8) (.region [⟨(some 9), (.move (.t 0)), none⟩,
    ⟨(some 10), (.move (.t 1)), none⟩,
    ⟨(some 11), (.call (.c (.func 182 [] [])) [.t 9, .t 10]), none⟩])
  (.skip))⟩
theorem ok171 : compFunc prog glb 171 p171 = some c171 := by kernel_rfl
/-- (*signalbox/alloc.Alloc).begin$1 -/
def p172 : List Plan := [⟨[(3, .quiet [0]), (4, .quiet [0]), (5, .quiet [0]), (6, .quiet [0]), (7, .eff), (0, .quiet [0, 5]), (10, .quiet [5]), (11, .quiet [5]), (12, .eff), (8, .alloc 0), (1, .quiet [0, 5, 9]), (13, .quiet [9]), (14, .quiet [9]), (15, .eff), (9, .alloc 1), (2, .quiet [0, 5, 9, 14]), (16, .quiet [14]), (17, .quiet [14]), (18, .eff)], 2, [0, 0, 0, 0, 8, 24, 56, 120, 0, 0, 249, 1273, 3321, 7675, 15867, 32251, 65535, 131071, 262143]⟩]
def c172 : CFunc := ⟨17, [],
 .draw [⟨3, ⟨(some 4), (.load false 1 (.t 0)), none⟩, (.quiet [0])⟩,
  ⟨4, ⟨(some 5), (.nilCheck (.t 4)), none⟩, (.quiet [0])⟩,
  ⟨5, ⟨(some 6), (.fieldAddr 0 (.t 5)), none⟩, (.quiet [0])⟩,
  ⟨6, ⟨(some 7), (.load false 1 (.t 6)), none⟩, (.quiet [0])⟩,
  ⟨7, ⟨(some 8), (.call (.c (.func 128 [] [])) [.t 7]), none⟩, (.eff)⟩,
  ⟨0, ⟨(some 1), (.load false 1 (.t 0)), none⟩, (.quiet [0, 5])⟩,
  ⟨10, ⟨(some 11), (.nilCheck (.t 1)), none⟩, (.quiet [5])⟩,
  ⟨11, ⟨(some 12), (.fieldAddr 5 (.t 11)), none⟩, (.quiet [5])⟩,
  ⟨12, ⟨none, (.store 1 (.t 12) (.t 8)), none⟩, (.eff)⟩,
  ⟨8, ⟨(some 9), (.newMap), none⟩, (.alloc 0)⟩,
  ⟨1, ⟨(some 2), (.load false 1 (.t 0)), none⟩, (.quiet [0, 5, 9])⟩,
  ⟨13, ⟨(some 13), (.nilCheck (.t 2)), none⟩, (.quiet [9])⟩,
  ⟨14, ⟨(some 14), (.fieldAddr 6 (.t 13)), none⟩, (.quiet [9])⟩,
  ⟨15, ⟨none, (.store 1 (.t 14) (.t 9)), none⟩, (.eff)⟩,
  ⟨9, ⟨(some 10), (.newMap), none⟩, (.alloc 1)⟩,
  ⟨2, ⟨(some 3), (.load false 1 (.t 0)), none⟩, (.quiet [0, 5, 9, 14])⟩,
  ⟨16, ⟨(some 15), (.nilCheck (.t 3)), none⟩, (.quiet [14])⟩,
  ⟨17, ⟨(some 16), (.fieldAddr 7 (.t 15)), none⟩, (.quiet [14])⟩,
  ⟨18, ⟨none, (.store 1 (.t 16) (.t 10)), none⟩, (.eff)⟩] 2⟩
theorem ok172 : compFunc prog glb 172 p172 = some c172 := by kernel_rfl
/-- signalbox/units.pairs$1 -/
def p176 : List Plan := [⟨[(6, .quiet [0]), (5, .quiet [0]), (7, .quiet [0]), (8, .quiet [0]), (2, .quiet [0]), (1, .quiet [0]), (3, .quiet [0]), (4, .quiet [0]), (0, .quiet [0]), (9, .eff), (10, .quiet [10])], 0, [0, 0, 0, 6, 14, 0, 0, 96, 224, 511, 1023]⟩]
def c176 : CFunc := ⟨25, [],
 .seq (.region [⟨(some 5), (.load false 1 (.t 1)), none⟩,
   ⟨(some 6), (.len (.slice) (.t 5)), none⟩,
   ⟨(some 7), (.load false 1 (.t 2)), none⟩,
   ⟨(some 8), (.len (.slice) (.t 7)), none⟩,
   ⟨(some 9), (.maxmin false (.t 6) [.t 8]), none⟩,
   ⟨(some 10), (.move (.c (.int (.i64) 0))), none⟩])
 (.block 0 (.loop (.seq (.region [⟨(some 11), (.bin (.lss) (.t 10) (.t 9)), none⟩])
    (.seq (.cond (.t 11) (.skip)
      (.exit 0))
     (.seq (.block 1 (.seq (.region [⟨(some 12), (.move (.t 10)), none⟩,
          ⟨(some 4), (.move (.t 12)), none⟩])
        (.seq (.draw [⟨6, ⟨(some 19), (.move (.t 4)), none⟩, (.quiet [0])⟩,
           ⟨5, ⟨(some 18), (.load false 1 (.t 2)), none⟩, (.quiet [0])⟩,
           ⟨7, ⟨(some 20), (.indexAddr 1 (.t 18) (.t 19)), none⟩, (.quiet [0])⟩,
           ⟨8, ⟨(some 21), (.load false 1 (.t 20)), none⟩, (.quiet [0])⟩,
           ⟨2, ⟨(some 15), (.move (.t 4)), none⟩, (.quiet [0])⟩,
           ⟨1, ⟨(some 14), (.load false 1 (.t 1)), none⟩, (.quiet [0])⟩,
           ⟨3, ⟨(some 16), (.indexAddr 1 (.t 14) (.t 15)), none⟩, (.quiet [0])⟩,
           ⟨4, ⟨(some 17), (.load false 1 (.t 16)), none⟩, (.quiet [0])⟩,
           ⟨0, ⟨(some 13), (.move (.t 0)), none⟩, (.quiet [0])⟩,
           ⟨9, ⟨(some 22), (.call (.t 13) [.t 17, .t 21]), none⟩, (.eff)⟩,
           ⟨10, ⟨(some 23), (.un (.not) (.t 22)), none⟩, (.quiet [10])⟩] 0)
         (.cond (.t 23) (.ret)
          (.skip)))))
      (.region [⟨(some 24), (.bin (.add) (.t 10) (.c (.int (.i64) 1))), none⟩,
        ⟨(some 10), (.move (.t 24)), none⟩]))))))⟩
theorem ok176 : compFunc prog glb 176 p176 = some c176 := by kernel_rfl
/-- signalbox/bank.Order -/
def p177 : List Plan := []
def c177 : CFunc := ⟨40, [.tmp 6, .tmp 7],
 .seq (.region [⟨(some 6), (.move (.c (.nilSlice))), none⟩,
   ⟨(some 7), (.move (.c (.bool false))), none⟩])
 (.scope (.seq (.seq (.region [⟨(some 10), (.move (.t 0)), none⟩,
      ⟨(some 11), (.move (.t 1)), none⟩,
      ⟨(some 12), (.move (.t 2)), none⟩,
      ⟨(some 13), (.call (.c (.func 186 [] [])) [.t 10, .t 11, .t 12]), none⟩,
      ⟨(some 14), (.un (.not) (.t 13)), none⟩])
    (.cond (.t 14) (.seq (.region [⟨(some 6), (.move (.c (.nilSlice))), none⟩,
        ⟨(some 7), (.move (.c (.bool false))), none⟩])
      (.ret))
     (.skip)))
   (.seq (.region [⟨(some 15), (.move (.t 0)), none⟩,
      ⟨(some 16), (.move (.t 1)), none⟩,
      ⟨(some 17), (.move (.t 2)), none⟩,
      ⟨(some 18), (.call (.c (.func 187 [] [])) [.t 15, .t 16, .t 17]), none⟩,
      ⟨(some 8), (.new [.nilSlice, .nilMap, .nilMap]), none⟩,
      ⟨none, (.store 3 (.t 8) (.t 18)), none⟩])
    (.seq (.skip)
     (.seq (.block 0 (.loop (.seq (.seq (.region [⟨(some 19), (.fieldAddr 1 (.t 8)), none⟩,
            ⟨(some 20), (.load false 1 (.t 19)), none⟩,
            ⟨(some 21), (.len (.map) (.t 20)), none⟩,
            ⟨(some 22), (.bin (.gtr) (.t 21) (.c (.int (.i64) 0))), none⟩])
          (.cond (.t 22) (.skip)
           (.exit 0)))
         (.block 1 (.seq (.seq (.region [⟨(some 23), (.move (.t 1)), none⟩,
              ⟨(some 24), (.len (.slice) (.t 23)), none⟩,
              ⟨(some 25), (.move (.c (.int (.i64) 0))), none⟩])
            (.block 2 (.loop (.seq (.region [⟨(some 26), (.bin (.lss) (.t 25) (.t 24)), none⟩])
               (.seq (.cond (.t 26) (.skip)
                 (.exit 2))
                (.seq (.block 3 (.seq (.region [⟨(some 27), (.move (.t 25)), none⟩,
                     ⟨(some 9), (.move (.t 27)), none⟩])
                   (.seq (.region [⟨(some 28), (.load true 3 (.t 8)), none⟩,
                      ⟨(some 29), (.move (.t 9)), none⟩,
                      ⟨(some 30), (.call (.c (.func 188 [] [])) [.t 28, .t 29]), none⟩])
                    (.cond (.t 30) (.seq (.region [⟨(some 31), (.load true 3 (.t 8)), none⟩,
                        ⟨(some 32), (.move (.t 9)), none⟩,
                        ⟨(some 33), (.call (.c (.func 189 [] [])) [.t 31, .t 32]), none⟩])
                      (.seq (.region [⟨(some 34), (.move (.t 6)), none⟩,
                         ⟨(some 35), (.move (.t 9)), none⟩,
                         ⟨(some 36), (.buildSlice [.int (.i64) 0] 1 [(0, 1, .t 35)]), none⟩,
                         ⟨(some 37), (.append 1 8 (.t 34) (.t 36)), none⟩,
                         ⟨(some 6), (.move (.t 37)), none⟩])
                       (.exit 1)))
                     (.skip)))))
                 (.region [⟨(some 38), (.bin (.add) (.t 25) (.c (.int (.i64) 1))), none⟩,
                   ⟨(some 25), (.move (.t 38)), none⟩])))))))
           (.seq (.region [⟨(some 6), (.move (.c (.nilSlice))), none⟩,
              ⟨(some 7), (.move (.c (.bool false))), none⟩])
            (.ret)))))))
      (.seq (.region [⟨(some 39), (.move (.t 6)), none⟩,
         ⟨(some 6), (.move (.t 39)), none⟩,
         ⟨(some 7), (.move (.c (.bool true))), none⟩])
       (.ret)))))) [(0, .seq (.skip)
   (.seq (.block 0 (.loop (.seq (.seq (.region [⟨(some 19), (.fieldAddr 1 (.t 8)), none⟩,
          ⟨(some 20), (.load false 1 (.t 19)), none⟩,
          ⟨(some 21), (.len (.map) (.t 20)), none⟩,
          ⟨(some 22), (.bin (.gtr) (.t 21) (.c (.int (.i64) 0))), none⟩])
        (.cond (.t 22) (.skip)
         (.exit 0)))
       (.block 1 (.seq (.seq (.region [⟨(some 23), (.move (.t 1)), none⟩,
            ⟨(some 24), (.len (.slice) (.t 23)), none⟩,
            ⟨(some 25), (.move (.c (.int (.i64) 0))), none⟩])
          (.block 2 (.loop (.seq (.region [⟨(some 26), (.bin (.lss) (.t 25) (.t 24)), none⟩])
             (.seq (.cond (.t 26) (.skip)
               (.exit 2))
              (.seq (.block 3 (.seq (.region [⟨(some 27), (.move (.t 25)), none⟩,
                   ⟨(some 9), (.move (.t 27)), none⟩])
                 (.seq (.region [⟨(some 28), (.load true 3 (.t 8)), none⟩,
                    ⟨(some 29), (.move (.t 9)), none⟩,
                    ⟨(some 30), (.call (.c (.func 188 [] [])) [.t 28, .t 29]), none⟩])
                  (.cond (.t 30) (.seq (.region [⟨(some 31), (.load true 3 (.t 8)), none⟩,
                      ⟨(some 32), (.move (.t 9)), none⟩,
                      ⟨(some 33), (.call (.c (.func 189 [] [])) [.t 31, .t 32]), none⟩])
                    (.seq (.region [⟨(some 34), (.move (.t 6)), none⟩,
                       ⟨(some 35), (.move (.t 9)), none⟩,
                       ⟨(some 36), (.buildSlice [.int (.i64) 0] 1 [(0, 1, .t 35)]), none⟩,
                       ⟨(some 37), (.append 1 8 (.t 34) (.t 36)), none⟩,
                       ⟨(some 6), (.move (.t 37)), none⟩])
                     (.exit 1)))
                   (.skip)))))
               (.region [⟨(some 38), (.bin (.add) (.t 25) (.c (.int (.i64) 1))), none⟩,
                 ⟨(some 25), (.move (.t 38)), none⟩])))))))
         (.seq (.region [⟨(some 6), (.move (.c (.nilSlice))), none⟩,
            ⟨(some 7), (.move (.c (.bool false))), none⟩])
          (.ret)))))))
    (.seq (.region [⟨(some 39), (.move (.t 6)), none⟩,
       ⟨(some 6), (.move (.t 39)), none⟩,
       ⟨(some 7), (.move (.c (.bool true))), none⟩])
     (.ret))))])⟩
theorem ok177 : compFunc prog glb 177 p177 = some c177 := by kernel_rfl
/-- signalbox/audit.those[signalbox/sema.Sema]$1 -/
def p178 : List Plan := []
def c178 : CFunc := ⟨18, [],
 .seq (.region [⟨(some 3), (.move (.c (.int (.i64) 0))), none⟩])
 (.block 0 (.loop (.seq (.block 1 (.seq (.region [⟨(some 7), (.load false 1 (.t 1)), none⟩,
        ⟨(some 8), (.move (.t 3)), none⟩,
        ⟨(some 9), (.call (.t 7) [.t 8]), none⟩,
        ⟨(some 4), (.move (.t 9)), none⟩])
      (.seq (.region [⟨(some 10), (.move (.t 4)), none⟩,
         ⟨(some 11), (.eq (.ptr) false (.t 10) (.c (.nilPtr))), none⟩,
         ⟨(some 12), (.move (.t 11)), none⟩,
         ⟨(some 13), (.move (.t 0)), (some (12, false))⟩,
         ⟨(some 14), (.move (.t 4)), (some (12, false))⟩,
         ⟨(some 15), (.call (.t 13) [.t 14]), (some (12, false))⟩,
         ⟨(some 16), (.un (.not) (.t 15)), (some (12, false))⟩,
         ⟨(some 17), (.pick (.t 12) (.c (.bool true)) (.t 16)), none⟩])
       (.cond (.t 17) (.ret)
        (.skip)))))
    (.region [⟨(some 5), (.move (.t 3)), none⟩,
      ⟨(some 6), (.bin (.add) (.t 5) (.c (.int (.i64) 1))), none⟩,
      ⟨(some 3), (.move (.t 6)), none⟩]))))⟩
theorem ok178 : compFunc prog glb 178 p178 = some c178 := by kernel_rfl
/-- signalbox/audit.those[signalbox/region.Region]$1 -/
def p179 : List Plan := []
def c179 : CFunc := ⟨18, [],
 .seq (.region [⟨(some 3), (.move (.c (.int (.i64) 0))), none⟩])
 (.block 0 (.loop (.seq (.block 1 (.seq (.region [⟨(some 7), (.load false 1 (.t 1)), none⟩,
        ⟨(some 8), (.move (.t 3)), none⟩,
        ⟨(some 9), (.call (.t 7) [.t 8]), none⟩,
        ⟨(some 4), (.move (.t 9)), none⟩])
      (.seq (.region [⟨(some 10), (.move (.t 4)), none⟩,
         ⟨(some 11), (.eq (.ptr) false (.t 10) (.c (.nilPtr))), none⟩,
         ⟨(some 12), (.move (.t 11)), none⟩,
         ⟨(some 13), (.move (.t 0)), (some (12, false))⟩,
         ⟨(some 14), (.move (.t 4)), (some (12, false))⟩,
         ⟨(some 15), (.call (.t 13) [.t 14]), (some (12, false))⟩,
         ⟨(some 16), (.un (.not) (.t 15)), (some (12, false))⟩,
         ⟨(some 17), (.pick (.t 12) (.c (.bool true)) (.t 16)), none⟩])
       (.cond (.t 17) (.ret)
        (.skip)))))
    (.region [⟨(some 5), (.move (.t 3)), none⟩,
      ⟨(some 6), (.bin (.add) (.t 5) (.c (.int (.i64) 1))), none⟩,
      ⟨(some 3), (.move (.t 6)), none⟩]))))⟩
theorem ok179 : compFunc prog glb 179 p179 = some c179 := by kernel_rfl
/-- (signalbox/audit.look).asks$1 -/
def p180 : List Plan := []
def c180 : CFunc := ⟨8, [.tmp 3],
 .seq (.region [⟨(some 2), (.box (.t 0)), none⟩,
   ⟨(some 3), (.move (.c (.bool false))), none⟩])
 (.seq (.region [⟨(some 4), (.fieldAddr 0 (.t 2)), none⟩,
    ⟨(some 5), (.load false 1 (.t 4)), none⟩,
    ⟨(some 6), (.load false 1 (.t 1)), none⟩,
    ⟨(some 7), (.bin (.eql) (.t 5) (.t 6)), none⟩,
    ⟨(some 3), (.move (.t 7)), none⟩])
  (.ret))⟩
theorem ok180 : compFunc prog glb 180 p180 = some c180 := by kernel_rfl
/-- (*sync/atomic.Bool).Load -/
def p181 : List Plan := []
def c181 : CFunc := ⟨8, [.tmp 2],
 .seq (.region [⟨(some 2), (.move (.c (.bool false))), none⟩])
 (.seq (.region [⟨(some 3), (.move (.t 0)), none⟩,
    ⟨(some 4), (.nilCheck (.t 3)), none⟩,
    ⟨(some 5), (.fieldAddr 0 (.t 4)), none⟩,
    ⟨(some 6), (.ext (Ext.atomicLoad (.u32)) [.t 5]), none⟩,
    ⟨(some 7), (.bin (.neq) (.t 6) (.c (.int (.u32) 0))), none⟩,
    ⟨(some 2), (.move (.t 7)), none⟩])
  (.ret))⟩
theorem ok181 : compFunc prog glb 181 p181 = some c181 := by kernel_rfl
/-- (*sync.Once).doSlow -/
def p182 : List Plan := []
def c182 : CFunc := ⟨21, [],
 .seq (.region [⟨(some 4), (.move (.t 0)), none⟩,
   ⟨(some 5), (.nilCheck (.t 4)), none⟩,
   ⟨(some 6), (.fieldAddr 1 (.t 5)), none⟩,
   ⟨(some 7), (.call (.c (.func 191 [] [])) [.t 6]), none⟩])
 (.seq (.region [⟨(some 8), (.move (.t 0)), none⟩,
    ⟨(some 9), (.nilCheck (.t 8)), none⟩,
    ⟨(some 10), (.fieldAddr 1 (.t 9)), none⟩,
    ⟨none, (.defer (.c (.func 192 [] [])) [.t 10]), none⟩])
  (.seq (.region [⟨(some 11), (.move (.t 0)), none⟩,
     ⟨(some 12), (.nilCheck (.t 11)), none⟩,
     ⟨(some 13), (.fieldAddr 0 (.t 12)), none⟩,
     ⟨(some 14), (.call (.c (.func 181 [] [])) [.t 13]), none⟩,
     ⟨(some 15), (.un (.not) (.t 14)), none⟩])
   (.cond (.t 15) (.seq (.region [⟨(some 16), (.move (.t 0)), none⟩,
       ⟨(some 17), (.nilCheck (.t 16)), none⟩,
       ⟨(some 18), (.fieldAddr 0 (.t 17)), none⟩,
       ⟨none, (.defer (.c (.func 193 [] [])) [.t 18, .c (.bool true)]), none⟩])
     (.region [⟨(some 19), (.move (.t 1)), none⟩,
       ⟨(some 20), (.call (.t 19) []), none⟩]))
    (.skip))))⟩
theorem ok182 : compFunc prog glb 182 p182 = some c182 := by kernel_rfl
/-- signalbox/bank.May -/
def p186 : List Plan := [⟨[(4, .quiet [0]), (1, .quiet [0]), (0, .quiet [0]), (2, .quiet [0]), (3, .quiet [0]), (5, .eff), (6, .quiet [6]), (7, .quiet [6]), (12, .quiet [6]), (9, .quiet [6]), (8, .quiet [6]), (10, .quiet [6]), (11, .quiet [6]), (13, .eff), (14, .quiet [14]), (15, .quiet [14]), (16, .quiet [14]), (22, .quiet [14]), (21, .quiet [14]), (23, .quiet [14]), (24, .quiet [14]), (18, .quiet [14]), (17, .quiet [14]), (19, .quiet [14]), (20, .quiet [14]), (25, .eff), (26, .quiet [26]), (27, .quiet [26])], 0, [0, 0, 3, 7, 0, 31, 63, 127, 255, 255, 1023, 2047, 255, 8191, 16383, 32767, 65535, 131071, 131071, 524287, 1048575, 131071, 131071, 6422527, 14811135, 33554431, 67108863, 134217727]⟩]
def c186 : CFunc := ⟨65, [.tmp 6],
 .seq (.region [⟨(some 6), (.move (.c (.bool false))), none⟩])
 (.seq (.region [⟨(some 9), (.move (.t 0)), none⟩,
    ⟨(some 10), (.len (.slice) (.t 9)), none⟩,
    ⟨(some 7), (.move (.t 10)), none⟩])
  (.seq (.seq (.region [⟨(some 11), (.move (.t 7)), none⟩,
      ⟨(some 12), (.bin (.gtr) (.t 11) (.c (.int (.i64) 6))), none⟩,
      ⟨(some 13), (.move (.t 12)), none⟩,
      ⟨(some 14), (.move (.t 0)), (some (13, false))⟩,
      ⟨(some 15), (.move (.t 7)), (some (13, false))⟩,
      ⟨(some 16), (.call (.c (.func 41 [] [])) [.t 14, .t 15]), (some (13, false))⟩,
      ⟨(some 17), (.un (.not) (.t 16)), (some (13, false))⟩,
      ⟨(some 18), (.pick (.t 13) (.c (.bool true)) (.t 17)), none⟩,
      ⟨(some 19), (.move (.t 18)), none⟩,
      ⟨(some 20), (.move (.t 1)), (some (19, false))⟩,
      ⟨(some 21), (.len (.slice) (.t 20)), (some (19, false))⟩,
      ⟨(some 22), (.move (.t 2)), (some (19, false))⟩,
      ⟨(some 23), (.len (.slice) (.t 22)), (some (19, false))⟩,
      ⟨(some 24), (.bin (.neq) (.t 21) (.t 23)), (some (19, false))⟩,
      ⟨(some 25), (.pick (.t 19) (.c (.bool true)) (.t 24)), none⟩,
      ⟨(some 26), (.move (.t 25)), none⟩,
      ⟨(some 27), (.move (.t 1)), (some (26, false))⟩,
      ⟨(some 28), (.len (.slice) (.t 27)), (some (26, false))⟩,
      ⟨(some 29), (.bin (.gtr) (.t 28) (.c (.int (.i64) 32))), (some (26, false))⟩,
      ⟨(some 30), (.pick (.t 26) (.c (.bool true)) (.t 29)), none⟩])
    (.cond (.t 30) (.seq (.region [⟨(some 6), (.move (.c (.bool false))), none⟩])
      (.ret))
     (.skip)))
   (.seq (.seq (.region [⟨(some 31), (.move (.t 1)), none⟩,
       ⟨(some 32), (.len (.slice) (.t 31)), none⟩,
       ⟨(some 33), (.move (.c (.int (.i64) 0))), none⟩])
     (.block 0 (.loop (.seq (.region [⟨(some 34), (.bin (.lss) (.t 33) (.t 32)), none⟩])
        (.seq (.cond (.t 34) (.skip)
          (.exit 0))
         (.seq (.block 1 (.seq (.region [⟨(some 35), (.move (.t 33)), none⟩,
              ⟨(some 8), (.move (.t 35)), none⟩])
            (.seq (.draw [⟨4, ⟨(some 40), (.move (.t 7)), none⟩, (.quiet [0])⟩,
               ⟨1, ⟨(some 37), (.move (.t 8)), none⟩, (.quiet [0])⟩,
               ⟨0, ⟨(some 36), (.move (.t 1)), none⟩, (.quiet [0])⟩,
               ⟨2, ⟨(some 38), (.indexAddr 1 (.t 36) (.t 37)), none⟩, (.quiet [0])⟩,
               ⟨3, ⟨(some 39), (.load false 1 (.t 38)), none⟩, (.quiet [0])⟩,
               ⟨5, ⟨(some 41), (.call (.c (.func 41 [] [])) [.t 39, .t 40]), none⟩, (.eff)⟩,
               ⟨6, ⟨(some 42), (.un (.not) (.t 41)), none⟩, (.quiet [6])⟩,
               ⟨7, ⟨(some 43), (.move (.t 42)), none⟩, (.quiet [6])⟩,
               ⟨12, ⟨(some 48), (.move (.t 7)), (some (43, false))⟩, (.quiet [6])⟩,
               ⟨9, ⟨(some 45), (.move (.t 8)), (some (43, false))⟩, (.quiet [6])⟩,
               ⟨8, ⟨(some 44), (.move (.t 2)), (some (43, false))⟩, (.quiet [6])⟩,
               ⟨10, ⟨(some 46), (.indexAddr 1 (.t 44) (.t 45)), (some (43, false))⟩, (.quiet [6])⟩,
               ⟨11, ⟨(some 47), (.load false 1 (.t 46)), (some (43, false))⟩, (.quiet [6])⟩,
               ⟨13, ⟨(some 49), (.call (.c (.func 41 [] [])) [.t 47, .t 48]), (some (43, false))⟩, (.eff)⟩,
               ⟨14, ⟨(some 50), (.un (.not) (.t 49)), (some (43, false))⟩, (.quiet [14])⟩,
               ⟨15, ⟨(some 51), (.pick (.t 43) (.c (.bool true)) (.t 50)), none⟩, (.quiet [14])⟩,
               ⟨16, ⟨(some 52), (.move (.t 51)), none⟩, (.quiet [14])⟩,
               ⟨22, ⟨(some 58), (.move (.t 8)), (some (52, false))⟩, (.quiet [14])⟩,
               ⟨21, ⟨(some 57), (.move (.t 2)), (some (52, false))⟩, (.quiet [14])⟩,
               ⟨23, ⟨(some 59), (.indexAddr 1 (.t 57) (.t 58)), (some (52, false))⟩, (.quiet [14])⟩,
               ⟨24, ⟨(some 60), (.load false 1 (.t 59)), (some (52, false))⟩, (.quiet [14])⟩,
               ⟨18, ⟨(some 54), (.move (.t 8)), (some (52, false))⟩, (.quiet [14])⟩,
               ⟨17, ⟨(some 53), (.move (.t 1)), (some (52, false))⟩, (.quiet [14])⟩,
               ⟨19, ⟨(some 55), (.indexAddr 1 (.t 53) (.t 54)), (some (52, false))⟩, (.quiet [14])⟩,
               ⟨20, ⟨(some 56), (.load false 1 (.t 55)), (some (52, false))⟩, (.quiet [14])⟩,
               ⟨25, ⟨(some 61), (.call (.c (.func 88 [] [])) [.t 56, .t 60]), (some (52, false))⟩, (.eff)⟩,
               ⟨26, ⟨(some 62), (.un (.not) (.t 61)), (some (52, false))⟩, (.quiet [26])⟩,
               ⟨27, ⟨(some 63), (.pick (.t 52) (.c (.bool true)) (.t 62)), none⟩, (.quiet [26])⟩] 0)
             (.cond (.t 63) (.seq (.region [⟨(some 6), (.move (.c (.bool false))), none⟩])
               (.ret))
              (.skip)))))
          (.region [⟨(some 64), (.bin (.add) (.t 33) (.c (.int (.i64) 1))), none⟩,
            ⟨(some 33), (.move (.t 64)), none⟩])))))))
    (.seq (.region [⟨(some 6), (.move (.c (.bool true))), none⟩])
     (.ret)))))⟩
theorem ok186 : compFunc prog glb 186 p186 = some c186 := by kernel_rfl
/-- signalbox/bank.begin -/
def p187 : List Plan := [⟨[(11, .quiet [0]), (10, .quiet [0]), (12, .quiet [0]), (13, .quiet [0]), (2, .quiet [0]), (0, .quiet [0]), (1, .quiet [0]), (14, .eff), (15, .quiet [8]), (7, .quiet [0, 8]), (6, .quiet [0, 8]), (8, .quiet [0, 8]), (9, .quiet [0, 8]), (16, .eff), (5, .quiet [0, 8, 14]), (3, .quiet [0, 8, 14]), (4, .quiet [0, 8, 14]), (17, .eff), (18, .quiet [18]), (19, .eff)], 0, [0, 1, 0, 0, 8, 0, 0, 0, 192, 448, 0, 0, 3072, 7168, 15367, 31751, 65479, 131071, 262143, 524287]⟩]
def c187 : CFunc := ⟨39, [.cell 6 true 3],
 .seq (.region [⟨(some 6), (.new [.nilSlice, .nilMap, .nilMap]), none⟩])
 (.seq (.region [⟨(some 9), (.move (.t 0)), none⟩,
    ⟨(some 10), (.call (.c (.func 128 [] [])) [.t 9]), none⟩,
    ⟨(some 11), (.newMap), none⟩,
    ⟨(some 12), (.newMap), none⟩,
    ⟨(some 13), (.build [.nilSlice, .nilMap, .nilMap] [(0, 1, .t 10), (1, 1, .t 11), (2, 1, .t 12)]), none⟩,
    ⟨(some 7), (.new [.nilSlice, .nilMap, .nilMap]), none⟩,
    ⟨none, (.store 3 (.t 7) (.t 13)), none⟩])
  (.seq (.seq (.region [⟨(some 14), (.move (.t 1)), none⟩,
      ⟨(some 15), (.len (.slice) (.t 14)), none⟩,
      ⟨(some 16), (.move (.c (.int (.i64) 0))), none⟩])
    (.block 0 (.loop (.seq (.region [⟨(some 17), (.bin (.lss) (.t 16) (.t 15)), none⟩])
       (.seq (.cond (.t 17) (.skip)
         (.exit 0))
        (.seq (.block 1 (.seq (.region [⟨(some 18), (.move (.t 16)), none⟩,
             ⟨(some 8), (.move (.t 18)), none⟩])
           (.draw [⟨11, ⟨(some 30), (.move (.t 8)), none⟩, (.quiet [0])⟩,
             ⟨10, ⟨(some 29), (.move (.t 2)), none⟩, (.quiet [0])⟩,
             ⟨12, ⟨(some 31), (.indexAddr 1 (.t 29) (.t 30)), none⟩, (.quiet [0])⟩,
             ⟨13, ⟨(some 32), (.load false 1 (.t 31)), none⟩, (.quiet [0])⟩,
             ⟨2, ⟨(some 21), (.move (.t 8)), none⟩, (.quiet [0])⟩,
             ⟨0, ⟨(some 19), (.fieldAddr 1 (.t 7)), none⟩, (.quiet [0])⟩,
             ⟨1, ⟨(some 20), (.load false 1 (.t 19)), none⟩, (.quiet [0])⟩,
             ⟨14, ⟨(some 33), (.mapEntry (.one (.int)) (.nilSlice) (.t 20) (.t 21)), none⟩, (.eff)⟩,
             ⟨15, ⟨(some 34), (.extract (.t 33) 1), none⟩, (.quiet [8])⟩,
             ⟨7, ⟨(some 26), (.move (.t 8)), none⟩, (.quiet [0, 8])⟩,
             ⟨6, ⟨(some 25), (.move (.t 1)), none⟩, (.quiet [0, 8])⟩,
             ⟨8, ⟨(some 27), (.indexAddr 1 (.t 25) (.t 26)), none⟩, (.quiet [0, 8])⟩,
             ⟨9, ⟨(some 28), (.load false 1 (.t 27)), none⟩, (.quiet [0, 8])⟩,
             ⟨16, ⟨none, (.entryStore (.t 20) (.t 34) (.t 28)), none⟩, (.eff)⟩,
             ⟨5, ⟨(some 24), (.move (.t 8)), none⟩, (.quiet [0, 8, 14])⟩,
             ⟨3, ⟨(some 22), (.fieldAddr 2 (.t 7)), none⟩, (.quiet [0, 8, 14])⟩,
             ⟨4, ⟨(some 23), (.load false 1 (.t 22)), none⟩, (.quiet [0, 8, 14])⟩,
             ⟨17, ⟨(some 35), (.mapEntry (.one (.int)) (.nilSlice) (.t 23) (.t 24)), none⟩, (.eff)⟩,
             ⟨18, ⟨(some 36), (.extract (.t 35) 1), none⟩, (.quiet [18])⟩,
             ⟨19, ⟨none, (.entryStore (.t 23) (.t 36) (.t 32)), none⟩, (.eff)⟩] 0)))
         (.region [⟨(some 37), (.bin (.add) (.t 16) (.c (.int (.i64) 1))), none⟩,
           ⟨(some 16), (.move (.t 37)), none⟩])))))))
   (.seq (.region [⟨(some 38), (.load true 3 (.t 7)), none⟩,
      ⟨none, (.store 3 (.t 6) (.t 38)), none⟩])
    (.ret))))⟩
theorem ok187 : compFunc prog glb 187 p187 = some c187 := by kernel_rfl
/-- (signalbox/bank.state).can -/
def p188 : List Plan := [⟨[(8, .quiet [0]), (6, .quiet [0]), (7, .quiet [0]), (9, .quiet [0]), (10, .quiet [0]), (2, .quiet [0]), (1, .quiet [0]), (3, .quiet [0]), (4, .quiet [0]), (0, .quiet [0]), (5, .quiet [0]), (11, .quiet [0])], 0, [0, 0, 0, 6, 14, 31, 0, 64, 0, 448, 960, 2047]⟩]
def c188 : CFunc := ⟨41, [.tmp 4],
 .seq (.region [⟨(some 2), (.box (.t 0)), none⟩,
   ⟨(some 4), (.move (.c (.bool false))), none⟩])
 (.seq (.region [⟨(some 10), (.fieldAddr 1 (.t 2)), none⟩,
    ⟨(some 11), (.load false 1 (.t 10)), none⟩,
    ⟨(some 12), (.move (.t 1)), none⟩,
    ⟨(some 13), (.lookup (.one (.int)) (.nilSlice) true (.t 11) (.t 12)), none⟩,
    ⟨(some 9), (.move (.t 13)), none⟩,
    ⟨(some 14), (.extract (.t 9) 0), none⟩,
    ⟨(some 15), (.extract (.t 9) 1), none⟩,
    ⟨(some 5), (.move (.t 14)), none⟩,
    ⟨(some 6), (.move (.t 15)), none⟩])
  (.seq (.seq (.region [⟨(some 16), (.move (.t 6)), none⟩,
      ⟨(some 17), (.un (.not) (.t 16)), none⟩])
    (.cond (.t 17) (.seq (.region [⟨(some 4), (.move (.c (.bool false))), none⟩])
      (.ret))
     (.skip)))
   (.seq (.seq (.region [⟨(some 18), (.fieldAddr 2 (.t 2)), none⟩,
       ⟨(some 19), (.load false 1 (.t 18)), none⟩,
       ⟨(some 20), (.move (.t 1)), none⟩,
       ⟨(some 21), (.lookup (.one (.int)) (.nilSlice) false (.t 19) (.t 20)), none⟩,
       ⟨(some 22), (.len (.slice) (.t 21)), none⟩,
       ⟨(some 23), (.move (.c (.int (.i64) 0))), none⟩])
     (.block 0 (.loop (.seq (.region [⟨(some 24), (.bin (.lss) (.t 23) (.t 22)), none⟩])
        (.seq (.cond (.t 24) (.skip)
          (.exit 0))
         (.seq (.block 1 (.seq (.region [⟨(some 25), (.move (.t 23)), none⟩,
              ⟨(some 26), (.indexAddr 1 (.t 21) (.t 23)), none⟩,
              ⟨(some 27), (.load false 1 (.t 26)), none⟩,
              ⟨(some 7), (.move (.t 25)), none⟩,
              ⟨(some 8), (.move (.t 27)), none⟩])
            (.seq (.draw [⟨8, ⟨(some 36), (.move (.t 7)), none⟩, (.quiet [0])⟩,
               ⟨6, ⟨(some 34), (.fieldAddr 0 (.t 2)), none⟩, (.quiet [0])⟩,
               ⟨7, ⟨(some 35), (.load false 1 (.t 34)), none⟩, (.quiet [0])⟩,
               ⟨9, ⟨(some 37), (.indexAddr 1 (.t 35) (.t 36)), none⟩, (.quiet [0])⟩,
               ⟨10, ⟨(some 38), (.load false 1 (.t 37)), none⟩, (.quiet [0])⟩,
               ⟨2, ⟨(some 30), (.move (.t 7)), none⟩, (.quiet [0])⟩,
               ⟨1, ⟨(some 29), (.move (.t 5)), none⟩, (.quiet [0])⟩,
               ⟨3, ⟨(some 31), (.indexAddr 1 (.t 29) (.t 30)), none⟩, (.quiet [0])⟩,
               ⟨4, ⟨(some 32), (.load false 1 (.t 31)), none⟩, (.quiet [0])⟩,
               ⟨0, ⟨(some 28), (.move (.t 8)), none⟩, (.quiet [0])⟩,
               ⟨5, ⟨(some 33), (.bin (.sub) (.t 28) (.t 32)), none⟩, (.quiet [0])⟩,
               ⟨11, ⟨(some 39), (.bin (.gtr) (.t 33) (.t 38)), none⟩, (.quiet [0])⟩] 0)
             (.cond (.t 39) (.seq (.region [⟨(some 4), (.move (.c (.bool false))), none⟩])
               (.ret))
              (.skip)))))
          (.region [⟨(some 40), (.bin (.add) (.t 23) (.c (.int (.i64) 1))), none⟩,
            ⟨(some 23), (.move (.t 40)), none⟩])))))))
    (.seq (.region [⟨(some 4), (.move (.c (.bool true))), none⟩])
     (.ret)))))⟩
theorem ok188 : compFunc prog glb 188 p188 = some c188 := by kernel_rfl
/-- (signalbox/bank.state).complete -/
def p189 : List Plan := []
def c189 : CFunc := ⟨28, [],
 .seq (.region [⟨(some 2), (.box (.t 0)), none⟩])
 (.seq (.seq (.region [⟨(some 6), (.fieldAddr 1 (.t 2)), none⟩,
     ⟨(some 7), (.load false 1 (.t 6)), none⟩,
     ⟨(some 8), (.move (.t 1)), none⟩,
     ⟨(some 9), (.lookup (.one (.int)) (.nilSlice) false (.t 7) (.t 8)), none⟩,
     ⟨(some 10), (.len (.slice) (.t 9)), none⟩,
     ⟨(some 11), (.move (.c (.int (.i64) 0))), none⟩])
   (.block 0 (.loop (.seq (.region [⟨(some 12), (.bin (.lss) (.t 11) (.t 10)), none⟩])
      (.seq (.cond (.t 12) (.skip)
        (.exit 0))
       (.seq (.block 1 (.seq (.region [⟨(some 13), (.move (.t 11)), none⟩,
            ⟨(some 14), (.indexAddr 1 (.t 9) (.t 11)), none⟩,
            ⟨(some 15), (.load false 1 (.t 14)), none⟩,
            ⟨(some 4), (.move (.t 13)), none⟩,
            ⟨(some 5), (.move (.t 15)), none⟩])
          (.region [⟨(some 16), (.fieldAddr 0 (.t 2)), none⟩,
            ⟨(some 17), (.load false 1 (.t 16)), none⟩,
            ⟨(some 18), (.move (.t 4)), none⟩,
            ⟨(some 19), (.indexAddr 1 (.t 17) (.t 18)), none⟩,
            ⟨(some 20), (.load false 1 (.t 19)), none⟩,
            ⟨(some 21), (.move (.t 5)), none⟩,
            ⟨(some 22), (.bin (.add) (.t 20) (.t 21)), none⟩,
            ⟨(some 23), (.indexAddr 1 (.t 17) (.t 18)), none⟩,
            ⟨none, (.store 1 (.t 23) (.t 22)), none⟩])))
        (.region [⟨(some 24), (.bin (.add) (.t 11) (.c (.int (.i64) 1))), none⟩,
          ⟨(some 11), (.move (.t 24)), none⟩])))))))
  (.region [⟨(some 25), (.fieldAddr 1 (.t 2)), none⟩,
    ⟨(some 26), (.load false 1 (.t 25)), none⟩,
    ⟨(some 27), (.move (.t 1)), none⟩,
    ⟨none, (.delete (.one (.int)) (.t 26) (.t 27)), none⟩]))⟩
theorem ok189 : compFunc prog glb 189 p189 = some c189 := by kernel_rfl
/-- (*sync.Mutex).Lock -/
def p191 : List Plan := []
def c191 : CFunc := ⟨6, [],
 .region [⟨(some 2), (.move (.t 0)), none⟩,
  ⟨(some 3), (.nilCheck (.t 2)), none⟩,
  ⟨(some 4), (.fieldAddr 0 (.t 3)), none⟩,
  ⟨(some 5), (.call (.c (.func 205 [] [])) [.t 4]), none⟩]⟩
theorem ok191 : compFunc prog glb 191 p191 = some c191 := by kernel_rfl
/-- (*sync.Mutex).Unlock -/
def p192 : List Plan := []
def c192 : CFunc := ⟨6, [],
 .region [⟨(some 2), (.move (.t 0)), none⟩,
  ⟨(some 3), (.nilCheck (.t 2)), none⟩,
  ⟨(some 4), (.fieldAddr 0 (.t 3)), none⟩,
  ⟨(some 5), (.call (.c (.func 206 [] [])) [.t 4]), none⟩]⟩
theorem ok192 : compFunc prog glb 192 p192 = some c192 := by kernel_rfl
/-- (*sync/atomic.Bool).Store -/
def p193 : List Plan := [⟨[(3, .quiet [0]), (4, .eff), (0, .quiet [0, 2]), (1, .quiet [0, 2]), (2, .quiet [0, 2]), (5, .eff)], 0, [0, 1, 3, 0, 8, 31]⟩]
def c193 : CFunc := ⟨10, [],
 .draw [⟨3, ⟨(some 7), (.move (.t 1)), none⟩, (.quiet [0])⟩,
  ⟨4, ⟨(some 8), (.call (.c (.func 208 [] [])) [.t 7]), none⟩, (.eff)⟩,
  ⟨0, ⟨(some 4), (.move (.t 0)), none⟩, (.quiet [0, 2])⟩,
  ⟨1, ⟨(some 5), (.nilCheck (.t 4)), none⟩, (.quiet [0, 2])⟩,
  ⟨2, ⟨(some 6), (.fieldAddr 0 (.t 5)), none⟩, (.quiet [0, 2])⟩,
  ⟨5, ⟨(some 9), (.ext (Ext.atomicStore (.u32)) [.t 6, .t 8]), none⟩, (.eff)⟩] 0⟩
theorem ok193 : compFunc prog glb 193 p193 = some c193 := by kernel_rfl
/-- (*internal/sync.Mutex).Lock -/
def p205 : List Plan := []
def c205 : CFunc := ⟨13, [],
 .seq (.region [⟨(some 2), (.ext (Ext.mark0) []), none⟩])
 (.seq (.seq (.region [⟨(some 3), (.move (.t 0)), none⟩,
     ⟨(some 4), (.nilCheck (.t 3)), none⟩,
     ⟨(some 5), (.fieldAddr 0 (.t 4)), none⟩,
     ⟨(some 6), (.ext (Ext.atomicCas (.i32)) [.t 5, .c (.int (.i32) 0), .c (.int (.i32) 1)]), none⟩])
   (.cond (.t 6) (.seq (.cond (.c (.bool true)) (.seq (.region [⟨(some 7), (.ext (Ext.mark0) []), none⟩])
       (.region [⟨(some 8), (.move (.t 0)), none⟩,
         ⟨(some 9), (.ext (Ext.uptr) [.t 8]), none⟩,
         ⟨(some 10), (.ext (Ext.mark1) [.t 9]), none⟩]))
      (.skip))
     (.ret))
    (.skip)))
  (.region [⟨(some 11), (.move (.t 0)), none⟩,
    ⟨(some 12), (.call (.c (.func 219 [] [])) [.t 11]), none⟩]))⟩
theorem ok205 : compFunc prog glb 205 p205 = some c205 := by kernel_rfl
/-- (*internal/sync.Mutex).Unlock -/
def p206 : List Plan := []
def c206 : CFunc := ⟨21, [],
 .seq (.cond (.c (.bool true)) (.seq (.region [⟨(some 3), (.move (.t 0)), none⟩,
     ⟨(some 4), (.nilCheck (.t 3)), none⟩,
     ⟨(some 5), (.fieldAddr 0 (.t 4)), none⟩,
     ⟨(some 6), (.load false 1 (.t 5)), none⟩])
   (.seq (.region [⟨(some 7), (.move (.t 0)), none⟩,
      ⟨(some 8), (.ext (Ext.uptr) [.t 7]), none⟩,
      ⟨(some 9), (.ext (Ext.mark1) [.t 8]), none⟩])
    (.region [⟨(some 10), (.ext (Ext.mark0) []), none⟩])))
  (.skip))
 (.seq (.region [⟨(some 11), (.move (.t 0)), none⟩,
    ⟨(some 12), (.nilCheck (.t 11)), none⟩,
    ⟨(some 13), (.fieldAddr 0 (.t 12)), none⟩,
    ⟨(some 14), (.ext (Ext.atomicAdd (.i32)) [.t 13, .c (.int (.i32) (-1))]), none⟩,
    ⟨(some 2), (.move (.t 14)), none⟩])
  (.seq (.seq (.region [⟨(some 15), (.move (.t 2)), none⟩,
      ⟨(some 16), (.bin (.neq) (.t 15) (.c (.int (.i32) 0))), none⟩])
    (.cond (.t 16) (.region [⟨(some 17), (.move (.t 0)), none⟩,
       ⟨(some 18), (.move (.t 2)), none⟩,
       ⟨(some 19), (.call (.c (.func 222 [] [])) [.t 17, .t 18]), none⟩])
     (.skip)))
   (.region [⟨(some 20), (.ext (Ext.mark0) []), none⟩])))⟩
theorem ok206 : compFunc prog glb 206 p206 = some c206 := by kernel_rfl
/-- sync/atomic.b32 -/
def p208 : List Plan := []
def c208 : CFunc := ⟨4, [.tmp 2],
 .seq (.region [⟨(some 2), (.move (.c (.int (.u32) 0))), none⟩])
 (.seq (.seq (.region [⟨(some 3), (.move (.t 0)), none⟩])
   (.cond (.t 3) (.seq (.region [⟨(some 2), (.move (.c (.int (.u32) 1))), none⟩])
     (.ret))
    (.skip)))
  (.seq (.region [⟨(some 2), (.move (.c (.int (.u32) 0))), none⟩])
   (.ret)))⟩
theorem ok208 : compFunc prog glb 208 p208 = some c208 := by kernel_rfl
/-- (*internal/sync.Mutex).lockSlow -/
def p219 : List Plan := []
def c219 : CFunc := ⟨139, [],
 .seq (.region [⟨(some 2), (.move (.c (.int (.i64) 0))), none⟩])
 (.seq (.region [⟨(some 3), (.move (.c (.bool false))), none⟩])
  (.seq (.region [⟨(some 4), (.move (.c (.bool false))), none⟩])
   (.seq (.region [⟨(some 5), (.move (.c (.int (.i64) 0))), none⟩])
    (.seq (.region [⟨(some 10), (.move (.t 0)), none⟩,
       ⟨(some 11), (.nilCheck (.t 10)), none⟩,
       ⟨(some 12), (.fieldAddr 0 (.t 11)), none⟩,
       ⟨(some 13), (.load false 1 (.t 12)), none⟩,
       ⟨(some 6), (.move (.t 13)), none⟩])
     (.seq (.block 0 (.loop (.block 1 (.seq (.seq (.region [⟨(some 14), (.move (.t 6)), none⟩,
             ⟨(some 15), (.bin (.and) (.t 14) (.c (.int (.i32) 5))), none⟩,
             ⟨(some 16), (.bin (.eql) (.t 15) (.c (.int (.i32) 1))), none⟩,
             ⟨(some 17), (.move (.t 16)), none⟩,
             ⟨(some 18), (.move (.t 5)), (some (17, true))⟩,
             ⟨(some 19), (.call (.c (.func 224 [] [])) [.t 18]), (some (17, true))⟩,
             ⟨(some 20), (.pick (.t 17) (.t 19) (.c (.bool false))), none⟩])
           (.cond (.t 20) (.seq (.seq (.region [⟨(some 21), (.move (.t 4)), none⟩,
                ⟨(some 22), (.un (.not) (.t 21)), none⟩,
                ⟨(some 23), (.move (.t 22)), none⟩,
                ⟨(some 24), (.move (.t 6)), (some (23, true))⟩,
                ⟨(some 25), (.bin (.and) (.t 24) (.c (.int (.i32) 2))), (some (23, true))⟩,
                ⟨(some 26), (.bin (.eql) (.t 25) (.c (.int (.i32) 0))), (some (23, true))⟩,
                ⟨(some 27), (.pick (.t 23) (.t 26) (.c (.bool false))), none⟩,
                ⟨(some 28), (.move (.t 27)), none⟩,
                ⟨(some 29), (.move (.t 6)), (some (28, true))⟩,
                ⟨(some 30), (.bin (.shr) (.t 29) (.c (.int (.u64) 3))), (some (28, true))⟩,
                ⟨(some 31), (.bin (.neq) (.t 30) (.c (.int (.i32) 0))), (some (28, true))⟩,
                ⟨(some 32), (.pick (.t 28) (.t 31) (.c (.bool false))), none⟩,
                ⟨(some 33), (.move (.t 32)), none⟩,
                ⟨(some 34), (.move (.t 0)), (some (33, true))⟩,
                ⟨(some 35), (.nilCheck (.t 34)), (some (33, true))⟩,
                ⟨(some 36), (.fieldAddr 0 (.t 35)), (some (33, true))⟩,
                ⟨(some 37), (.move (.t 6)), (some (33, true))⟩,
                ⟨(some 38), (.move (.t 6)), (some (33, true))⟩,
                ⟨(some 39), (.bin (.or) (.t 38) (.c (.int (.i32) 2))), (some (33, true))⟩,
                ⟨(some 40), (.ext (Ext.atomicCas (.i32)) [.t 36, .t 37, .t 39]), (some (33, true))⟩,
                ⟨(some 41), (.pick (.t 33) (.t 40) (.c (.bool false))), none⟩])
              (.cond (.t 41) (.region [⟨(some 4), (.move (.c (.bool true))), none⟩])
               (.skip)))
             (.seq (.region [⟨(some 42), (.call (.c (.func 225 [] [])) []), none⟩])
              (.seq (.region [⟨(some 43), (.move (.t 5)), none⟩,
                 ⟨(some 44), (.bin (.add) (.t 43) (.c (.int (.i64) 1))), none⟩,
                 ⟨(some 5), (.move (.t 44)), none⟩])
               (.seq (.region [⟨(some 45), (.move (.t 0)), none⟩,
                  ⟨(some 46), (.nilCheck (.t 45)), none⟩,
                  ⟨(some 47), (.fieldAddr 0 (.t 46)), none⟩,
                  ⟨(some 48), (.load false 1 (.t 47)), none⟩,
                  ⟨(some 6), (.move (.t 48)), none⟩])
                (.exit 1)))))
            (.skip)))
          (.seq (.region [⟨(some 49), (.move (.t 6)), none⟩,
             ⟨(some 7), (.move (.t 49)), none⟩])
           (.seq (.seq (.region [⟨(some 50), (.move (.t 6)), none⟩,
               ⟨(some 51), (.bin (.and) (.t 50) (.c (.int (.i32) 4))), none⟩,
               ⟨(some 52), (.bin (.eql) (.t 51) (.c (.int (.i32) 0))), none⟩])
             (.cond (.t 52) (.region [⟨(some 53), (.move (.t 7)), none⟩,
                ⟨(some 54), (.bin (.or) (.t 53) (.c (.int (.i32) 1))), none⟩,
                ⟨(some 7), (.move (.t 54)), none⟩])
              (.skip)))
            (.seq (.seq (.region [⟨(some 55), (.move (.t 6)), none⟩,
                ⟨(some 56), (.bin (.and) (.t 55) (.c (.int (.i32) 5))), none⟩,
                ⟨(some 57), (.bin (.neq) (.t 56) (.c (.int (.i32) 0))), none⟩])
              (.cond (.t 57) (.region [⟨(some 58), (.move (.t 7)), none⟩,
                 ⟨(some 59), (.bin (.add) (.t 58) (.c (.int (.i32) 8))), none⟩,
                 ⟨(some 7), (.move (.t 59)), none⟩])
               (.skip)))
             (.seq (.seq (.region [⟨(some 60), (.move (.t 3)), none⟩,
                 ⟨(some 61), (.move (.t 60)), none⟩,
                 ⟨(some 62), (.move (.t 6)), (some (61, true))⟩,
                 ⟨(some 63), (.bin (.and) (.t 62) (.c (.int (.i32) 1))), (some (61, true))⟩,
                 ⟨(some 64), (.bin (.neq) (.t 63) (.c (.int (.i32) 0))), (some (61, true))⟩,
                 ⟨(some 65), (.pick (.t 61) (.t 64) (.c (.bool false))), none⟩])
               (.cond (.t 65) (.region [⟨(some 66), (.move (.t 7)), none⟩,
                  ⟨(some 67), (.bin (.or) (.t 66) (.c (.int (.i32) 4))), none⟩,
                  ⟨(some 7), (.move (.t 67)), none⟩])
                (.skip)))
              (.seq (.seq (.region [⟨(some 68), (.move (.t 4)), none⟩])
                (.cond (.t 68) (.seq (.seq (.region [⟨(some 69), (.move (.t 7)), none⟩,
                     ⟨(some 70), (.bin (.and) (.t 69) (.c (.int (.i32) 2))), none⟩,
                     ⟨(some 71), (.bin (.eql) (.t 70) (.c (.int (.i32) 0))), none⟩])
                   (.cond (.t 71) (.region [⟨(some 72), (.call (.c (.func 226 [] [])) [.c (.str [115, 121, 110, 99, 58, 32, 105, 110, 99, 111, 110, 115, 105, 115, 116, 101, 110, 116, 32, 109, 117, 116, 101, 120, 32, 115, 116, 97, 116, 101])]), none⟩])
                    (.skip)))
                  (.region [⟨(some 73), (.move (.t 7)), none⟩,
                    ⟨(some 74), (.bin (.andNot) (.t 73) (.c (.int (.i32) 2))), none⟩,
                    ⟨(some 7), (.move (.t 74)), none⟩]))
                 (.skip)))
               (.seq (.region [⟨(some 75), (.move (.t 0)), none⟩,
                  ⟨(some 76), (.nilCheck (.t 75)), none⟩,
                  ⟨(some 77), (.fieldAddr 0 (.t 76)), none⟩,
                  ⟨(some 78), (.move (.t 6)), none⟩,
                  ⟨(some 79), (.move (.t 7)), none⟩,
                  ⟨(some 80), (.ext (Ext.atomicCas (.i32)) [.t 77, .t 78, .t 79]), none⟩])
                (.cond (.t 80) (.seq (.seq (.region [⟨(some 81), (.move (.t 6)), none⟩,
                     ⟨(some 82), (.bin (.and) (.t 81) (.c (.int (.i32) 5))), none⟩,
                     ⟨(some 83), (.bin (.eql) (.t 82) (.c (.int (.i32) 0))), none⟩])
                   (.cond (.t 83) (.exit 0)
                    (.skip)))
                  (.seq (.region [⟨(some 84), (.move (.t 2)), none⟩,
                     ⟨(some 85), (.bin (.neq) (.t 84) (.c (.int (.i64) 0))), none⟩,
                     ⟨(some 8), (.move (.t 85)), none⟩])
                   (.seq (.seq (.region [⟨(some 86), (.move (.t 2)), none⟩,
                       ⟨(some 87), (.bin (.eql) (.t 86) (.c (.int (.i64) 0))), none⟩])
                     (.cond (.t 87) (.region [⟨(some 88), (.call (.c (.func 227 [] [])) []), none⟩,
                        ⟨(some 2), (.move (.t 88)), none⟩])
                      (.skip)))
                    (.seq (.region [⟨(some 89), (.move (.t 0)), none⟩,
                       ⟨(some 90), (.nilCheck (.t 89)), none⟩,
                       ⟨(some 91), (.fieldAddr 1 (.t 90)), none⟩,
                       ⟨(some 92), (.move (.t 8)), none⟩,
                       ⟨(some 93), (.call (.c (.func 228 [] [])) [.t 91, .t 92, .c (.int (.i64) 2)]), none⟩])
                     (.seq (.region [⟨(some 94), (.move (.t 3)), none⟩,
                        ⟨(some 95), (.move (.t 94)), none⟩,
                        ⟨(some 96), (.call (.c (.func 227 [] [])) []), (some (95, false))⟩,
                        ⟨(some 97), (.move (.t 2)), (some (95, false))⟩,
                        ⟨(some 98), (.bin (.sub) (.t 96) (.t 97)), (some (95, false))⟩,
                        ⟨(some 99), (.bin (.gtr) (.t 98) (.c (.int (.i64) 1000000))), (some (95, false))⟩,
                        ⟨(some 100), (.pick (.t 95) (.c (.bool true)) (.t 99)), none⟩,
                        ⟨(some 3), (.move (.t 100)), none⟩])
                      (.seq (.region [⟨(some 101), (.move (.t 0)), none⟩,
                         ⟨(some 102), (.nilCheck (.t 101)), none⟩,
                         ⟨(some 103), (.fieldAddr 0 (.t 102)), none⟩,
                         ⟨(some 104), (.load false 1 (.t 103)), none⟩,
                         ⟨(some 6), (.move (.t 104)), none⟩])
                       (.seq (.seq (.region [⟨(some 105), (.move (.t 6)), none⟩,
                           ⟨(some 106), (.bin (.and) (.t 105) (.c (.int (.i32) 4))), none⟩,
                           ⟨(some 107), (.bin (.neq) (.t 106) (.c (.int (.i32) 0))), none⟩])
                         (.cond (.t 107) (.seq (.seq (.region [⟨(some 108), (.move (.t 6)), none⟩,
                              ⟨(some 109), (.bin (.and) (.t 108) (.c (.int (.i32) 3))), none⟩,
                              ⟨(some 110), (.bin (.neq) (.t 109) (.c (.int (.i32) 0))), none⟩,
                              ⟨(some 111), (.move (.t 110)), none⟩,
                              ⟨(some 112), (.move (.t 6)), (some (111, false))⟩,
                              ⟨(some 113), (.bin (.shr) (.t 112) (.c (.int (.u64) 3))), (some (111, false))⟩,
                              ⟨(some 114), (.bin (.eql) (.t 113) (.c (.int (.i32) 0))), (some (111, false))⟩,
                              ⟨(some 115), (.pick (.t 111) (.c (.bool true)) (.t 114)), none⟩])
                            (.cond (.t 115) (.region [⟨(some 116), (.call (.c (.func 226 [] [])) [.c (.str [115, 121, 110, 99, 58, 32, 105, 110, 99, 111, 110, 115, 105, 115, 116, 101, 110, 116, 32, 109, 117, 116, 101, 120, 32, 115, 116, 97, 116, 101])]), none⟩])
                             (.skip)))
                           (.seq (.region [⟨(some 9), (.move (.c (.int (.i32) (-7)))), none⟩])
                            (.seq (.seq (.region [⟨(some 117), (.move (.t 3)), none⟩,
                                ⟨(some 118), (.un (.not) (.t 117)), none⟩,
                                ⟨(some 119), (.move (.t 118)), none⟩,
                                ⟨(some 120), (.move (.t 6)), (some (119, false))⟩,
                                ⟨(some 121), (.bin (.shr) (.t 120) (.c (.int (.u64) 3))), (some (119, false))⟩,
                                ⟨(some 122), (.bin (.eql) (.t 121) (.c (.int (.i32) 1))), (some (119, false))⟩,
                                ⟨(some 123), (.pick (.t 119) (.c (.bool true)) (.t 122)), none⟩])
                              (.cond (.t 123) (.region [⟨(some 124), (.move (.t 9)), none⟩,
                                 ⟨(some 125), (.bin (.sub) (.t 124) (.c (.int (.i32) 4))), none⟩,
                                 ⟨(some 9), (.move (.t 125)), none⟩])
                               (.skip)))
                             (.seq (.region [⟨(some 126), (.move (.t 0)), none⟩,
                                ⟨(some 127), (.nilCheck (.t 126)), none⟩,
                                ⟨(some 128), (.fieldAddr 0 (.t 127)), none⟩,
                                ⟨(some 129), (.move (.t 9)), none⟩,
                                ⟨(some 130), (.ext (Ext.atomicAdd (.i32)) [.t 128, .t 129]), none⟩])
                              (.exit 0)))))
                          (.skip)))
                        (.seq (.region [⟨(some 4), (.move (.c (.bool true))), none⟩])
                         (.region [⟨(some 5), (.move (.c (.int (.i64) 0))), none⟩])))))))))
                 (.region [⟨(some 131), (.move (.t 0)), none⟩,
                   ⟨(some 132), (.nilCheck (.t 131)), none⟩,
                   ⟨(some 133), (.fieldAddr 0 (.t 132)), none⟩,
                   ⟨(some 134), (.load false 1 (.t 133)), none⟩,
                   ⟨(some 6), (.move (.t 134)), none⟩]))))))))))))
      (.cond (.c (.bool true)) (.seq (.region [⟨(some 135), (.ext (Ext.mark0) []), none⟩])
        (.region [⟨(some 136), (.move (.t 0)), none⟩,
          ⟨(some 137), (.ext (Ext.uptr) [.t 136]), none⟩,
          ⟨(some 138), (.ext (Ext.mark1) [.t 137]), none⟩]))
       (.skip)))))))⟩
theorem ok219 : compFunc prog glb 219 p219 = some c219 := by kernel_rfl
/-- (*internal/sync.Mutex).unlockSlow -/
def p222 : List Plan := []
def c222 : CFunc := ⟨43, [],
 .seq (.seq (.region [⟨(some 5), (.move (.t 1)), none⟩,
    ⟨(some 6), (.bin (.add) (.t 5) (.c (.int (.i32) 1))), none⟩,
    ⟨(some 7), (.bin (.and) (.t 6) (.c (.int (.i32) 1))), none⟩,
    ⟨(some 8), (.bin (.eql) (.t 7) (.c (.int (.i32) 0))), none⟩])
  (.cond (.t 8) (.region [⟨(some 9), (.call (.c (.func 229 [] [])) [.c (.str [115, 121, 110, 99, 58, 32, 117, 110, 108, 111, 99, 107, 32, 111, 102, 32, 117, 110, 108, 111, 99, 107, 101, 100, 32, 109, 117, 116, 101, 120])]), none⟩])
   (.skip)))
 (.seq (.region [⟨(some 10), (.move (.t 1)), none⟩,
    ⟨(some 11), (.bin (.and) (.t 10) (.c (.int (.i32) 4))), none⟩,
    ⟨(some 12), (.bin (.eql) (.t 11) (.c (.int (.i32) 0))), none⟩])
  (.cond (.t 12) (.seq (.region [⟨(some 13), (.move (.t 1)), none⟩,
      ⟨(some 4), (.move (.t 13)), none⟩])
    (.block 0 (.loop (.block 1 (.seq (.seq (.region [⟨(some 14), (.move (.t 4)), none⟩,
           ⟨(some 15), (.bin (.shr) (.t 14) (.c (.int (.u64) 3))), none⟩,
           ⟨(some 16), (.bin (.eql) (.t 15) (.c (.int (.i32) 0))), none⟩,
           ⟨(some 17), (.move (.t 16)), none⟩,
           ⟨(some 18), (.move (.t 4)), (some (17, false))⟩,
           ⟨(some 19), (.bin (.and) (.t 18) (.c (.int (.i32) 7))), (some (17, false))⟩,
           ⟨(some 20), (.bin (.neq) (.t 19) (.c (.int (.i32) 0))), (some (17, false))⟩,
           ⟨(some 21), (.pick (.t 17) (.c (.bool true)) (.t 20)), none⟩])
         (.cond (.t 21) (.ret)
          (.skip)))
        (.seq (.region [⟨(some 22), (.move (.t 4)), none⟩,
           ⟨(some 23), (.bin (.sub) (.t 22) (.c (.int (.i32) 8))), none⟩,
           ⟨(some 24), (.bin (.or) (.t 23) (.c (.int (.i32) 2))), none⟩,
           ⟨(some 1), (.move (.t 24)), none⟩])
         (.seq (.seq (.region [⟨(some 25), (.move (.t 0)), none⟩,
             ⟨(some 26), (.nilCheck (.t 25)), none⟩,
             ⟨(some 27), (.fieldAddr 0 (.t 26)), none⟩,
             ⟨(some 28), (.move (.t 4)), none⟩,
             ⟨(some 29), (.move (.t 1)), none⟩,
             ⟨(some 30), (.ext (Ext.atomicCas (.i32)) [.t 27, .t 28, .t 29]), none⟩])
           (.cond (.t 30) (.seq (.region [⟨(some 31), (.move (.t 0)), none⟩,
               ⟨(some 32), (.nilCheck (.t 31)), none⟩,
               ⟨(some 33), (.fieldAddr 1 (.t 32)), none⟩,
               ⟨(some 34), (.call (.c (.func 230 [] [])) [.t 33, .c (.bool false), .c (.int (.i64) 2)]), none⟩])
             (.ret))
            (.skip)))
          (.region [⟨(some 35), (.move (.t 0)), none⟩,
            ⟨(some 36), (.nilCheck (.t 35)), none⟩,
            ⟨(some 37), (.fieldAddr 0 (.t 36)), none⟩,
            ⟨(some 38), (.load false 1 (.t 37)), none⟩,
            ⟨(some 4), (.move (.t 38)), none⟩]))))))))
   (.region [⟨(some 39), (.move (.t 0)), none⟩,
     ⟨(some 40), (.nilCheck (.t 39)), none⟩,
     ⟨(some 41), (.fieldAddr 1 (.t 40)), none⟩,
     ⟨(some 42), (.call (.c (.func 230 [] [])) [.t 41, .c (.bool true), .c (.int (.i64) 2)]), none⟩])))⟩
theorem ok222 : compFunc prog glb 222 p222 = some c222 := by kernel_rfl
end Go.Proofs.YtlggkknkbbhooaaGreat.Cm
