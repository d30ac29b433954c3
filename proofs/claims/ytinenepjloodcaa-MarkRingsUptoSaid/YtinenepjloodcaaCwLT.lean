/- THE FUNCTIONS, COMPILED: printed by a program (CwGen.lean), checked by the kernel. -/
import Derived.Test.YtinenepjloodcaaCwP
import Derived.Test.YtinenepjloodcaaProg
import Derived.KernelRfl
set_option maxRecDepth 100000
namespace Go.Proofs.Ytinenepjloodcaa
open Go.Cw

def a9 : AFunc := ⟨186, [.tmp 6],
 .seq (.reg [⟨some 6, .mov (.v (.p (.bool false))), none⟩])
 (.seq (.seq (.reg [⟨some 22, .mov (.t 0), none⟩,
   ⟨some 23, .lenS (.t 22), none⟩,
   ⟨some 24, .arith .gtr (.t 23) (.v (.p (.int .i64 60))), none⟩,
   ⟨some 25, .mov (.t 24), none⟩,
   ⟨some 26, .mov (.t 0), some (25, false)⟩,
   ⟨some 27, .call 10 [(.t 26)], some (25, false)⟩,
   ⟨some 28, .not (.t 27), some (25, false)⟩,
   ⟨some 29, .pick (.t 25) (.v (.p (.bool true))) (.t 28), none⟩])
 (.cond (.t 29)
  (.seq (.reg [⟨some 30, .call 7 [], none⟩,
     ⟨some 6, .mov (.t 30), none⟩])
   (.ret))
  (.skip)))
 (.seq (.reg [⟨some 31, .mov (.t 0), none⟩,
   ⟨some 32, .call 9 [(.t 31)], none⟩,
   ⟨some 7, .mov (.t 32), none⟩])
 (.seq (.reg [⟨some 8, .mov (.v (.sl true [] .full)), none⟩,
   ⟨some 9, .mov (.v (.sl true [] .full)), none⟩])
 (.seq (.seq (.reg [⟨some 33, .mov (.t 7), none⟩,
   ⟨some 34, .lenS (.t 33), none⟩,
   ⟨some 35, .mov (.v (.p (.int .i64 0))), none⟩])
 (.block 0 (.loop (.seq (.reg [⟨some 36, .arith .lss (.t 35) (.t 34), none⟩])
   (.seq (.cond (.t 36)
    (.skip)
    (.exit 0))
   (.seq (.block 1 (.seq (.reg [⟨some 37, .iadrS 6 (.t 33) (.t 35), none⟩,
      ⟨some 38, .loadA 6 (.t 37), none⟩,
      ⟨some 11, .alloc [(.p (.int .i64 0)), (.p (.int .i64 0)), (.p (.int .i64 0)), (.p (.int .i64 0)), (.p (.int .i64 0)), (.p (.int .i64 0))], none⟩,
      ⟨none, .store 6 (.t 11) (.t 38), none⟩])
    (.seq (.reg [⟨some 39, .mov (.t 8), none⟩,
      ⟨some 40, .fadr 0 (.t 11), none⟩,
      ⟨some 41, .loadA 2 (.t 40), none⟩,
      ⟨some 42, .fadr 2 (.t 11), none⟩,
      ⟨some 43, .loadA 2 (.t 42), none⟩,
      ⟨some 44, .fadr 4 (.t 11), none⟩,
      ⟨some 45, .load1 (.t 44), none⟩,
      ⟨some 46, .neg (.t 45), none⟩,
      ⟨some 47, .fadr 5 (.t 11), none⟩,
      ⟨some 48, .load1 (.t 47), none⟩,
      ⟨some 49, .neg (.t 48), none⟩,
      ⟨some 50, .build [(.p (.int .i64 0)), (.p (.int .i64 0)), (.p (.int .i64 0)), (.p (.int .i64 0)), (.p (.int .i64 0)), (.p (.int .i64 0))] [(0, 2, (.t 41)), (2, 2, (.t 43)), (4, 1, (.t 46)), (5, 1, (.t 49))], none⟩,
      ⟨some 51, .bslice 6 [(.p (.int .i64 0)), (.p (.int .i64 0)), (.p (.int .i64 0)), (.p (.int .i64 0)), (.p (.int .i64 0)), (.p (.int .i64 0))] 1 [(0, 6, (.t 50))], none⟩,
      ⟨some 52, .append 6 48 (.t 39) (.t 51), none⟩,
      ⟨some 8, .mov (.t 52), none⟩])
    (.reg [⟨some 53, .mov (.t 9), none⟩,
      ⟨some 54, .fadr 0 (.t 11), none⟩,
      ⟨some 55, .loadA 2 (.t 54), none⟩,
      ⟨some 56, .fadr 2 (.t 11), none⟩,
      ⟨some 57, .loadA 2 (.t 56), none⟩,
      ⟨some 58, .fadr 4 (.t 11), none⟩,
      ⟨some 59, .load1 (.t 58), none⟩,
      ⟨some 60, .build [(.p (.int .i64 0)), (.p (.int .i64 0)), (.p (.int .i64 0)), (.p (.int .i64 0)), (.p (.int .i64 0)), (.p (.int .i64 0))] [(0, 2, (.t 55)), (2, 2, (.t 57)), (4, 1, (.t 59))], none⟩,
      ⟨some 61, .bslice 6 [(.p (.int .i64 0)), (.p (.int .i64 0)), (.p (.int .i64 0)), (.p (.int .i64 0)), (.p (.int .i64 0)), (.p (.int .i64 0))] 1 [(0, 6, (.t 60))], none⟩,
      ⟨some 62, .append 6 48 (.t 53) (.t 61), none⟩,
      ⟨some 9, .mov (.t 62), none⟩]))))
   (.reg [⟨some 63, .arith .add (.t 35) (.v (.p (.int .i64 1))), none⟩,
     ⟨some 35, .mov (.t 63), none⟩])))))))
 (.seq (.reg [⟨some 64, .mov (.t 7), none⟩,
   ⟨some 65, .call 8 [(.t 64)], none⟩,
   ⟨some 66, .mov (.t 8), none⟩,
   ⟨some 67, .call 8 [(.t 66)], none⟩,
   ⟨some 68, .mov (.t 9), none⟩,
   ⟨some 69, .call 8 [(.t 68)], none⟩,
   ⟨some 12, .mov (.t 65), none⟩,
   ⟨some 13, .mov (.t 67), none⟩,
   ⟨some 14, .mov (.t 69), none⟩])
 (.seq (.seq (.reg [⟨some 70, .mov (.t 12), none⟩,
   ⟨some 71, .lenS (.t 70), none⟩,
   ⟨some 72, .mov (.t 0), none⟩,
   ⟨some 73, .lenS (.t 72), none⟩,
   ⟨some 74, .arith .neq (.t 71) (.t 73), none⟩,
   ⟨some 75, .mov (.t 74), none⟩,
   ⟨some 76, .mov (.t 13), some (75, false)⟩,
   ⟨some 77, .lenS (.t 76), some (75, false)⟩,
   ⟨some 78, .mov (.t 0), some (75, false)⟩,
   ⟨some 79, .lenS (.t 78), some (75, false)⟩,
   ⟨some 80, .arith .neq (.t 77) (.t 79), some (75, false)⟩,
   ⟨some 81, .pick (.t 75) (.v (.p (.bool true))) (.t 80), none⟩,
   ⟨some 82, .mov (.t 81), none⟩,
   ⟨some 83, .mov (.t 14), some (82, false)⟩,
   ⟨some 84, .lenS (.t 83), some (82, false)⟩,
   ⟨some 85, .mov (.t 0), some (82, false)⟩,
   ⟨some 86, .lenS (.t 85), some (82, false)⟩,
   ⟨some 87, .arith .neq (.t 84) (.t 86), some (82, false)⟩,
   ⟨some 88, .pick (.t 82) (.v (.p (.bool true))) (.t 87), none⟩])
 (.cond (.t 88)
  (.seq (.reg [⟨some 6, .mov (.v (.p (.bool false))), none⟩])
   (.ret))
  (.skip)))
 (.seq (.seq (.reg [⟨some 89, .mov (.t 12), none⟩,
   ⟨some 90, .lenS (.t 89), none⟩,
   ⟨some 91, .mov (.v (.p (.int .i64 0))), none⟩])
 (.block 2 (.loop (.seq (.reg [⟨some 92, .arith .lss (.t 91) (.t 90), none⟩])
   (.seq (.cond (.t 92)
    (.skip)
    (.exit 2))
   (.seq (.block 3 (.seq (.reg [⟨some 93, .mov (.t 91), none⟩,
      ⟨some 15, .mov (.t 93), none⟩])
    (.seq (.drawn .univ [] [⟨some 94, .mov (.t 12), none⟩,
      ⟨some 95, .mov (.t 15), none⟩,
      ⟨some 96, .iadrS 4 (.t 94) (.t 95), none⟩,
      ⟨some 97, .fadr 0 (.t 96), none⟩,
      ⟨some 98, .iadrA 2 1 (.t 97) (.v (.p (.int .i64 0))), none⟩,
      ⟨some 99, .load1 (.t 98), none⟩,
      ⟨some 100, .neg (.t 99), none⟩,
      ⟨some 101, .mov (.t 12), none⟩,
      ⟨some 102, .mov (.t 15), none⟩,
      ⟨some 103, .iadrS 4 (.t 101) (.t 102), none⟩,
      ⟨some 104, .fadr 0 (.t 103), none⟩,
      ⟨some 105, .iadrA 2 1 (.t 104) (.v (.p (.int .i64 1))), none⟩,
      ⟨some 106, .load1 (.t 105), none⟩,
      ⟨some 107, .neg (.t 106), none⟩,
      ⟨some 108, .build [(.p (.int .i64 0)), (.p (.int .i64 0))] [(0, 1, (.t 100)), (1, 1, (.t 107))], none⟩,
      ⟨some 109, .mov (.t 12), none⟩,
      ⟨some 110, .mov (.t 15), none⟩,
      ⟨some 111, .iadrS 4 (.t 109) (.t 110), none⟩,
      ⟨some 112, .fadr 2 (.t 111), none⟩,
      ⟨some 113, .iadrA 2 1 (.t 112) (.v (.p (.int .i64 0))), none⟩,
      ⟨some 114, .load1 (.t 113), none⟩,
      ⟨some 115, .neg (.t 114), none⟩,
      ⟨some 116, .mov (.t 12), none⟩,
      ⟨some 117, .mov (.t 15), none⟩,
      ⟨some 118, .iadrS 4 (.t 116) (.t 117), none⟩,
      ⟨some 119, .fadr 2 (.t 118), none⟩,
      ⟨some 120, .iadrA 2 1 (.t 119) (.v (.p (.int .i64 1))), none⟩,
      ⟨some 121, .load1 (.t 120), none⟩,
      ⟨some 122, .neg (.t 121), none⟩,
      ⟨some 123, .build [(.p (.int .i64 0)), (.p (.int .i64 0))] [(0, 1, (.t 115)), (1, 1, (.t 122))], none⟩,
      ⟨some 124, .build [(.p (.int .i64 0)), (.p (.int .i64 0)), (.p (.int .i64 0)), (.p (.int .i64 0))] [(0, 2, (.t 108)), (2, 2, (.t 123))], none⟩,
      ⟨some 16, .alloc [(.p (.int .i64 0)), (.p (.int .i64 0)), (.p (.int .i64 0)), (.p (.int .i64 0))], none⟩,
      ⟨none, .store 4 (.t 16) (.t 124), none⟩])
    (.seq (.drawn .univ [] [⟨some 125, .mov (.t 12), none⟩,
      ⟨some 126, .mov (.t 15), none⟩,
      ⟨some 127, .iadrS 4 (.t 125) (.t 126), none⟩,
      ⟨some 128, .fadr 0 (.t 127), none⟩,
      ⟨some 129, .iadrA 2 1 (.t 128) (.v (.p (.int .i64 0))), none⟩,
      ⟨some 130, .load1 (.t 129), none⟩,
      ⟨some 131, .build [(.p (.int .i64 0)), (.p (.int .i64 0))] [(0, 1, (.t 130)), (1, 1, (.v (.p (.int .i64 0))))], none⟩,
      ⟨some 132, .mov (.t 12), none⟩,
      ⟨some 133, .mov (.t 15), none⟩,
      ⟨some 134, .iadrS 4 (.t 132) (.t 133), none⟩,
      ⟨some 135, .fadr 2 (.t 134), none⟩,
      ⟨some 136, .iadrA 2 1 (.t 135) (.v (.p (.int .i64 0))), none⟩,
      ⟨some 137, .load1 (.t 136), none⟩,
      ⟨some 138, .build [(.p (.int .i64 0)), (.p (.int .i64 0))] [(0, 1, (.t 137)), (1, 1, (.v (.p (.int .i64 0))))], none⟩,
      ⟨some 139, .build [(.p (.int .i64 0)), (.p (.int .i64 0)), (.p (.int .i64 0)), (.p (.int .i64 0))] [(0, 2, (.t 131)), (2, 2, (.t 138))], none⟩,
      ⟨some 17, .alloc [(.p (.int .i64 0)), (.p (.int .i64 0)), (.p (.int .i64 0)), (.p (.int .i64 0))], none⟩,
      ⟨none, .store 4 (.t 17) (.t 139), none⟩])
    (.seq (.drawn .univ [] [⟨some 140, .mov (.t 13), none⟩,
      ⟨some 141, .mov (.t 15), none⟩,
      ⟨some 142, .iadrS 4 (.t 140) (.t 141), none⟩,
      ⟨some 143, .loadA 4 (.t 142), none⟩,
      ⟨some 144, .loadA 4 (.t 16), none⟩,
      ⟨some 145, .eqA [some .i64, some .i64, some .i64, some .i64] true (.t 143) (.t 144), none⟩,
      ⟨some 146, .mov (.t 145), none⟩,
      ⟨some 147, .mov (.t 14), some (146, false)⟩,
      ⟨some 148, .mov (.t 15), some (146, false)⟩,
      ⟨some 149, .iadrS 4 (.t 147) (.t 148), some (146, false)⟩,
      ⟨some 150, .loadA 4 (.t 149), some (146, false)⟩,
      ⟨some 151, .loadA 4 (.t 17), some (146, false)⟩,
      ⟨some 152, .eqA [some .i64, some .i64, some .i64, some .i64] true (.t 150) (.t 151), some (146, false)⟩,
      ⟨some 153, .pick (.t 146) (.v (.p (.bool true))) (.t 152), none⟩])
    (.cond (.t 153)
     (.seq (.reg [⟨some 6, .mov (.v (.p (.bool false))), none⟩])
      (.ret))
     (.skip)))))))
   (.reg [⟨some 154, .arith .add (.t 91) (.v (.p (.int .i64 1))), none⟩,
     ⟨some 91, .mov (.t 154), none⟩])))))))
 (.seq (.reg [⟨some 156, .mov (.t 7), none⟩,
   ⟨some 157, .mov (.t 1), none⟩,
   ⟨some 158, .mov (.t 2), none⟩,
   ⟨some 159, .call 13 [(.t 156), (.t 157), (.t 158)], none⟩,
   ⟨some 155, .mov (.t 159), none⟩,
   ⟨some 160, .ext 0 (.t 155), none⟩,
   ⟨some 161, .ext 1 (.t 155), none⟩,
   ⟨some 18, .alloc [(.p (.int .i64 0)), (.p (.int .i64 0))], none⟩,
   ⟨none, .store 2 (.t 18) (.t 160), none⟩,
   ⟨some 19, .mov (.t 161), none⟩])
 (.seq (.reg [⟨some 163, .mov (.t 8), none⟩,
   ⟨some 164, .mov (.t 1), none⟩,
   ⟨some 165, .mov (.t 2), none⟩,
   ⟨some 166, .call 13 [(.t 163), (.t 164), (.t 165)], none⟩,
   ⟨some 162, .mov (.t 166), none⟩,
   ⟨some 167, .ext 0 (.t 162), none⟩,
   ⟨some 168, .ext 1 (.t 162), none⟩,
   ⟨some 20, .alloc [(.p (.int .i64 0)), (.p (.int .i64 0))], none⟩,
   ⟨none, .store 2 (.t 20) (.t 167), none⟩,
   ⟨some 21, .mov (.t 168), none⟩])
 (.seq (.reg [⟨some 169, .call 7 [], none⟩,
   ⟨some 170, .mov (.t 169), none⟩,
   ⟨some 171, .mov (.t 19), some (170, true)⟩,
   ⟨some 172, .mov (.t 21), some (170, true)⟩,
   ⟨some 173, .eqB false (.t 171) (.t 172), some (170, true)⟩,
   ⟨some 174, .pick (.t 170) (.t 173) (.v (.p (.bool false))), none⟩,
   ⟨some 175, .mov (.t 174), none⟩,
   ⟨some 176, .loadA 2 (.t 20), some (175, true)⟩,
   ⟨some 177, .iadrA 2 1 (.t 18) (.v (.p (.int .i64 0))), some (175, true)⟩,
   ⟨some 178, .load1 (.t 177), some (175, true)⟩,
   ⟨some 179, .neg (.t 178), some (175, true)⟩,
   ⟨some 180, .iadrA 2 1 (.t 18) (.v (.p (.int .i64 1))), some (175, true)⟩,
   ⟨some 181, .load1 (.t 180), some (175, true)⟩,
   ⟨some 182, .neg (.t 181), some (175, true)⟩,
   ⟨some 183, .build [(.p (.int .i64 0)), (.p (.int .i64 0))] [(0, 1, (.t 179)), (1, 1, (.t 182))], some (175, true)⟩,
   ⟨some 184, .eqA [some .i64, some .i64] false (.t 176) (.t 183), some (175, true)⟩,
   ⟨some 185, .pick (.t 175) (.t 184) (.v (.p (.bool false))), none⟩,
   ⟨some 6, .mov (.t 185), none⟩])
 (.ret)))))))))))⟩
theorem c9 : compFunc Try.prog [] 6 = some a9 := by kernel_rfl

def a6 : AFunc := ⟨57, [.tmp 2],
 .seq (.reg [⟨some 2, .mov (.v (.p (.bool false))), none⟩])
 (.seq (.seq (.reg [⟨some 6, .mov (.t 0), none⟩,
   ⟨some 7, .lenS (.t 6), none⟩,
   ⟨some 8, .arith .gtr (.t 7) (.v (.p (.int .i64 60))), none⟩])
 (.cond (.t 8)
  (.seq (.reg [⟨some 9, .call 7 [], none⟩,
     ⟨some 2, .mov (.t 9), none⟩])
   (.ret))
  (.skip)))
 (.seq (.reg [⟨some 10, .mov (.t 0), none⟩,
   ⟨some 11, .call 9 [(.t 10)], none⟩,
   ⟨some 12, .call 8 [(.t 11)], none⟩,
   ⟨some 3, .mov (.t 12), none⟩])
 (.seq (.seq (.reg [⟨some 13, .mov (.t 0), none⟩,
   ⟨some 14, .call 10 [(.t 13)], none⟩,
   ⟨some 15, .not (.t 14), none⟩])
 (.cond (.t 15)
  (.seq (.reg [⟨some 16, .call 7 [], none⟩,
     ⟨some 17, .mov (.t 16), none⟩,
     ⟨some 18, .mov (.t 0), some (17, true)⟩,
     ⟨some 19, .call 9 [(.t 18)], some (17, true)⟩,
     ⟨some 20, .call 11 [(.t 19)], some (17, true)⟩,
     ⟨some 21, .not (.t 20), some (17, true)⟩,
     ⟨some 22, .pick (.t 17) (.t 21) (.v (.p (.bool false))), none⟩,
     ⟨some 23, .mov (.t 22), none⟩,
     ⟨some 24, .mov (.t 3), some (23, true)⟩,
     ⟨some 25, .lenS (.t 24), some (23, true)⟩,
     ⟨some 26, .arith .eql (.t 25) (.v (.p (.int .i64 0))), some (23, true)⟩,
     ⟨some 27, .pick (.t 23) (.t 26) (.v (.p (.bool false))), none⟩,
     ⟨some 2, .mov (.t 27), none⟩])
   (.ret))
  (.skip)))
 (.seq (.reg [⟨some 28, .mov (.t 0), none⟩,
   ⟨some 29, .call 12 [(.t 28)], none⟩,
   ⟨some 4, .mov (.t 29), none⟩])
 (.seq (.seq (.reg [⟨some 30, .mov (.t 0), none⟩,
   ⟨some 31, .call 9 [(.t 30)], none⟩,
   ⟨some 32, .call 11 [(.t 31)], none⟩,
   ⟨some 33, .not (.t 32), none⟩,
   ⟨some 34, .mov (.t 33), none⟩,
   ⟨some 35, .mov (.t 3), some (34, false)⟩,
   ⟨some 36, .lenS (.t 35), some (34, false)⟩,
   ⟨some 37, .mov (.t 4), some (34, false)⟩,
   ⟨some 38, .lenS (.t 37), some (34, false)⟩,
   ⟨some 39, .arith .neq (.t 36) (.t 38), some (34, false)⟩,
   ⟨some 40, .pick (.t 34) (.v (.p (.bool true))) (.t 39), none⟩])
 (.cond (.t 40)
  (.seq (.reg [⟨some 2, .mov (.v (.p (.bool false))), none⟩])
   (.ret))
  (.skip)))
 (.seq (.seq (.reg [⟨some 41, .mov (.t 3), none⟩,
   ⟨some 42, .lenS (.t 41), none⟩,
   ⟨some 43, .mov (.v (.p (.int .i64 0))), none⟩])
 (.block 0 (.loop (.seq (.reg [⟨some 44, .arith .lss (.t 43) (.t 42), none⟩])
   (.seq (.cond (.t 44)
    (.skip)
    (.exit 0))
   (.seq (.block 1 (.seq (.reg [⟨some 45, .mov (.t 43), none⟩,
      ⟨some 5, .mov (.t 45), none⟩])
    (.seq (.drawn .univ [] [⟨some 46, .mov (.t 3), none⟩,
      ⟨some 47, .mov (.t 5), none⟩,
      ⟨some 48, .iadrS 4 (.t 46) (.t 47), none⟩,
      ⟨some 49, .loadA 4 (.t 48), none⟩,
      ⟨some 50, .mov (.t 4), none⟩,
      ⟨some 51, .mov (.t 5), none⟩,
      ⟨some 52, .iadrS 4 (.t 50) (.t 51), none⟩,
      ⟨some 53, .loadA 4 (.t 52), none⟩,
      ⟨some 54, .eqA [some .i64, some .i64, some .i64, some .i64] true (.t 49) (.t 53), none⟩])
    (.cond (.t 54)
     (.seq (.reg [⟨some 2, .mov (.v (.p (.bool false))), none⟩])
      (.ret))
     (.skip)))))
   (.reg [⟨some 55, .arith .add (.t 43) (.v (.p (.int .i64 1))), none⟩,
     ⟨some 43, .mov (.t 55), none⟩])))))))
 (.seq (.reg [⟨some 56, .call 7 [], none⟩,
   ⟨some 2, .mov (.t 56), none⟩])
 (.ret))))))))⟩
theorem c6 : compFunc Try.prog [] 3 = some a6 := by kernel_rfl

def a7 : AFunc := ⟨70, [.tmp 6],
 .seq (.reg [⟨some 6, .mov (.v (.p (.bool false))), none⟩])
 (.seq (.seq (.reg [⟨some 11, .mov (.t 0), none⟩,
   ⟨some 12, .lenS (.t 11), none⟩,
   ⟨some 13, .arith .gtr (.t 12) (.v (.p (.int .i64 60))), none⟩])
 (.cond (.t 13)
  (.seq (.reg [⟨some 14, .call 7 [], none⟩,
     ⟨some 6, .mov (.t 14), none⟩])
   (.ret))
  (.skip)))
 (.seq (.reg [⟨some 16, .mov (.t 0), none⟩,
   ⟨some 17, .call 9 [(.t 16)], none⟩,
   ⟨some 18, .mov (.t 1), none⟩,
   ⟨some 19, .mov (.t 2), none⟩,
   ⟨some 20, .call 13 [(.t 17), (.t 18), (.t 19)], none⟩,
   ⟨some 15, .mov (.t 20), none⟩,
   ⟨some 21, .ext 0 (.t 15), none⟩,
   ⟨some 22, .ext 1 (.t 15), none⟩,
   ⟨some 7, .alloc [(.p (.int .i64 0)), (.p (.int .i64 0))], none⟩,
   ⟨none, .store 2 (.t 7) (.t 21), none⟩,
   ⟨some 8, .mov (.t 22), none⟩])
 (.seq (.seq (.reg [⟨some 23, .mov (.t 0), none⟩,
   ⟨some 24, .call 10 [(.t 23)], none⟩,
   ⟨some 25, .not (.t 24), none⟩,
   ⟨some 26, .mov (.t 25), none⟩,
   ⟨some 27, .mov (.t 1), some (26, false)⟩,
   ⟨some 28, .arith .gtr (.t 27) (.v (.p (.int .i64 268435456))), some (26, false)⟩,
   ⟨some 29, .pick (.t 26) (.v (.p (.bool true))) (.t 28), none⟩,
   ⟨some 30, .mov (.t 29), none⟩,
   ⟨some 31, .mov (.t 1), some (30, false)⟩,
   ⟨some 32, .arith .lss (.t 31) (.v (.p (.int .i64 (-268435456)))), some (30, false)⟩,
   ⟨some 33, .pick (.t 30) (.v (.p (.bool true))) (.t 32), none⟩,
   ⟨some 34, .mov (.t 33), none⟩,
   ⟨some 35, .mov (.t 2), some (34, false)⟩,
   ⟨some 36, .arith .gtr (.t 35) (.v (.p (.int .i64 268435456))), some (34, false)⟩,
   ⟨some 37, .pick (.t 34) (.v (.p (.bool true))) (.t 36), none⟩,
   ⟨some 38, .mov (.t 37), none⟩,
   ⟨some 39, .mov (.t 2), some (38, false)⟩,
   ⟨some 40, .arith .lss (.t 39) (.v (.p (.int .i64 (-268435456)))), some (38, false)⟩,
   ⟨some 41, .pick (.t 38) (.v (.p (.bool true))) (.t 40), none⟩])
 (.cond (.t 41)
  (.seq (.reg [⟨some 42, .call 7 [], none⟩,
     ⟨some 43, .mov (.t 42), none⟩,
     ⟨some 44, .loadA 2 (.t 7), some (43, true)⟩,
     ⟨some 45, .build [(.p (.int .i64 0)), (.p (.int .i64 0))] [], some (43, true)⟩,
     ⟨some 46, .eqA [some .i64, some .i64] false (.t 44) (.t 45), some (43, true)⟩,
     ⟨some 47, .pick (.t 43) (.t 46) (.v (.p (.bool false))), none⟩,
     ⟨some 48, .mov (.t 47), none⟩,
     ⟨some 49, .mov (.t 8), some (48, true)⟩,
     ⟨some 50, .not (.t 49), some (48, true)⟩,
     ⟨some 51, .pick (.t 48) (.t 50) (.v (.p (.bool false))), none⟩,
     ⟨some 6, .mov (.t 51), none⟩])
   (.ret))
  (.skip)))
 (.seq (.reg [⟨some 53, .mov (.t 0), none⟩,
   ⟨some 54, .mov (.t 1), none⟩,
   ⟨some 55, .mov (.t 2), none⟩,
   ⟨some 56, .call 14 [(.t 53), (.t 54), (.t 55)], none⟩,
   ⟨some 52, .mov (.t 56), none⟩,
   ⟨some 57, .ext 0 (.t 52), none⟩,
   ⟨some 58, .ext 1 (.t 52), none⟩,
   ⟨some 9, .alloc [(.p (.int .i64 0)), (.p (.int .i64 0))], none⟩,
   ⟨none, .store 2 (.t 9) (.t 57), none⟩,
   ⟨some 10, .mov (.t 58), none⟩])
 (.seq (.reg [⟨some 59, .call 7 [], none⟩,
   ⟨some 60, .mov (.t 59), none⟩,
   ⟨some 61, .loadA 2 (.t 7), some (60, true)⟩,
   ⟨some 62, .loadA 2 (.t 9), some (60, true)⟩,
   ⟨some 63, .eqA [some .i64, some .i64] false (.t 61) (.t 62), some (60, true)⟩,
   ⟨some 64, .pick (.t 60) (.t 63) (.v (.p (.bool false))), none⟩,
   ⟨some 65, .mov (.t 64), none⟩,
   ⟨some 66, .mov (.t 8), some (65, true)⟩,
   ⟨some 67, .mov (.t 10), some (65, true)⟩,
   ⟨some 68, .eqB false (.t 66) (.t 67), some (65, true)⟩,
   ⟨some 69, .pick (.t 65) (.t 68) (.v (.p (.bool false))), none⟩,
   ⟨some 6, .mov (.t 69), none⟩])
 (.ret))))))⟩
theorem c7 : compFunc Try.prog [] 4 = some a7 := by kernel_rfl

def a8 : AFunc := ⟨135, [.tmp 6],
 .seq (.reg [⟨some 3, .box (.t 0), none⟩,
   ⟨some 6, .mov (.v (.p (.bool false))), none⟩])
 (.seq (.seq (.reg [⟨some 19, .loadA 6 (.t 3), none⟩,
   ⟨some 20, .call 15 [(.t 19)], none⟩,
   ⟨some 21, .arith .gtr (.t 20) (.v (.p (.int .i64 0))), none⟩,
   ⟨some 22, .mov (.t 21), none⟩,
   ⟨some 23, .loadA 6 (.t 3), some (22, false)⟩,
   ⟨some 24, .call 16 [(.t 23)], some (22, false)⟩,
   ⟨some 25, .arith .neq (.t 24) (.v (.p (.int .i64 0))), some (22, false)⟩,
   ⟨some 26, .pick (.t 22) (.v (.p (.bool true))) (.t 25), none⟩,
   ⟨some 27, .mov (.t 26), none⟩,
   ⟨some 28, .mov (.t 1), some (27, false)⟩,
   ⟨some 29, .arith .gtr (.t 28) (.v (.p (.int .i64 268435456))), some (27, false)⟩,
   ⟨some 30, .pick (.t 27) (.v (.p (.bool true))) (.t 29), none⟩,
   ⟨some 31, .mov (.t 30), none⟩,
   ⟨some 32, .mov (.t 1), some (31, false)⟩,
   ⟨some 33, .arith .lss (.t 32) (.v (.p (.int .i64 (-268435456)))), some (31, false)⟩,
   ⟨some 34, .pick (.t 31) (.v (.p (.bool true))) (.t 33), none⟩,
   ⟨some 35, .mov (.t 34), none⟩,
   ⟨some 36, .mov (.t 2), some (35, false)⟩,
   ⟨some 37, .arith .gtr (.t 36) (.v (.p (.int .i64 268435456))), some (35, false)⟩,
   ⟨some 38, .pick (.t 35) (.v (.p (.bool true))) (.t 37), none⟩,
   ⟨some 39, .mov (.t 38), none⟩,
   ⟨some 40, .mov (.t 2), some (39, false)⟩,
   ⟨some 41, .arith .lss (.t 40) (.v (.p (.int .i64 (-268435456)))), some (39, false)⟩,
   ⟨some 42, .pick (.t 39) (.v (.p (.bool true))) (.t 41), none⟩])
 (.cond (.t 42)
  (.seq (.reg [⟨some 43, .call 7 [], none⟩,
     ⟨some 6, .mov (.t 43), none⟩])
   (.ret))
  (.skip)))
 (.seq (.reg [⟨some 7, .mov (.v (.sl true [] .full)), none⟩])
 (.seq (.seq (.reg [⟨some 44, .loadA 6 (.t 3), none⟩,
   ⟨some 45, .call 17 [(.t 44)], none⟩,
   ⟨some 46, .lenS (.t 45), none⟩,
   ⟨some 47, .mov (.v (.p (.int .i64 0))), none⟩])
 (.block 0 (.loop (.seq (.reg [⟨some 48, .arith .lss (.t 47) (.t 46), none⟩])
   (.seq (.cond (.t 48)
    (.skip)
    (.exit 0))
   (.seq (.block 1 (.seq (.reg [⟨some 49, .iadrS 5 (.t 45) (.t 47), none⟩,
      ⟨some 50, .loadA 5 (.t 49), none⟩,
      ⟨some 9, .alloc [(.p (.int .i64 0)), (.p (.int .i64 0)), (.p (.int .i64 0)), (.p (.int .i64 0)), (.p (.int .i64 0))], none⟩,
      ⟨none, .store 5 (.t 9) (.t 50), none⟩])
    (.seq (.drawn .univ [(59, 10), (62, 10)] [⟨some 51, .fadr 0 (.t 9), none⟩,
      ⟨some 52, .fadr 0 (.t 51), none⟩,
      ⟨some 53, .load1 (.t 52), none⟩,
      ⟨some 54, .fadr 0 (.t 9), none⟩,
      ⟨some 55, .fadr 1 (.t 54), none⟩,
      ⟨some 56, .load1 (.t 55), none⟩,
      ⟨some 57, .build [(.p (.int .i64 0)), (.p (.int .i64 0))] [(0, 1, (.t 53)), (1, 1, (.t 56))], none⟩,
      ⟨some 58, .fadr 2 (.t 9), none⟩,
      ⟨some 59, .fadr 0 (.t 58), none⟩,
      ⟨some 60, .load1 (.t 59), none⟩,
      ⟨some 61, .fadr 2 (.t 9), none⟩,
      ⟨some 62, .fadr 1 (.t 61), none⟩,
      ⟨some 63, .load1 (.t 62), none⟩,
      ⟨some 64, .build [(.p (.int .i64 0)), (.p (.int .i64 0))] [(0, 1, (.t 60)), (1, 1, (.t 63))], none⟩,
      ⟨some 10, .alloc [(.p (.int .i64 0)), (.p (.int .i64 0))], none⟩,
      ⟨some 11, .alloc [(.p (.int .i64 0)), (.p (.int .i64 0))], none⟩,
      ⟨none, .store 2 (.t 10) (.t 57), none⟩,
      ⟨none, .store 2 (.t 11) (.t 64), none⟩])
    (.seq (.reg [⟨some 12, .mov (.v (.p (.int .i64 1))), none⟩])
    (.seq (.seq (.reg [⟨some 65, .loadA 2 (.t 10), none⟩,
      ⟨some 66, .loadA 2 (.t 11), none⟩,
      ⟨some 67, .call 18 [(.t 65), (.t 66)], none⟩])
    (.block 2 (.seq (.reg [⟨some 69, .arith .eql (.t 67) (.v (.p (.int .i64 0))), none⟩,
       ⟨some 68, .mov (.t 69), none⟩])
     (.cond (.t 68)
      (.exit 1)
      (.seq (.reg [⟨some 71, .arith .eql (.t 67) (.v (.p (.int .i64 1))), none⟩,
         ⟨some 70, .mov (.t 71), none⟩])
       (.cond (.t 70)
        (.reg [⟨some 72, .loadA 2 (.t 11), none⟩,
           ⟨some 73, .loadA 2 (.t 10), none⟩,
           ⟨none, .store 2 (.t 10) (.t 72), none⟩,
           ⟨none, .store 2 (.t 11) (.t 73), none⟩,
           ⟨some 12, .mov (.v (.p (.int .i64 (-1)))), none⟩])
        (.skip)))))))
    (.reg [⟨some 74, .mov (.t 7), none⟩,
      ⟨some 75, .loadA 2 (.t 10), none⟩,
      ⟨some 76, .loadA 2 (.t 11), none⟩,
      ⟨some 77, .mov (.t 12), none⟩,
      ⟨some 78, .fadr 4 (.t 9), none⟩,
      ⟨some 79, .load1 (.t 78), none⟩,
      ⟨some 80, .arith .sub (.v (.p (.int .i64 1))) (.t 79), none⟩,
      ⟨some 81, .arith .mul (.t 77) (.t 80), none⟩,
      ⟨some 82, .mov (.t 12), none⟩,
      ⟨some 83, .fadr 4 (.t 9), none⟩,
      ⟨some 84, .load1 (.t 83), none⟩,
      ⟨some 85, .arith .mul (.t 82) (.t 84), none⟩,
      ⟨some 86, .build [(.p (.int .i64 0)), (.p (.int .i64 0)), (.p (.int .i64 0)), (.p (.int .i64 0)), (.p (.int .i64 0)), (.p (.int .i64 0))] [(0, 2, (.t 75)), (2, 2, (.t 76)), (4, 1, (.t 81)), (5, 1, (.t 85))], none⟩,
      ⟨some 87, .bslice 6 [(.p (.int .i64 0)), (.p (.int .i64 0)), (.p (.int .i64 0)), (.p (.int .i64 0)), (.p (.int .i64 0)), (.p (.int .i64 0))] 1 [(0, 6, (.t 86))], none⟩,
      ⟨some 88, .append 6 48 (.t 74) (.t 87), none⟩,
      ⟨some 7, .mov (.t 88), none⟩]))))))
   (.reg [⟨some 89, .arith .add (.t 47) (.v (.p (.int .i64 1))), none⟩,
     ⟨some 47, .mov (.t 89), none⟩])))))))
 (.seq (.reg [⟨some 91, .mov (.t 7), none⟩,
   ⟨some 92, .mov (.t 1), none⟩,
   ⟨some 93, .mov (.t 2), none⟩,
   ⟨some 94, .call 13 [(.t 91), (.t 92), (.t 93)], none⟩,
   ⟨some 90, .mov (.t 94), none⟩,
   ⟨some 95, .ext 0 (.t 90), none⟩,
   ⟨some 96, .ext 1 (.t 90), none⟩,
   ⟨some 13, .alloc [(.p (.int .i64 0)), (.p (.int .i64 0))], none⟩,
   ⟨none, .store 2 (.t 13) (.t 95), none⟩,
   ⟨some 14, .mov (.t 96), none⟩])
 (.seq (.reg [⟨some 98, .fadr 0 (.t 3), none⟩,
   ⟨some 99, .load1 (.t 98), none⟩,
   ⟨some 100, .mov (.t 1), none⟩,
   ⟨some 101, .mov (.t 2), none⟩,
   ⟨some 102, .call 19 [(.t 99), (.t 100), (.t 101)], none⟩,
   ⟨some 97, .mov (.t 102), none⟩,
   ⟨some 103, .ext 0 (.t 97), none⟩,
   ⟨some 104, .ext 1 (.t 97), none⟩,
   ⟨some 15, .mov (.t 103), none⟩,
   ⟨some 16, .mov (.t 104), none⟩])
 (.seq (.reg [⟨some 106, .fadr 1 (.t 3), none⟩,
   ⟨some 107, .load1 (.t 106), none⟩,
   ⟨some 108, .mov (.t 1), none⟩,
   ⟨some 109, .mov (.t 2), none⟩,
   ⟨some 110, .call 19 [(.t 107), (.t 108), (.t 109)], none⟩,
   ⟨some 105, .mov (.t 110), none⟩,
   ⟨some 111, .ext 0 (.t 105), none⟩,
   ⟨some 112, .ext 1 (.t 105), none⟩,
   ⟨some 17, .mov (.t 111), none⟩,
   ⟨some 18, .mov (.t 112), none⟩])
 (.seq (.seq (.reg [⟨some 113, .mov (.t 14), none⟩])
 (.cond (.t 113)
  (.seq (.reg [⟨some 114, .call 7 [], none⟩,
     ⟨some 115, .mov (.t 114), none⟩,
     ⟨some 116, .mov (.t 16), some (115, true)⟩,
     ⟨some 117, .mov (.t 116), some (115, true)⟩,
     ⟨some 118, .mov (.t 18), some (117, false)⟩,
     ⟨some 119, .pick (.t 117) (.v (.p (.bool true))) (.t 118), some (115, true)⟩,
     ⟨some 120, .pick (.t 115) (.t 119) (.v (.p (.bool false))), none⟩,
     ⟨some 6, .mov (.t 120), none⟩])
   (.ret))
  (.skip)))
 (.seq (.reg [⟨some 121, .call 7 [], none⟩,
   ⟨some 122, .mov (.t 121), none⟩,
   ⟨some 123, .mov (.t 16), some (122, true)⟩,
   ⟨some 124, .mov (.t 123), some (122, true)⟩,
   ⟨some 125, .mov (.t 18), some (124, false)⟩,
   ⟨some 126, .pick (.t 124) (.v (.p (.bool true))) (.t 125), some (122, true)⟩,
   ⟨some 127, .mov (.t 126), some (122, true)⟩,
   ⟨some 128, .loadA 2 (.t 13), some (127, false)⟩,
   ⟨some 129, .mov (.t 15), some (127, false)⟩,
   ⟨some 130, .mov (.t 17), some (127, false)⟩,
   ⟨some 131, .build [(.p (.int .i64 0)), (.p (.int .i64 0))] [(0, 1, (.t 129)), (1, 1, (.t 130))], some (127, false)⟩,
   ⟨some 132, .eqA [some .i64, some .i64] false (.t 128) (.t 131), some (127, false)⟩,
   ⟨some 133, .pick (.t 127) (.v (.p (.bool true))) (.t 132), some (122, true)⟩,
   ⟨some 134, .pick (.t 122) (.t 133) (.v (.p (.bool false))), none⟩,
   ⟨some 6, .mov (.t 134), none⟩])
 (.ret)))))))))⟩
theorem c8 : compFunc Try.prog [] 5 = some a8 := by kernel_rfl

def a32 : AFunc := ⟨98, [.tmp 0],
 .seq (.reg [⟨some 0, .mov (.v (.p (.bool false))), none⟩])
 (.seq (.reg [⟨some 13, .build [(.p (.int .i64 0)), (.p (.int .i64 0))] [], none⟩,
   ⟨some 14, .build [(.p (.int .i64 0)), (.p (.int .i64 0))] [(0, 1, (.v (.p (.int .i64 2))))], none⟩,
   ⟨some 15, .build [(.p (.int .i64 0)), (.p (.int .i64 0))] [(0, 1, (.v (.p (.int .i64 1)))), (1, 1, (.v (.p (.int .i64 2))))], none⟩,
   ⟨some 1, .alloc [(.p (.int .i64 0)), (.p (.int .i64 0))], none⟩,
   ⟨some 2, .alloc [(.p (.int .i64 0)), (.p (.int .i64 0))], none⟩,
   ⟨some 3, .alloc [(.p (.int .i64 0)), (.p (.int .i64 0))], none⟩,
   ⟨none, .store 2 (.t 1) (.t 13), none⟩,
   ⟨none, .store 2 (.t 2) (.t 14), none⟩,
   ⟨none, .store 2 (.t 3) (.t 15), none⟩])
 (.seq (.reg [⟨some 16, .loadA 2 (.t 1), none⟩,
   ⟨some 17, .loadA 2 (.t 3), none⟩,
   ⟨some 18, .build [(.p (.int .i64 0)), (.p (.int .i64 0)), (.p (.int .i64 0)), (.p (.int .i64 0)), (.p (.int .i64 0)), (.p (.int .i64 0))] [(0, 2, (.t 16)), (2, 2, (.t 17)), (4, 1, (.v (.p (.int .i64 (-1)))))], none⟩,
   ⟨some 19, .loadA 2 (.t 1), none⟩,
   ⟨some 20, .loadA 2 (.t 2), none⟩,
   ⟨some 21, .build [(.p (.int .i64 0)), (.p (.int .i64 0)), (.p (.int .i64 0)), (.p (.int .i64 0)), (.p (.int .i64 0)), (.p (.int .i64 0))] [(0, 2, (.t 19)), (2, 2, (.t 20)), (4, 1, (.v (.p (.int .i64 1))))], none⟩,
   ⟨some 22, .loadA 2 (.t 3), none⟩,
   ⟨some 23, .loadA 2 (.t 2), none⟩,
   ⟨some 24, .build [(.p (.int .i64 0)), (.p (.int .i64 0)), (.p (.int .i64 0)), (.p (.int .i64 0)), (.p (.int .i64 0)), (.p (.int .i64 0))] [(0, 2, (.t 22)), (2, 2, (.t 23)), (4, 1, (.v (.p (.int .i64 (-1)))))], none⟩,
   ⟨some 25, .bslice 6 [(.p (.int .i64 0)), (.p (.int .i64 0)), (.p (.int .i64 0)), (.p (.int .i64 0)), (.p (.int .i64 0)), (.p (.int .i64 0))] 3 [(0, 6, (.t 18)), (6, 6, (.t 21)), (12, 6, (.t 24))], none⟩,
   ⟨some 4, .mov (.t 25), none⟩])
 (.seq (.reg [⟨some 26, .mov (.t 4), none⟩,
   ⟨some 27, .call 8 [(.t 26)], none⟩,
   ⟨some 5, .mov (.t 27), none⟩])
 (.seq (.reg [⟨some 29, .mov (.t 4), none⟩,
   ⟨some 30, .call 13 [(.t 29), (.v (.p (.int .i64 2))), (.v (.p (.int .i64 1)))], none⟩,
   ⟨some 28, .mov (.t 30), none⟩,
   ⟨some 31, .ext 0 (.t 28), none⟩,
   ⟨some 32, .ext 1 (.t 28), none⟩,
   ⟨some 6, .alloc [(.p (.int .i64 0)), (.p (.int .i64 0))], none⟩,
   ⟨none, .store 2 (.t 6) (.t 31), none⟩,
   ⟨some 7, .mov (.t 32), none⟩])
 (.seq (.reg [⟨some 34, .mov (.t 4), none⟩,
   ⟨some 35, .call 13 [(.t 34), (.v (.p (.int .i64 2))), (.v (.p (.int .i64 0)))], none⟩,
   ⟨some 33, .mov (.t 35), none⟩,
   ⟨some 36, .ext 0 (.t 33), none⟩,
   ⟨some 37, .ext 1 (.t 33), none⟩,
   ⟨some 8, .alloc [(.p (.int .i64 0)), (.p (.int .i64 0))], none⟩,
   ⟨none, .store 2 (.t 8) (.t 36), none⟩,
   ⟨some 9, .mov (.t 37), none⟩])
 (.seq (.reg [⟨some 38, .build [(.p (.int .i64 0)), (.p (.int .i64 0))] [(0, 1, (.v (.p (.int .i64 1)))), (1, 1, (.v (.p (.int .i64 0))))], none⟩,
   ⟨some 39, .build [(.p (.int .i64 0)), (.p (.int .i64 0))] [], none⟩,
   ⟨some 10, .alloc [(.p (.int .i64 0)), (.p (.int .i64 0))], none⟩,
   ⟨some 11, .alloc [(.p (.int .i64 0)), (.p (.int .i64 0))], none⟩,
   ⟨none, .store 2 (.t 10) (.t 38), none⟩,
   ⟨none, .store 2 (.t 11) (.t 39), none⟩])
 (.seq (.drawn .univ [] [⟨some 40, .mov (.t 5), none⟩,
   ⟨some 41, .lenS (.t 40), none⟩,
   ⟨some 42, .arith .eql (.t 41) (.v (.p (.int .i64 3))), none⟩,
   ⟨some 43, .mov (.t 42), none⟩,
   ⟨some 44, .mov (.t 5), some (43, true)⟩,
   ⟨some 45, .iadrS 4 (.t 44) (.v (.p (.int .i64 0))), some (43, true)⟩,
   ⟨some 46, .loadA 4 (.t 45), some (43, true)⟩,
   ⟨some 47, .loadA 2 (.t 11), some (43, true)⟩,
   ⟨some 48, .loadA 2 (.t 10), some (43, true)⟩,
   ⟨some 49, .build [(.p (.int .i64 0)), (.p (.int .i64 0)), (.p (.int .i64 0)), (.p (.int .i64 0))] [(0, 2, (.t 47)), (2, 2, (.t 48))], some (43, true)⟩,
   ⟨some 50, .eqA [some .i64, some .i64, some .i64, some .i64] false (.t 46) (.t 49), some (43, true)⟩,
   ⟨some 51, .pick (.t 43) (.t 50) (.v (.p (.bool false))), none⟩,
   ⟨some 52, .mov (.t 51), none⟩,
   ⟨some 53, .mov (.t 5), some (52, true)⟩,
   ⟨some 54, .iadrS 4 (.t 53) (.v (.p (.int .i64 1))), some (52, true)⟩,
   ⟨some 55, .loadA 4 (.t 54), some (52, true)⟩,
   ⟨some 56, .loadA 2 (.t 10), some (52, true)⟩,
   ⟨some 57, .loadA 2 (.t 11), some (52, true)⟩,
   ⟨some 58, .build [(.p (.int .i64 0)), (.p (.int .i64 0)), (.p (.int .i64 0)), (.p (.int .i64 0))] [(0, 2, (.t 56)), (2, 2, (.t 57))], some (52, true)⟩,
   ⟨some 59, .eqA [some .i64, some .i64, some .i64, some .i64] false (.t 55) (.t 58), some (52, true)⟩,
   ⟨some 60, .pick (.t 52) (.t 59) (.v (.p (.bool false))), none⟩,
   ⟨some 61, .mov (.t 60), none⟩,
   ⟨some 62, .mov (.t 5), some (61, true)⟩,
   ⟨some 63, .iadrS 4 (.t 62) (.v (.p (.int .i64 2))), some (61, true)⟩,
   ⟨some 64, .loadA 4 (.t 63), some (61, true)⟩,
   ⟨some 65, .loadA 2 (.t 11), some (61, true)⟩,
   ⟨some 66, .loadA 2 (.t 10), some (61, true)⟩,
   ⟨some 67, .build [(.p (.int .i64 0)), (.p (.int .i64 0)), (.p (.int .i64 0)), (.p (.int .i64 0))] [(0, 2, (.t 65)), (2, 2, (.t 66))], some (61, true)⟩,
   ⟨some 68, .eqA [some .i64, some .i64, some .i64, some .i64] false (.t 64) (.t 67), some (61, true)⟩,
   ⟨some 69, .pick (.t 61) (.t 68) (.v (.p (.bool false))), none⟩,
   ⟨some 12, .mov (.t 69), none⟩])
 (.seq (.reg [⟨some 70, .mov (.t 12), none⟩,
   ⟨some 71, .mov (.t 70), none⟩,
   ⟨some 72, .mov (.t 4), some (71, true)⟩,
   ⟨some 73, .call 11 [(.t 72)], some (71, true)⟩,
   ⟨some 74, .pick (.t 71) (.t 73) (.v (.p (.bool false))), none⟩,
   ⟨some 75, .mov (.t 74), none⟩,
   ⟨some 76, .build [(.p (.int .i64 0)), (.p (.int .i64 0)), (.p (.int .i64 0)), (.p (.int .i64 0)), (.p (.int .i64 0)), (.p (.int .i64 0))] [], some (75, true)⟩,
   ⟨some 77, .bslice 6 [(.p (.int .i64 0)), (.p (.int .i64 0)), (.p (.int .i64 0)), (.p (.int .i64 0)), (.p (.int .i64 0)), (.p (.int .i64 0))] 1 [(0, 6, (.t 76))], some (75, true)⟩,
   ⟨some 78, .call 11 [(.t 77)], some (75, true)⟩,
   ⟨some 79, .not (.t 78), some (75, true)⟩,
   ⟨some 80, .pick (.t 75) (.t 79) (.v (.p (.bool false))), none⟩,
   ⟨some 81, .mov (.t 80), none⟩,
   ⟨some 82, .loadA 2 (.t 6), some (81, true)⟩,
   ⟨some 83, .loadA 2 (.t 10), some (81, true)⟩,
   ⟨some 84, .eqA [some .i64, some .i64] false (.t 82) (.t 83), some (81, true)⟩,
   ⟨some 85, .pick (.t 81) (.t 84) (.v (.p (.bool false))), none⟩,
   ⟨some 86, .mov (.t 85), none⟩,
   ⟨some 87, .mov (.t 7), some (86, true)⟩,
   ⟨some 88, .not (.t 87), some (86, true)⟩,
   ⟨some 89, .pick (.t 86) (.t 88) (.v (.p (.bool false))), none⟩,
   ⟨some 90, .mov (.t 89), none⟩,
   ⟨some 91, .loadA 2 (.t 8), some (90, true)⟩,
   ⟨some 92, .loadA 2 (.t 11), some (90, true)⟩,
   ⟨some 93, .eqA [some .i64, some .i64] false (.t 91) (.t 92), some (90, true)⟩,
   ⟨some 94, .pick (.t 90) (.t 93) (.v (.p (.bool false))), none⟩,
   ⟨some 95, .mov (.t 94), none⟩,
   ⟨some 96, .mov (.t 9), some (95, true)⟩,
   ⟨some 97, .pick (.t 95) (.t 96) (.v (.p (.bool false))), none⟩,
   ⟨some 0, .mov (.t 97), none⟩])
 (.ret)))))))))⟩
theorem c32 : compFunc Try.prog [] 7 = some a32 := by kernel_rfl

def a33 : AFunc := ⟨98, [.tmp 2],
 .seq (.reg [⟨some 2, .mov (.v (.sl true [] .full)), none⟩])
 (.seq (.seq (.reg [⟨some 11, .mov (.t 0), none⟩,
   ⟨some 12, .call 11 [(.t 11)], none⟩,
   ⟨some 13, .not (.t 12), none⟩])
 (.cond (.t 13)
  (.seq (.reg [⟨some 2, .mov (.v (.sl true [] .full)), none⟩])
   (.ret))
  (.skip)))
 (.seq (.reg [⟨some 3, .mov (.v (.sl true [] .full)), none⟩])
 (.seq (.seq (.reg [⟨some 14, .mov (.t 0), none⟩,
   ⟨some 15, .lenS (.t 14), none⟩,
   ⟨some 16, .mov (.v (.p (.int .i64 0))), none⟩])
 (.block 0 (.loop (.seq (.reg [⟨some 17, .arith .lss (.t 16) (.t 15), none⟩])
   (.seq (.cond (.t 17)
    (.skip)
    (.exit 0))
   (.seq (.block 1 (.seq (.reg [⟨some 18, .mov (.t 16), none⟩,
      ⟨some 19, .iadrS 6 (.t 14) (.t 16), none⟩,
      ⟨some 20, .loadA 6 (.t 19), none⟩,
      ⟨some 5, .alloc [(.p (.int .i64 0)), (.p (.int .i64 0)), (.p (.int .i64 0)), (.p (.int .i64 0)), (.p (.int .i64 0)), (.p (.int .i64 0))], none⟩,
      ⟨some 4, .mov (.t 18), none⟩,
      ⟨none, .store 6 (.t 5) (.t 20), none⟩])
    (.seq (.reg [⟨some 21, .fadr 0 (.t 5), none⟩,
      ⟨some 22, .fadr 0 (.t 21), none⟩,
      ⟨some 23, .load1 (.t 22), none⟩,
      ⟨some 24, .fadr 2 (.t 5), none⟩,
      ⟨some 25, .fadr 0 (.t 24), none⟩,
      ⟨some 26, .load1 (.t 25), none⟩,
      ⟨some 27, .arith .add (.t 23) (.t 26), none⟩,
      ⟨some 28, .fadr 0 (.t 5), none⟩,
      ⟨some 29, .fadr 1 (.t 28), none⟩,
      ⟨some 30, .load1 (.t 29), none⟩,
      ⟨some 31, .fadr 2 (.t 5), none⟩,
      ⟨some 32, .fadr 1 (.t 31), none⟩,
      ⟨some 33, .load1 (.t 32), none⟩,
      ⟨some 34, .arith .add (.t 30) (.t 33), none⟩,
      ⟨some 35, .build [(.p (.int .i64 0)), (.p (.int .i64 0))] [(0, 1, (.t 27)), (1, 1, (.t 34))], none⟩,
      ⟨some 6, .alloc [(.p (.int .i64 0)), (.p (.int .i64 0))], none⟩,
      ⟨none, .store 2 (.t 6) (.t 35), none⟩])
    (.seq (.reg [⟨some 36, .fadr 4 (.t 5), none⟩,
      ⟨some 37, .load1 (.t 36), none⟩,
      ⟨some 38, .fadr 5 (.t 5), none⟩,
      ⟨some 39, .load1 (.t 38), none⟩,
      ⟨some 40, .build [(.p (.int .i64 0)), (.p (.int .i64 0))] [(0, 1, (.t 37)), (1, 1, (.t 39))], none⟩,
      ⟨some 7, .alloc [(.p (.int .i64 0)), (.p (.int .i64 0))], none⟩,
      ⟨none, .store 2 (.t 7) (.t 40), none⟩])
    (.block 2 (.seq (.reg [⟨some 55, .fadr 0 (.t 5), none⟩,
       ⟨some 56, .fadr 1 (.t 55), none⟩,
       ⟨some 57, .load1 (.t 56), none⟩,
       ⟨some 58, .fadr 2 (.t 5), none⟩,
       ⟨some 59, .fadr 1 (.t 58), none⟩,
       ⟨some 60, .load1 (.t 59), none⟩,
       ⟨some 61, .arith .eql (.t 57) (.t 60), none⟩,
       ⟨some 54, .mov (.t 61), none⟩])
     (.cond (.t 54)
      (.seq (.reg [⟨some 62, .loadA 2 (.t 6), none⟩,
         ⟨some 63, .call 20 [(.t 62)], none⟩,
         ⟨some 64, .mov (.t 0), none⟩,
         ⟨some 65, .mov (.t 4), none⟩,
         ⟨some 66, .call 21 [(.t 63), (.t 64), (.t 65)], none⟩,
         ⟨some 8, .alloc [(.p (.int .i64 0)), (.p (.int .i64 0))], none⟩,
         ⟨none, .store 2 (.t 8) (.t 66), none⟩])
       (.drawn .univ [] [⟨some 67, .mov (.t 3), none⟩,
         ⟨some 68, .loadA 2 (.t 8), none⟩,
         ⟨some 69, .loadA 2 (.t 8), none⟩,
         ⟨some 70, .loadA 2 (.t 7), none⟩,
         ⟨some 71, .call 22 [(.t 69), (.t 70), (.v (.p (.int .i64 (-1))))], none⟩,
         ⟨some 72, .build [(.p (.int .i64 0)), (.p (.int .i64 0)), (.p (.int .i64 0)), (.p (.int .i64 0))] [(0, 2, (.t 68)), (2, 2, (.t 71))], none⟩,
         ⟨some 73, .bslice 4 [(.p (.int .i64 0)), (.p (.int .i64 0)), (.p (.int .i64 0)), (.p (.int .i64 0))] 1 [(0, 4, (.t 72))], none⟩,
         ⟨some 74, .append 4 32 (.t 67) (.t 73), none⟩,
         ⟨some 3, .mov (.t 74), none⟩]))
      (.seq (.reg [⟨some 76, .fadr 0 (.t 5), none⟩,
         ⟨some 77, .fadr 1 (.t 76), none⟩,
         ⟨some 78, .load1 (.t 77), none⟩,
         ⟨some 79, .fadr 2 (.t 5), none⟩,
         ⟨some 80, .fadr 1 (.t 79), none⟩,
         ⟨some 81, .load1 (.t 80), none⟩,
         ⟨some 82, .arith .lss (.t 78) (.t 81), none⟩,
         ⟨some 75, .mov (.t 82), none⟩])
       (.cond (.t 75)
        (.seq (.reg [⟨some 83, .loadA 2 (.t 6), none⟩,
           ⟨some 84, .call 23 [(.t 83)], none⟩,
           ⟨some 85, .mov (.t 0), none⟩,
           ⟨some 86, .mov (.t 4), none⟩,
           ⟨some 87, .call 21 [(.t 84), (.t 85), (.t 86)], none⟩,
           ⟨some 9, .alloc [(.p (.int .i64 0)), (.p (.int .i64 0))], none⟩,
           ⟨none, .store 2 (.t 9) (.t 87), none⟩])
         (.drawn .univ [] [⟨some 88, .mov (.t 3), none⟩,
           ⟨some 89, .loadA 2 (.t 9), none⟩,
           ⟨some 90, .loadA 2 (.t 7), none⟩,
           ⟨some 91, .call 22 [(.t 89), (.t 90), (.v (.p (.int .i64 1)))], none⟩,
           ⟨some 92, .loadA 2 (.t 9), none⟩,
           ⟨some 93, .build [(.p (.int .i64 0)), (.p (.int .i64 0)), (.p (.int .i64 0)), (.p (.int .i64 0))] [(0, 2, (.t 91)), (2, 2, (.t 92))], none⟩,
           ⟨some 94, .bslice 4 [(.p (.int .i64 0)), (.p (.int .i64 0)), (.p (.int .i64 0)), (.p (.int .i64 0))] 1 [(0, 4, (.t 93))], none⟩,
           ⟨some 95, .append 4 32 (.t 88) (.t 94), none⟩,
           ⟨some 3, .mov (.t 95), none⟩]))
        (.seq (.reg [⟨some 41, .loadA 2 (.t 6), none⟩,
           ⟨some 42, .call 23 [(.t 41)], none⟩,
           ⟨some 43, .mov (.t 0), none⟩,
           ⟨some 44, .mov (.t 4), none⟩,
           ⟨some 45, .call 21 [(.t 42), (.t 43), (.t 44)], none⟩,
           ⟨some 10, .alloc [(.p (.int .i64 0)), (.p (.int .i64 0))], none⟩,
           ⟨none, .store 2 (.t 10) (.t 45), none⟩])
         (.drawn .univ [] [⟨some 46, .mov (.t 3), none⟩,
           ⟨some 47, .loadA 2 (.t 10), none⟩,
           ⟨some 48, .loadA 2 (.t 10), none⟩,
           ⟨some 49, .loadA 2 (.t 7), none⟩,
           ⟨some 50, .call 22 [(.t 48), (.t 49), (.v (.p (.int .i64 (-1))))], none⟩,
           ⟨some 51, .build [(.p (.int .i64 0)), (.p (.int .i64 0)), (.p (.int .i64 0)), (.p (.int .i64 0))] [(0, 2, (.t 47)), (2, 2, (.t 50))], none⟩,
           ⟨some 52, .bslice 4 [(.p (.int .i64 0)), (.p (.int .i64 0)), (.p (.int .i64 0)), (.p (.int .i64 0))] 1 [(0, 4, (.t 51))], none⟩,
           ⟨some 53, .append 4 32 (.t 46) (.t 52), none⟩,
           ⟨some 3, .mov (.t 53), none⟩])))))))))))
   (.reg [⟨some 96, .arith .add (.t 16) (.v (.p (.int .i64 1))), none⟩,
     ⟨some 16, .mov (.t 96), none⟩])))))))
 (.seq (.reg [⟨some 97, .mov (.t 3), none⟩,
   ⟨some 2, .mov (.t 97), none⟩])
 (.ret)))))⟩
theorem c33 : compFunc Try.prog [] 8 = some a33 := by kernel_rfl

def a23 : AFunc := ⟨26, [.tmp 2],
 .seq (.reg [⟨some 2, .mov (.v (.sl true [] .full)), none⟩])
 (.seq (.reg [⟨some 3, .mov (.v (.sl true [] .full)), none⟩])
 (.seq (.seq (.reg [⟨some 6, .mov (.t 0), none⟩,
   ⟨some 7, .lenS (.t 6), none⟩,
   ⟨some 8, .mov (.v (.p (.int .i64 0))), none⟩])
 (.block 0 (.loop (.seq (.reg [⟨some 9, .arith .lss (.t 8) (.t 7), none⟩])
   (.seq (.cond (.t 9)
    (.skip)
    (.exit 0))
   (.seq (.block 1 (.seq (.reg [⟨some 10, .iadrS 6 (.t 6) (.t 8), none⟩,
      ⟨some 11, .loadA 6 (.t 10), none⟩,
      ⟨some 5, .alloc [(.p (.int .i64 0)), (.p (.int .i64 0)), (.p (.int .i64 0)), (.p (.int .i64 0)), (.p (.int .i64 0)), (.p (.int .i64 0))], none⟩,
      ⟨none, .store 6 (.t 5) (.t 11), none⟩])
    (.reg [⟨some 12, .mov (.t 3), none⟩,
      ⟨some 13, .fadr 0 (.t 5), none⟩,
      ⟨some 14, .loadA 2 (.t 13), none⟩,
      ⟨some 15, .fadr 2 (.t 5), none⟩,
      ⟨some 16, .loadA 2 (.t 15), none⟩,
      ⟨some 17, .fadr 4 (.t 5), none⟩,
      ⟨some 18, .load1 (.t 17), none⟩,
      ⟨some 19, .fadr 5 (.t 5), none⟩,
      ⟨some 20, .load1 (.t 19), none⟩,
      ⟨some 21, .build [(.p (.int .i64 0)), (.p (.int .i64 0)), (.p (.int .i64 0)), (.p (.int .i64 0)), (.p (.int .i64 0)), (.p (.int .i64 0))] [(0, 2, (.t 14)), (2, 2, (.t 16)), (4, 1, (.t 18)), (5, 1, (.t 20))], none⟩,
      ⟨some 22, .bslice 6 [(.p (.int .i64 0)), (.p (.int .i64 0)), (.p (.int .i64 0)), (.p (.int .i64 0)), (.p (.int .i64 0)), (.p (.int .i64 0))] 1 [(0, 6, (.t 21))], none⟩,
      ⟨some 23, .append 6 48 (.t 12) (.t 22), none⟩,
      ⟨some 3, .mov (.t 23), none⟩])))
   (.reg [⟨some 24, .arith .add (.t 8) (.v (.p (.int .i64 1))), none⟩,
     ⟨some 8, .mov (.t 24), none⟩])))))))
 (.seq (.reg [⟨some 25, .mov (.t 3), none⟩,
   ⟨some 2, .mov (.t 25), none⟩])
 (.ret))))⟩
theorem c23 : compFunc Try.prog [] 9 = some a23 := by kernel_rfl

def a34 : AFunc := ⟨62, [.tmp 2],
 .seq (.reg [⟨some 2, .mov (.v (.p (.bool false))), none⟩])
 (.seq (.seq (.reg [⟨some 5, .mov (.t 0), none⟩,
   ⟨some 6, .lenS (.t 5), none⟩,
   ⟨some 7, .arith .gtr (.t 6) (.v (.p (.int .i64 1048576))), none⟩])
 (.cond (.t 7)
  (.seq (.reg [⟨some 2, .mov (.v (.p (.bool false))), none⟩])
   (.ret))
  (.skip)))
 (.seq (.seq (.reg [⟨some 3, .mov (.v (.p (.int .i64 0))), none⟩])
 (.block 0 (.loop (.seq (.seq (.reg [⟨some 8, .mov (.t 3), none⟩,
     ⟨some 9, .mov (.t 0), none⟩,
     ⟨some 10, .lenS (.t 9), none⟩,
     ⟨some 11, .arith .lss (.t 8) (.t 10), none⟩])
   (.cond (.t 11)
    (.skip)
    (.exit 0)))
   (.seq (.block 1 (.seq (.reg [⟨some 14, .mov (.t 0), none⟩,
      ⟨some 15, .mov (.t 3), none⟩,
      ⟨some 16, .iadrS 6 (.t 14) (.t 15), none⟩,
      ⟨some 17, .loadA 6 (.t 16), none⟩,
      ⟨some 4, .alloc [(.p (.int .i64 0)), (.p (.int .i64 0)), (.p (.int .i64 0)), (.p (.int .i64 0)), (.p (.int .i64 0)), (.p (.int .i64 0))], none⟩,
      ⟨none, .store 6 (.t 4) (.t 17), none⟩])
    (.seq (.seq (.reg [⟨some 18, .fadr 0 (.t 4), none⟩,
      ⟨some 19, .loadA 2 (.t 18), none⟩,
      ⟨some 20, .fadr 2 (.t 4), none⟩,
      ⟨some 21, .loadA 2 (.t 20), none⟩,
      ⟨some 22, .call 24 [(.t 19), (.t 21)], none⟩,
      ⟨some 23, .not (.t 22), none⟩,
      ⟨some 24, .mov (.t 23), none⟩,
      ⟨some 25, .fadr 4 (.t 4), some (24, false)⟩,
      ⟨some 26, .load1 (.t 25), some (24, false)⟩,
      ⟨some 27, .call 25 [(.t 26), (.v (.p (.int .i64 1048576)))], some (24, false)⟩,
      ⟨some 28, .not (.t 27), some (24, false)⟩,
      ⟨some 29, .pick (.t 24) (.v (.p (.bool true))) (.t 28), none⟩,
      ⟨some 30, .mov (.t 29), none⟩,
      ⟨some 31, .fadr 5 (.t 4), some (30, false)⟩,
      ⟨some 32, .load1 (.t 31), some (30, false)⟩,
      ⟨some 33, .call 25 [(.t 32), (.v (.p (.int .i64 1048576)))], some (30, false)⟩,
      ⟨some 34, .not (.t 33), some (30, false)⟩,
      ⟨some 35, .pick (.t 30) (.v (.p (.bool true))) (.t 34), none⟩])
    (.cond (.t 35)
     (.seq (.reg [⟨some 2, .mov (.v (.p (.bool false))), none⟩])
      (.ret))
     (.skip)))
    (.seq (.reg [⟨some 36, .fadr 0 (.t 4), none⟩,
      ⟨some 37, .fadr 0 (.t 36), none⟩,
      ⟨some 38, .load1 (.t 37), none⟩,
      ⟨some 39, .call 25 [(.t 38), (.v (.p (.int .i64 134217728)))], none⟩,
      ⟨some 40, .not (.t 39), none⟩,
      ⟨some 41, .mov (.t 40), none⟩,
      ⟨some 42, .fadr 0 (.t 4), some (41, false)⟩,
      ⟨some 43, .fadr 1 (.t 42), some (41, false)⟩,
      ⟨some 44, .load1 (.t 43), some (41, false)⟩,
      ⟨some 45, .call 25 [(.t 44), (.v (.p (.int .i64 134217728)))], some (41, false)⟩,
      ⟨some 46, .not (.t 45), some (41, false)⟩,
      ⟨some 47, .pick (.t 41) (.v (.p (.bool true))) (.t 46), none⟩,
      ⟨some 48, .mov (.t 47), none⟩,
      ⟨some 49, .fadr 2 (.t 4), some (48, false)⟩,
      ⟨some 50, .fadr 0 (.t 49), some (48, false)⟩,
      ⟨some 51, .load1 (.t 50), some (48, false)⟩,
      ⟨some 52, .call 25 [(.t 51), (.v (.p (.int .i64 134217728)))], some (48, false)⟩,
      ⟨some 53, .not (.t 52), some (48, false)⟩,
      ⟨some 54, .pick (.t 48) (.v (.p (.bool true))) (.t 53), none⟩,
      ⟨some 55, .mov (.t 54), none⟩,
      ⟨some 56, .fadr 2 (.t 4), some (55, false)⟩,
      ⟨some 57, .fadr 1 (.t 56), some (55, false)⟩,
      ⟨some 58, .load1 (.t 57), some (55, false)⟩,
      ⟨some 59, .call 25 [(.t 58), (.v (.p (.int .i64 134217728)))], some (55, false)⟩,
      ⟨some 60, .not (.t 59), some (55, false)⟩,
      ⟨some 61, .pick (.t 55) (.v (.p (.bool true))) (.t 60), none⟩])
    (.cond (.t 61)
     (.seq (.reg [⟨some 2, .mov (.v (.p (.bool false))), none⟩])
      (.ret))
     (.skip))))))
   (.reg [⟨some 12, .mov (.t 3), none⟩,
     ⟨some 13, .arith .add (.t 12) (.v (.p (.int .i64 1))), none⟩,
     ⟨some 3, .mov (.t 13), none⟩]))))))
 (.seq (.reg [⟨some 2, .mov (.v (.p (.bool true))), none⟩])
 (.ret))))⟩
theorem c34 : compFunc Try.prog [] 10 = some a34 := by kernel_rfl

def a35 : AFunc := ⟨11, [.tmp 2],
 .seq (.reg [⟨some 2, .mov (.v (.p (.bool false))), none⟩])
 (.seq (.reg [⟨some 3, .mov (.t 0), none⟩,
   ⟨some 4, .lenS (.t 3), none⟩,
   ⟨some 5, .arith .leq (.t 4) (.v (.p (.int .i64 1048576))), none⟩,
   ⟨some 6, .mov (.t 5), none⟩,
   ⟨some 7, .mov (.t 0), some (6, true)⟩,
   ⟨some 8, .call 26 [(.t 7), (.v (.fn 27 []))], some (6, true)⟩,
   ⟨some 9, .not (.t 8), some (6, true)⟩,
   ⟨some 10, .pick (.t 6) (.t 9) (.v (.p (.bool false))), none⟩,
   ⟨some 2, .mov (.t 10), none⟩])
 (.ret))⟩
theorem c35 : compFunc Try.prog [] 11 = some a35 := by kernel_rfl

def a36 : AFunc := ⟨103, [.tmp 2],
 .seq (.reg [⟨some 2, .mov (.v (.sl true [] .full)), none⟩])
 (.seq (.reg [⟨some 3, .mov (.v (.sl true [] .full)), none⟩])
 (.seq (.seq (.reg [⟨some 4, .mov (.v (.p (.int .i64 0))), none⟩])
 (.block 0 (.loop (.seq (.seq (.reg [⟨some 11, .mov (.t 4), none⟩,
     ⟨some 12, .mov (.t 0), none⟩,
     ⟨some 13, .lenS (.t 12), none⟩,
     ⟨some 14, .arith .lss (.t 11) (.t 13), none⟩])
   (.cond (.t 14)
    (.skip)
    (.exit 0)))
   (.seq (.block 1 (.seq (.reg [⟨some 18, .mov (.t 0), none⟩,
      ⟨some 19, .mov (.t 4), none⟩,
      ⟨some 20, .iadrS 6 (.t 18) (.t 19), none⟩,
      ⟨some 21, .loadA 6 (.t 20), none⟩,
      ⟨some 22, .call 29 [(.t 21)], none⟩,
      ⟨some 17, .mov (.t 22), none⟩,
      ⟨some 23, .ext 0 (.t 17), none⟩,
      ⟨some 24, .ext 1 (.t 17), none⟩,
      ⟨some 5, .alloc [(.p (.int .i64 0)), (.p (.int .i64 0))], none⟩,
      ⟨some 6, .alloc [(.p (.int .i64 0)), (.p (.int .i64 0))], none⟩,
      ⟨none, .store 2 (.t 5) (.t 23), none⟩,
      ⟨none, .store 2 (.t 6) (.t 24), none⟩])
    (.seq (.reg [⟨some 25, .fadr 0 (.t 5), none⟩,
      ⟨some 26, .load1 (.t 25), none⟩,
      ⟨some 27, .fadr 0 (.t 6), none⟩,
      ⟨some 28, .load1 (.t 27), none⟩,
      ⟨some 29, .arith .add (.t 26) (.t 28), none⟩,
      ⟨some 30, .arith .quo (.t 29) (.v (.p (.int .i64 2))), none⟩,
      ⟨some 31, .fadr 1 (.t 5), none⟩,
      ⟨some 32, .load1 (.t 31), none⟩,
      ⟨some 33, .fadr 1 (.t 6), none⟩,
      ⟨some 34, .load1 (.t 33), none⟩,
      ⟨some 35, .arith .add (.t 32) (.t 34), none⟩,
      ⟨some 36, .arith .quo (.t 35) (.v (.p (.int .i64 2))), none⟩,
      ⟨some 37, .build [(.p (.int .i64 0)), (.p (.int .i64 0))] [(0, 1, (.t 30)), (1, 1, (.t 36))], none⟩,
      ⟨some 7, .alloc [(.p (.int .i64 0)), (.p (.int .i64 0))], none⟩,
      ⟨none, .store 2 (.t 7) (.t 37), none⟩])
    (.seq (.reg [⟨some 38, .mov (.t 0), none⟩,
      ⟨some 39, .loadA 2 (.t 7), none⟩,
      ⟨some 40, .mov (.t 4), none⟩,
      ⟨some 41, .call 30 [(.t 38), (.t 39), (.t 40)], none⟩,
      ⟨some 8, .alloc [(.p (.int .i64 0)), (.p (.int .i64 0))], none⟩,
      ⟨none, .store 2 (.t 8) (.t 41), none⟩])
    (.seq (.seq (.reg [⟨some 42, .fadr 1 (.t 5), none⟩,
      ⟨some 43, .load1 (.t 42), none⟩,
      ⟨some 44, .fadr 1 (.t 6), none⟩,
      ⟨some 45, .load1 (.t 44), none⟩,
      ⟨some 46, .arith .eql (.t 43) (.t 45), none⟩])
    (.cond (.t 46)
     (.reg [⟨some 47, .mov (.t 0), none⟩,
        ⟨some 48, .loadA 2 (.t 7), none⟩,
        ⟨some 49, .mov (.t 4), none⟩,
        ⟨some 50, .call 31 [(.t 47), (.t 48), (.t 49)], none⟩,
        ⟨none, .store 2 (.t 8) (.t 50), none⟩])
     (.skip)))
    (.seq (.drawn .univ [] [⟨some 51, .iadrA 2 1 (.t 8) (.v (.p (.int .i64 0))), none⟩,
      ⟨some 52, .load1 (.t 51), none⟩,
      ⟨some 53, .mov (.t 0), none⟩,
      ⟨some 54, .mov (.t 4), none⟩,
      ⟨some 55, .iadrS 6 (.t 53) (.t 54), none⟩,
      ⟨some 56, .fadr 4 (.t 55), none⟩,
      ⟨some 57, .load1 (.t 56), none⟩,
      ⟨some 58, .arith .add (.t 52) (.t 57), none⟩,
      ⟨some 59, .iadrA 2 1 (.t 8) (.v (.p (.int .i64 1))), none⟩,
      ⟨some 60, .load1 (.t 59), none⟩,
      ⟨some 61, .mov (.t 0), none⟩,
      ⟨some 62, .mov (.t 4), none⟩,
      ⟨some 63, .iadrS 6 (.t 61) (.t 62), none⟩,
      ⟨some 64, .fadr 5 (.t 63), none⟩,
      ⟨some 65, .load1 (.t 64), none⟩,
      ⟨some 66, .arith .add (.t 60) (.t 65), none⟩,
      ⟨some 67, .build [(.p (.int .i64 0)), (.p (.int .i64 0))] [(0, 1, (.t 58)), (1, 1, (.t 66))], none⟩,
      ⟨some 9, .alloc [(.p (.int .i64 0)), (.p (.int .i64 0))], none⟩,
      ⟨none, .store 2 (.t 9) (.t 67), none⟩])
    (.seq (.drawn .univ [] [⟨some 68, .iadrA 2 1 (.t 8) (.v (.p (.int .i64 0))), none⟩,
      ⟨some 69, .load1 (.t 68), none⟩,
      ⟨some 70, .mov (.t 0), none⟩,
      ⟨some 71, .mov (.t 4), none⟩,
      ⟨some 72, .iadrS 6 (.t 70) (.t 71), none⟩,
      ⟨some 73, .fadr 4 (.t 72), none⟩,
      ⟨some 74, .load1 (.t 73), none⟩,
      ⟨some 75, .arith .sub (.t 69) (.t 74), none⟩,
      ⟨some 76, .iadrA 2 1 (.t 8) (.v (.p (.int .i64 1))), none⟩,
      ⟨some 77, .load1 (.t 76), none⟩,
      ⟨some 78, .mov (.t 0), none⟩,
      ⟨some 79, .mov (.t 4), none⟩,
      ⟨some 80, .iadrS 6 (.t 78) (.t 79), none⟩,
      ⟨some 81, .fadr 5 (.t 80), none⟩,
      ⟨some 82, .load1 (.t 81), none⟩,
      ⟨some 83, .arith .sub (.t 77) (.t 82), none⟩,
      ⟨some 84, .build [(.p (.int .i64 0)), (.p (.int .i64 0))] [(0, 1, (.t 75)), (1, 1, (.t 83))], none⟩,
      ⟨some 10, .alloc [(.p (.int .i64 0)), (.p (.int .i64 0))], none⟩,
      ⟨none, .store 2 (.t 10) (.t 84), none⟩])
    (.seq (.reg [⟨some 85, .fadr 1 (.t 6), none⟩,
      ⟨some 86, .load1 (.t 85), none⟩,
      ⟨some 87, .fadr 1 (.t 5), none⟩,
      ⟨some 88, .load1 (.t 87), none⟩,
      ⟨some 89, .arith .gtr (.t 86) (.t 88), none⟩])
    (.cond (.t 89)
     (.reg [⟨some 90, .mov (.t 3), none⟩,
        ⟨some 91, .loadA 2 (.t 9), none⟩,
        ⟨some 92, .loadA 2 (.t 8), none⟩,
        ⟨some 93, .build [(.p (.int .i64 0)), (.p (.int .i64 0)), (.p (.int .i64 0)), (.p (.int .i64 0))] [(0, 2, (.t 91)), (2, 2, (.t 92))], none⟩,
        ⟨some 94, .bslice 4 [(.p (.int .i64 0)), (.p (.int .i64 0)), (.p (.int .i64 0)), (.p (.int .i64 0))] 1 [(0, 4, (.t 93))], none⟩,
        ⟨some 95, .append 4 32 (.t 90) (.t 94), none⟩,
        ⟨some 3, .mov (.t 95), none⟩])
     (.reg [⟨some 96, .mov (.t 3), none⟩,
        ⟨some 97, .loadA 2 (.t 8), none⟩,
        ⟨some 98, .loadA 2 (.t 10), none⟩,
        ⟨some 99, .build [(.p (.int .i64 0)), (.p (.int .i64 0)), (.p (.int .i64 0)), (.p (.int .i64 0))] [(0, 2, (.t 97)), (2, 2, (.t 98))], none⟩,
        ⟨some 100, .bslice 4 [(.p (.int .i64 0)), (.p (.int .i64 0)), (.p (.int .i64 0)), (.p (.int .i64 0))] 1 [(0, 4, (.t 99))], none⟩,
        ⟨some 101, .append 4 32 (.t 96) (.t 100), none⟩,
        ⟨some 3, .mov (.t 101), none⟩]))))))))))
   (.reg [⟨some 15, .mov (.t 4), none⟩,
     ⟨some 16, .arith .add (.t 15) (.v (.p (.int .i64 1))), none⟩,
     ⟨some 4, .mov (.t 16), none⟩]))))))
 (.seq (.reg [⟨some 102, .mov (.t 3), none⟩,
   ⟨some 2, .mov (.t 102), none⟩])
 (.ret))))⟩
theorem c36 : compFunc Try.prog [] 12 = some a36 := by kernel_rfl

def a37 : AFunc := ⟨48, [.cellA 2 6, .tmp 7],
 .seq (.reg [⟨some 6, .alloc [(.p (.int .i64 0)), (.p (.int .i64 0))], none⟩,
   ⟨some 7, .mov (.v (.p (.bool false))), none⟩])
 (.seq (.reg [⟨some 11, .mov (.t 1), none⟩,
   ⟨some 12, .mov (.t 2), none⟩,
   ⟨some 13, .build [(.p (.int .i64 0)), (.p (.int .i64 0))] [(0, 1, (.t 11)), (1, 1, (.t 12))], none⟩,
   ⟨some 8, .alloc [(.p (.int .i64 0)), (.p (.int .i64 0))], none⟩,
   ⟨none, .store 2 (.t 8) (.t 13), none⟩])
 (.seq (.seq (.reg [⟨some 14, .mov (.t 0), none⟩,
   ⟨some 15, .call 11 [(.t 14)], none⟩,
   ⟨some 16, .not (.t 15), none⟩,
   ⟨some 17, .mov (.t 16), none⟩,
   ⟨some 18, .mov (.t 1), some (17, false)⟩,
   ⟨some 19, .call 32 [(.t 18), (.v (.p (.int .i64 268435456)))], some (17, false)⟩,
   ⟨some 20, .not (.t 19), some (17, false)⟩,
   ⟨some 21, .pick (.t 17) (.v (.p (.bool true))) (.t 20), none⟩,
   ⟨some 22, .mov (.t 21), none⟩,
   ⟨some 23, .mov (.t 2), some (22, false)⟩,
   ⟨some 24, .call 32 [(.t 23), (.v (.p (.int .i64 268435456)))], some (22, false)⟩,
   ⟨some 25, .not (.t 24), some (22, false)⟩,
   ⟨some 26, .pick (.t 22) (.v (.p (.bool true))) (.t 25), none⟩])
 (.cond (.t 26)
  (.seq (.reg [⟨some 27, .build [(.p (.int .i64 0)), (.p (.int .i64 0))] [], none⟩,
     ⟨none, .store 2 (.t 6) (.t 27), none⟩,
     ⟨some 7, .mov (.v (.p (.bool false))), none⟩])
   (.ret))
  (.skip)))
 (.seq (.seq (.reg [⟨some 28, .mov (.t 0), none⟩,
   ⟨some 29, .lenS (.t 28), none⟩,
   ⟨some 30, .mov (.v (.p (.int .i64 0))), none⟩])
 (.block 0 (.loop (.seq (.reg [⟨some 31, .arith .lss (.t 30) (.t 29), none⟩])
   (.seq (.cond (.t 31)
    (.skip)
    (.exit 0))
   (.seq (.block 1 (.seq (.reg [⟨some 32, .iadrS 6 (.t 28) (.t 30), none⟩,
      ⟨some 33, .loadA 6 (.t 32), none⟩,
      ⟨some 10, .alloc [(.p (.int .i64 0)), (.p (.int .i64 0)), (.p (.int .i64 0)), (.p (.int .i64 0)), (.p (.int .i64 0)), (.p (.int .i64 0))], none⟩,
      ⟨none, .store 6 (.t 10) (.t 33), none⟩])
    (.seq (.drawn .univ [] [⟨some 34, .loadA 2 (.t 8), none⟩,
      ⟨some 35, .fadr 0 (.t 10), none⟩,
      ⟨some 36, .loadA 2 (.t 35), none⟩,
      ⟨some 37, .call 34 [(.t 36)], none⟩,
      ⟨some 38, .fadr 2 (.t 10), none⟩,
      ⟨some 39, .loadA 2 (.t 38), none⟩,
      ⟨some 40, .call 34 [(.t 39)], none⟩,
      ⟨some 41, .call 33 [(.t 34), (.t 37), (.t 40)], none⟩])
    (.cond (.t 41)
     (.seq (.reg [⟨some 42, .build [(.p (.int .i64 0)), (.p (.int .i64 0))] [], none⟩,
        ⟨none, .store 2 (.t 6) (.t 42), none⟩,
        ⟨some 7, .mov (.v (.p (.bool true))), none⟩])
      (.ret))
     (.skip)))))
   (.reg [⟨some 43, .arith .add (.t 30) (.v (.p (.int .i64 1))), none⟩,
     ⟨some 30, .mov (.t 43), none⟩])))))))
 (.seq (.reg [⟨some 44, .loadA 2 (.t 8), none⟩,
   ⟨some 45, .call 23 [(.t 44)], none⟩,
   ⟨some 46, .mov (.t 0), none⟩,
   ⟨some 47, .call 21 [(.t 45), (.t 46), (.v (.p (.int .i64 (-1))))], none⟩,
   ⟨none, .store 2 (.t 6) (.t 47), none⟩,
   ⟨some 7, .mov (.v (.p (.bool false))), none⟩])
 (.ret)))))⟩
theorem c37 : compFunc Try.prog [] 13 = some a37 := by kernel_rfl

def a38 : AFunc := ⟨37, [.cellA 2 6, .tmp 7],
 .seq (.reg [⟨some 6, .alloc [(.p (.int .i64 0)), (.p (.int .i64 0))], none⟩,
   ⟨some 7, .mov (.v (.p (.bool false))), none⟩])
 (.seq (.reg [⟨some 12, .mov (.t 1), none⟩,
   ⟨some 13, .mov (.t 2), none⟩,
   ⟨some 14, .build [(.p (.int .i64 0)), (.p (.int .i64 0))] [(0, 1, (.t 12)), (1, 1, (.t 13))], none⟩,
   ⟨some 8, .alloc [(.p (.int .i64 0)), (.p (.int .i64 0))], none⟩,
   ⟨none, .store 2 (.t 8) (.t 14), none⟩])
 (.seq (.seq (.reg [⟨some 9, .mov (.v (.p (.int .i64 0))), none⟩])
 (.block 0 (.loop (.seq (.seq (.reg [⟨some 15, .mov (.t 9), none⟩,
     ⟨some 16, .mov (.t 0), none⟩,
     ⟨some 17, .lenS (.t 16), none⟩,
     ⟨some 18, .arith .lss (.t 15) (.t 17), none⟩])
   (.cond (.t 18)
    (.skip)
    (.exit 0)))
   (.seq (.block 1 (.seq (.reg [⟨some 22, .mov (.t 0), none⟩,
      ⟨some 23, .mov (.t 9), none⟩,
      ⟨some 24, .iadrS 6 (.t 22) (.t 23), none⟩,
      ⟨some 25, .loadA 6 (.t 24), none⟩,
      ⟨some 26, .call 29 [(.t 25)], none⟩,
      ⟨some 21, .mov (.t 26), none⟩,
      ⟨some 27, .ext 0 (.t 21), none⟩,
      ⟨some 28, .ext 1 (.t 21), none⟩,
      ⟨some 10, .alloc [(.p (.int .i64 0)), (.p (.int .i64 0))], none⟩,
      ⟨some 11, .alloc [(.p (.int .i64 0)), (.p (.int .i64 0))], none⟩,
      ⟨none, .store 2 (.t 10) (.t 27), none⟩,
      ⟨none, .store 2 (.t 11) (.t 28), none⟩])
    (.seq (.reg [⟨some 29, .loadA 2 (.t 8), none⟩,
      ⟨some 30, .loadA 2 (.t 10), none⟩,
      ⟨some 31, .loadA 2 (.t 11), none⟩,
      ⟨some 32, .call 35 [(.t 29), (.t 30), (.t 31)], none⟩])
    (.cond (.t 32)
     (.seq (.reg [⟨some 33, .build [(.p (.int .i64 0)), (.p (.int .i64 0))] [], none⟩,
        ⟨none, .store 2 (.t 6) (.t 33), none⟩,
        ⟨some 7, .mov (.v (.p (.bool true))), none⟩])
      (.ret))
     (.skip)))))
   (.reg [⟨some 19, .mov (.t 9), none⟩,
     ⟨some 20, .arith .add (.t 19) (.v (.p (.int .i64 1))), none⟩,
     ⟨some 9, .mov (.t 20), none⟩]))))))
 (.seq (.reg [⟨some 34, .mov (.t 0), none⟩,
   ⟨some 35, .loadA 2 (.t 8), none⟩,
   ⟨some 36, .call 30 [(.t 34), (.t 35), (.v (.p (.int .i64 (-1))))], none⟩,
   ⟨none, .store 2 (.t 6) (.t 36), none⟩,
   ⟨some 7, .mov (.v (.p (.bool false))), none⟩])
 (.ret))))⟩
theorem c38 : compFunc Try.prog [] 14 = some a38 := by kernel_rfl

def a39 : AFunc := ⟨15, [.tmp 2],
 .seq (.reg [⟨some 1, .box (.t 0), none⟩,
   ⟨some 2, .mov (.v (.p (.int .i64 0))), none⟩])
 (.seq (.reg [⟨some 4, .loadA 6 (.t 1), none⟩,
   ⟨some 5, .call 36 [(.t 4)], none⟩,
   ⟨some 3, .mov (.t 5), none⟩])
 (.seq (.seq (.reg [⟨some 6, .mov (.t 3), none⟩,
   ⟨some 7, .arith .leq (.t 6) (.v (.p (.int .i64 14))), none⟩,
   ⟨some 8, .mov (.t 7), none⟩,
   ⟨some 9, .loadA 6 (.t 1), some (8, true)⟩,
   ⟨some 10, .call 17 [(.t 9)], some (8, true)⟩,
   ⟨some 11, .lenS (.t 10), some (8, true)⟩,
   ⟨some 12, .arith .leq (.t 11) (.v (.p (.int .i64 8))), some (8, true)⟩,
   ⟨some 13, .pick (.t 8) (.t 12) (.v (.p (.bool false))), none⟩])
 (.cond (.t 13)
  (.seq (.reg [⟨some 2, .mov (.v (.p (.int .i64 0))), none⟩])
   (.ret))
  (.skip)))
 (.seq (.reg [⟨some 14, .mov (.t 3), none⟩,
   ⟨some 2, .mov (.t 14), none⟩])
 (.ret))))⟩
theorem c39 : compFunc Try.prog [] 15 = some a39 := by kernel_rfl

def a40 : AFunc := ⟨59, [.tmp 2],
 .seq (.reg [⟨some 1, .box (.t 0), none⟩,
   ⟨some 2, .mov (.v (.p (.int .i64 0))), none⟩])
 (.seq (.seq (.reg [⟨some 5, .fadr 2 (.t 1), none⟩,
   ⟨some 6, .load1 (.t 5), none⟩,
   ⟨some 7, .arith .lss (.t 6) (.v (.p (.int .i64 0))), none⟩,
   ⟨some 8, .mov (.t 7), none⟩,
   ⟨some 9, .fadr 2 (.t 1), some (8, false)⟩,
   ⟨some 10, .load1 (.t 9), some (8, false)⟩,
   ⟨some 11, .arith .gtr (.t 10) (.v (.p (.int .i64 3))), some (8, false)⟩,
   ⟨some 12, .pick (.t 8) (.v (.p (.bool true))) (.t 11), none⟩])
 (.cond (.t 12)
  (.seq (.reg [⟨some 2, .mov (.v (.p (.int .i64 110))), none⟩])
   (.ret))
  (.skip)))
 (.seq (.seq (.reg [⟨some 13, .fadr 3 (.t 1), none⟩,
   ⟨some 14, .load1 (.t 13), none⟩,
   ⟨some 15, .arith .lss (.t 14) (.v (.p (.int .i64 0))), none⟩,
   ⟨some 16, .mov (.t 15), none⟩,
   ⟨some 17, .fadr 3 (.t 1), some (16, false)⟩,
   ⟨some 18, .load1 (.t 17), some (16, false)⟩,
   ⟨some 19, .arith .gtr (.t 18) (.v (.p (.int .i64 1))), some (16, false)⟩,
   ⟨some 20, .pick (.t 16) (.v (.p (.bool true))) (.t 19), none⟩])
 (.cond (.t 20)
  (.seq (.reg [⟨some 2, .mov (.v (.p (.int .i64 111))), none⟩])
   (.ret))
  (.skip)))
 (.seq (.seq (.reg [⟨some 21, .fadr 4 (.t 1), none⟩,
   ⟨some 22, .load1 (.t 21), none⟩,
   ⟨some 23, .arith .lss (.t 22) (.v (.p (.int .i64 0))), none⟩,
   ⟨some 24, .mov (.t 23), none⟩,
   ⟨some 25, .fadr 4 (.t 1), some (24, false)⟩,
   ⟨some 26, .load1 (.t 25), some (24, false)⟩,
   ⟨some 27, .arith .gtr (.t 26) (.v (.p (.int .i64 28))), some (24, false)⟩,
   ⟨some 28, .pick (.t 24) (.v (.p (.bool true))) (.t 27), none⟩])
 (.cond (.t 28)
  (.seq (.reg [⟨some 2, .mov (.v (.p (.int .i64 112))), none⟩])
   (.ret))
  (.skip)))
 (.seq (.seq (.reg [⟨some 29, .fadr 5 (.t 1), none⟩,
   ⟨some 30, .load1 (.t 29), none⟩,
   ⟨some 31, .arith .lss (.t 30) (.v (.p (.int .i64 1))), none⟩,
   ⟨some 32, .mov (.t 31), none⟩,
   ⟨some 33, .fadr 5 (.t 1), some (32, false)⟩,
   ⟨some 34, .load1 (.t 33), some (32, false)⟩,
   ⟨some 35, .arith .gtr (.t 34) (.v (.p (.int .i64 1024))), some (32, false)⟩,
   ⟨some 36, .pick (.t 32) (.v (.p (.bool true))) (.t 35), none⟩])
 (.cond (.t 36)
  (.seq (.reg [⟨some 2, .mov (.v (.p (.int .i64 113))), none⟩])
   (.ret))
  (.skip)))
 (.seq (.drawn .univ [] [⟨some 37, .fadr 0 (.t 1), none⟩,
   ⟨some 38, .load1 (.t 37), none⟩,
   ⟨some 39, .call 37 [(.t 38)], none⟩,
   ⟨some 40, .fadr 1 (.t 1), none⟩,
   ⟨some 41, .load1 (.t 40), none⟩,
   ⟨some 42, .call 37 [(.t 41)], none⟩,
   ⟨some 43, .arith .add (.t 39) (.t 42), none⟩,
   ⟨some 3, .mov (.t 43), none⟩])
 (.seq (.seq (.reg [⟨some 44, .mov (.t 3), none⟩,
   ⟨some 45, .arith .lss (.t 44) (.v (.p (.int .i64 1))), none⟩,
   ⟨some 46, .mov (.t 45), none⟩,
   ⟨some 47, .mov (.t 3), some (46, false)⟩,
   ⟨some 48, .arith .gtr (.t 47) (.v (.p (.int .i64 256))), some (46, false)⟩,
   ⟨some 49, .pick (.t 46) (.v (.p (.bool true))) (.t 48), none⟩])
 (.cond (.t 49)
  (.seq (.reg [⟨some 2, .mov (.v (.p (.int .i64 116))), none⟩])
   (.ret))
  (.skip)))
 (.seq (.reg [⟨some 50, .fadr 0 (.t 1), none⟩,
   ⟨some 51, .load1 (.t 50), none⟩,
   ⟨some 52, .call 38 [(.t 51)], none⟩,
   ⟨some 4, .mov (.t 52), none⟩])
 (.seq (.seq (.reg [⟨some 53, .mov (.t 4), none⟩,
   ⟨some 54, .arith .neq (.t 53) (.v (.p (.int .i64 0))), none⟩])
 (.cond (.t 54)
  (.seq (.reg [⟨some 55, .mov (.t 4), none⟩,
     ⟨some 2, .mov (.t 55), none⟩])
   (.ret))
  (.skip)))
 (.seq (.reg [⟨some 56, .fadr 1 (.t 1), none⟩,
   ⟨some 57, .load1 (.t 56), none⟩,
   ⟨some 58, .call 38 [(.t 57)], none⟩,
   ⟨some 2, .mov (.t 58), none⟩])
 (.ret))))))))))⟩
theorem c40 : compFunc Try.prog [] 16 = some a40 := by kernel_rfl

def a41 : AFunc := ⟨10, [.tmp 2],
 .seq (.reg [⟨some 1, .box (.t 0), none⟩,
   ⟨some 2, .mov (.v (.sl true [] .full)), none⟩])
 (.seq (.drawn .univ [] [⟨some 3, .fadr 0 (.t 1), none⟩,
   ⟨some 4, .load1 (.t 3), none⟩,
   ⟨some 5, .mp (.callF 39 5 [(.t 4), (.v (.p (.int .i64 0)))]), none⟩,
   ⟨some 6, .fadr 1 (.t 1), none⟩,
   ⟨some 7, .load1 (.t 6), none⟩,
   ⟨some 8, .mp (.callF 39 5 [(.t 7), (.v (.p (.int .i64 1)))]), none⟩,
   ⟨some 9, .append 5 40 (.t 5) (.t 8), none⟩,
   ⟨some 2, .mov (.t 9), none⟩])
 (.ret))⟩
theorem c41 : compFunc Try.prog [] 17 = some a41 := by kernel_rfl

def a42 : AFunc := ⟨17, [.tmp 4],
 .seq (.reg [⟨some 2, .box (.t 0), none⟩,
   ⟨some 3, .box (.t 1), none⟩,
   ⟨some 4, .mov (.v (.p (.int .i64 0))), none⟩])
 (.seq (.drawn .univ [] [⟨some 5, .fadr 0 (.t 2), none⟩,
   ⟨some 6, .load1 (.t 5), none⟩,
   ⟨some 7, .fadr 0 (.t 3), none⟩,
   ⟨some 8, .load1 (.t 7), none⟩,
   ⟨some 9, .call 41 [(.t 6), (.t 8)], none⟩,
   ⟨some 10, .fadr 1 (.t 2), none⟩,
   ⟨some 11, .load1 (.t 10), none⟩,
   ⟨some 12, .fadr 1 (.t 3), none⟩,
   ⟨some 13, .load1 (.t 12), none⟩,
   ⟨some 14, .call 41 [(.t 11), (.t 13)], none⟩,
   ⟨some 15, .bslice 1 [(.p (.int .i64 0))] 2 [(0, 1, (.t 9)), (1, 1, (.t 14))], none⟩,
   ⟨some 16, .call 40 [(.t 15)], none⟩,
   ⟨some 4, .mov (.t 16), none⟩])
 (.ret))⟩
theorem c42 : compFunc Try.prog [] 18 = some a42 := by kernel_rfl

def a43 : AFunc := ⟨80, [.tmp 6, .tmp 7],
 .seq (.reg [⟨some 6, .mov (.v (.p (.int .i64 0))), none⟩,
   ⟨some 7, .mov (.v (.p (.bool false))), none⟩])
 (.seq (.reg [⟨some 14, .mov (.t 1), none⟩,
   ⟨some 15, .mov (.t 2), none⟩,
   ⟨some 16, .build [(.p (.int .i64 0)), (.p (.int .i64 0))] [(0, 1, (.t 14)), (1, 1, (.t 15))], none⟩,
   ⟨some 8, .alloc [(.p (.int .i64 0)), (.p (.int .i64 0))], none⟩,
   ⟨none, .store 2 (.t 8) (.t 16), none⟩])
 (.seq (.reg [⟨some 9, .mov (.v (.p (.int .i64 0))), none⟩])
 (.seq (.reg [⟨some 17, .mov (.t 0), none⟩,
   ⟨some 18, .mp (.callF 39 5 [(.t 17), (.v (.p (.int .i64 0)))]), none⟩,
   ⟨some 10, .mov (.t 18), none⟩])
 (.seq (.seq (.reg [⟨some 11, .mov (.v (.p (.int .i64 0))), none⟩])
 (.block 0 (.loop (.seq (.seq (.reg [⟨some 19, .mov (.t 11), none⟩,
     ⟨some 20, .mov (.t 10), none⟩,
     ⟨some 21, .lenS (.t 20), none⟩,
     ⟨some 22, .arith .lss (.t 19) (.t 21), none⟩])
   (.cond (.t 22)
    (.skip)
    (.exit 0)))
   (.seq (.block 1 (.seq (.reg [⟨some 25, .mov (.t 10), none⟩,
      ⟨some 26, .mov (.t 11), none⟩,
      ⟨some 27, .iadrS 5 (.t 25) (.t 26), none⟩,
      ⟨some 28, .fadr 0 (.t 27), none⟩,
      ⟨some 29, .loadA 2 (.t 28), none⟩,
      ⟨some 30, .call 42 [(.t 29)], none⟩,
      ⟨some 12, .alloc [(.p (.int .i64 0)), (.p (.int .i64 0))], none⟩,
      ⟨none, .store 2 (.t 12) (.t 30), none⟩])
    (.seq (.reg [⟨some 31, .mov (.t 10), none⟩,
      ⟨some 32, .mov (.t 11), none⟩,
      ⟨some 33, .iadrS 5 (.t 31) (.t 32), none⟩,
      ⟨some 34, .fadr 2 (.t 33), none⟩,
      ⟨some 35, .loadA 2 (.t 34), none⟩,
      ⟨some 36, .call 42 [(.t 35)], none⟩,
      ⟨some 13, .alloc [(.p (.int .i64 0)), (.p (.int .i64 0))], none⟩,
      ⟨none, .store 2 (.t 13) (.t 36), none⟩])
    (.seq (.seq (.reg [⟨some 37, .loadA 2 (.t 8), none⟩,
      ⟨some 38, .loadA 2 (.t 12), none⟩,
      ⟨some 39, .loadA 2 (.t 13), none⟩,
      ⟨some 40, .call 35 [(.t 37), (.t 38), (.t 39)], none⟩])
    (.cond (.t 40)
     (.seq (.reg [⟨some 6, .mov (.v (.p (.int .i64 0))), none⟩,
        ⟨some 7, .mov (.v (.p (.bool true))), none⟩])
      (.ret))
     (.skip)))
    (.seq (.seq (.reg [⟨some 41, .fadr 0 (.t 12), none⟩,
      ⟨some 42, .load1 (.t 41), none⟩,
      ⟨some 43, .mov (.t 1), none⟩,
      ⟨some 44, .arith .gtr (.t 42) (.t 43), none⟩,
      ⟨some 45, .mov (.t 44), none⟩,
      ⟨some 46, .fadr 0 (.t 13), some (45, true)⟩,
      ⟨some 47, .load1 (.t 46), some (45, true)⟩,
      ⟨some 48, .mov (.t 1), some (45, true)⟩,
      ⟨some 49, .arith .leq (.t 47) (.t 48), some (45, true)⟩,
      ⟨some 50, .pick (.t 45) (.t 49) (.v (.p (.bool false))), none⟩,
      ⟨some 51, .mov (.t 50), none⟩,
      ⟨some 52, .loadA 2 (.t 12), some (51, true)⟩,
      ⟨some 53, .loadA 2 (.t 13), some (51, true)⟩,
      ⟨some 54, .loadA 2 (.t 8), some (51, true)⟩,
      ⟨some 55, .call 43 [(.t 52), (.t 53), (.t 54)], some (51, true)⟩,
      ⟨some 56, .arith .gtr (.t 55) (.v (.p (.int .i64 0))), some (51, true)⟩,
      ⟨some 57, .pick (.t 51) (.t 56) (.v (.p (.bool false))), none⟩])
    (.cond (.t 57)
     (.reg [⟨some 58, .mov (.t 9), none⟩,
        ⟨some 59, .arith .add (.t 58) (.v (.p (.int .i64 1))), none⟩,
        ⟨some 9, .mov (.t 59), none⟩])
     (.skip)))
    (.seq (.reg [⟨some 60, .fadr 0 (.t 13), none⟩,
      ⟨some 61, .load1 (.t 60), none⟩,
      ⟨some 62, .mov (.t 1), none⟩,
      ⟨some 63, .arith .gtr (.t 61) (.t 62), none⟩,
      ⟨some 64, .mov (.t 63), none⟩,
      ⟨some 65, .fadr 0 (.t 12), some (64, true)⟩,
      ⟨some 66, .load1 (.t 65), some (64, true)⟩,
      ⟨some 67, .mov (.t 1), some (64, true)⟩,
      ⟨some 68, .arith .leq (.t 66) (.t 67), some (64, true)⟩,
      ⟨some 69, .pick (.t 64) (.t 68) (.v (.p (.bool false))), none⟩,
      ⟨some 70, .mov (.t 69), none⟩,
      ⟨some 71, .loadA 2 (.t 12), some (70, true)⟩,
      ⟨some 72, .loadA 2 (.t 13), some (70, true)⟩,
      ⟨some 73, .loadA 2 (.t 8), some (70, true)⟩,
      ⟨some 74, .call 43 [(.t 71), (.t 72), (.t 73)], some (70, true)⟩,
      ⟨some 75, .arith .lss (.t 74) (.v (.p (.int .i64 0))), some (70, true)⟩,
      ⟨some 76, .pick (.t 70) (.t 75) (.v (.p (.bool false))), none⟩])
    (.cond (.t 76)
     (.reg [⟨some 77, .mov (.t 9), none⟩,
        ⟨some 78, .arith .sub (.t 77) (.v (.p (.int .i64 1))), none⟩,
        ⟨some 9, .mov (.t 78), none⟩])
     (.skip))))))))
   (.reg [⟨some 23, .mov (.t 11), none⟩,
     ⟨some 24, .arith .add (.t 23) (.v (.p (.int .i64 1))), none⟩,
     ⟨some 11, .mov (.t 24), none⟩]))))))
 (.seq (.reg [⟨some 79, .mov (.t 9), none⟩,
   ⟨some 6, .mov (.t 79), none⟩,
   ⟨some 7, .mov (.v (.p (.bool false))), none⟩])
 (.ret))))))⟩
theorem c43 : compFunc Try.prog [] 19 = some a43 := by kernel_rfl

def a92 : AFunc := ⟨6, [.cellA 3 2],
 .seq (.reg [⟨some 1, .box (.t 0), none⟩,
   ⟨some 2, .alloc [(.p (.int .i64 0)), (.p (.int .i64 0)), .nilfn], none⟩])
 (.seq (.reg [⟨some 3, .loadA 2 (.t 1), none⟩,
   ⟨some 4, .mkfn 44 [(.t 1)], none⟩,
   ⟨some 5, .build [(.p (.int .i64 0)), (.p (.int .i64 0)), .nilfn] [(0, 2, (.t 3)), (2, 1, (.t 4))], none⟩,
   ⟨none, .store 3 (.t 2) (.t 5), none⟩])
 (.ret))⟩
theorem c92 : compFunc Try.prog [] 20 = some a92 := by kernel_rfl

def a93 : AFunc := ⟨48, [.cellA 2 6],
 .seq (.reg [⟨some 3, .box (.t 0), none⟩,
   ⟨some 6, .alloc [(.p (.int .i64 0)), (.p (.int .i64 0))], none⟩])
 (.seq (.reg [⟨some 7, .alloc [(.p (.int .i64 0)), (.p (.int .i64 0))], none⟩])
 (.seq (.seq (.reg [⟨some 11, .mov (.t 1), none⟩,
   ⟨some 12, .lenS (.t 11), none⟩,
   ⟨some 13, .mov (.v (.p (.int .i64 0))), none⟩])
 (.block 0 (.loop (.seq (.reg [⟨some 14, .arith .lss (.t 13) (.t 12), none⟩])
   (.seq (.cond (.t 14)
    (.skip)
    (.exit 0))
   (.seq (.block 1 (.seq (.reg [⟨some 15, .mov (.t 13), none⟩,
      ⟨some 16, .iadrS 6 (.t 11) (.t 13), none⟩,
      ⟨some 17, .loadA 6 (.t 16), none⟩,
      ⟨some 9, .alloc [(.p (.int .i64 0)), (.p (.int .i64 0)), (.p (.int .i64 0)), (.p (.int .i64 0)), (.p (.int .i64 0)), (.p (.int .i64 0))], none⟩,
      ⟨some 8, .mov (.t 15), none⟩,
      ⟨none, .store 6 (.t 9) (.t 17), none⟩])
    (.seq (.reg [⟨some 18, .mov (.t 8), none⟩,
      ⟨some 19, .mov (.t 2), none⟩,
      ⟨some 20, .arith .neq (.t 18) (.t 19), none⟩])
    (.cond (.t 20)
     (.seq (.drawn .univ [] [⟨some 21, .fadr 2 (.t 3), none⟩,
        ⟨some 22, .load1 (.t 21), none⟩,
        ⟨some 23, .fadr 0 (.t 9), none⟩,
        ⟨some 24, .loadA 2 (.t 23), none⟩,
        ⟨some 25, .call 34 [(.t 24)], none⟩,
        ⟨some 26, .fadr 2 (.t 9), none⟩,
        ⟨some 27, .loadA 2 (.t 26), none⟩,
        ⟨some 28, .call 34 [(.t 27)], none⟩,
        ⟨some 29, .callv (.t 22) [(.t 25), (.t 28)], none⟩,
        ⟨some 10, .mov (.t 29), none⟩])
      (.drawn .univ [(40, 44)] [⟨some 30, .iadrA 2 1 (.t 7) (.v (.p (.int .i64 0))), none⟩,
        ⟨some 31, .load1 (.t 30), none⟩,
        ⟨some 32, .mov (.t 10), none⟩,
        ⟨some 33, .fadr 4 (.t 9), none⟩,
        ⟨some 34, .load1 (.t 33), none⟩,
        ⟨some 35, .arith .mul (.t 32) (.t 34), none⟩,
        ⟨some 36, .arith .add (.t 31) (.t 35), none⟩,
        ⟨some 37, .iadrA 2 1 (.t 7) (.v (.p (.int .i64 1))), none⟩,
        ⟨some 38, .load1 (.t 37), none⟩,
        ⟨some 39, .mov (.t 10), none⟩,
        ⟨some 40, .fadr 5 (.t 9), none⟩,
        ⟨some 41, .load1 (.t 40), none⟩,
        ⟨some 42, .arith .mul (.t 39) (.t 41), none⟩,
        ⟨some 43, .arith .add (.t 38) (.t 42), none⟩,
        ⟨some 44, .iadrA 2 1 (.t 7) (.v (.p (.int .i64 0))), none⟩,
        ⟨none, .store 1 (.t 44) (.t 36), none⟩,
        ⟨some 45, .iadrA 2 1 (.t 7) (.v (.p (.int .i64 1))), none⟩,
        ⟨none, .store 1 (.t 45) (.t 43), none⟩]))
     (.skip)))))
   (.reg [⟨some 46, .arith .add (.t 13) (.v (.p (.int .i64 1))), none⟩,
     ⟨some 13, .mov (.t 46), none⟩])))))))
 (.seq (.reg [⟨some 47, .loadA 2 (.t 7), none⟩,
   ⟨none, .store 2 (.t 6) (.t 47), none⟩])
 (.ret))))⟩
theorem c93 : compFunc Try.prog [] 21 = some a93 := by kernel_rfl

def a94 : AFunc := ⟨22, [.cellA 2 6],
 .seq (.reg [⟨some 3, .box (.t 0), none⟩,
   ⟨some 4, .box (.t 1), none⟩,
   ⟨some 6, .alloc [(.p (.int .i64 0)), (.p (.int .i64 0))], none⟩])
 (.seq (.reg [⟨some 7, .iadrA 2 1 (.t 3) (.v (.p (.int .i64 0))), none⟩,
   ⟨some 8, .load1 (.t 7), none⟩,
   ⟨some 9, .mov (.t 2), none⟩,
   ⟨some 10, .iadrA 2 1 (.t 4) (.v (.p (.int .i64 0))), none⟩,
   ⟨some 11, .load1 (.t 10), none⟩,
   ⟨some 12, .arith .mul (.t 9) (.t 11), none⟩,
   ⟨some 13, .arith .add (.t 8) (.t 12), none⟩,
   ⟨some 14, .iadrA 2 1 (.t 3) (.v (.p (.int .i64 1))), none⟩,
   ⟨some 15, .load1 (.t 14), none⟩,
   ⟨some 16, .mov (.t 2), none⟩,
   ⟨some 17, .iadrA 2 1 (.t 4) (.v (.p (.int .i64 1))), none⟩,
   ⟨some 18, .load1 (.t 17), none⟩,
   ⟨some 19, .arith .mul (.t 16) (.t 18), none⟩,
   ⟨some 20, .arith .add (.t 15) (.t 19), none⟩,
   ⟨some 21, .build [(.p (.int .i64 0)), (.p (.int .i64 0))] [(0, 1, (.t 13)), (1, 1, (.t 20))], none⟩,
   ⟨none, .store 2 (.t 6) (.t 21), none⟩])
 (.ret))⟩
theorem c94 : compFunc Try.prog [] 22 = some a94 := by kernel_rfl

def a95 : AFunc := ⟨6, [.cellA 3 2],
 .seq (.reg [⟨some 1, .box (.t 0), none⟩,
   ⟨some 2, .alloc [(.p (.int .i64 0)), (.p (.int .i64 0)), .nilfn], none⟩])
 (.seq (.reg [⟨some 3, .loadA 2 (.t 1), none⟩,
   ⟨some 4, .mkfn 46 [(.t 1)], none⟩,
   ⟨some 5, .build [(.p (.int .i64 0)), (.p (.int .i64 0)), .nilfn] [(0, 2, (.t 3)), (2, 1, (.t 4))], none⟩,
   ⟨none, .store 3 (.t 2) (.t 5), none⟩])
 (.ret))⟩
theorem c95 : compFunc Try.prog [] 23 = some a95 := by kernel_rfl

def a91 : AFunc := ⟨24, [.tmp 4],
 .seq (.reg [⟨some 2, .box (.t 0), none⟩,
   ⟨some 3, .box (.t 1), none⟩,
   ⟨some 4, .mov (.v (.p (.bool false))), none⟩])
 (.seq (.reg [⟨some 5, .fadr 0 (.t 2), none⟩,
   ⟨some 6, .load1 (.t 5), none⟩,
   ⟨some 7, .fadr 0 (.t 3), none⟩,
   ⟨some 8, .load1 (.t 7), none⟩,
   ⟨some 9, .arith .lss (.t 6) (.t 8), none⟩,
   ⟨some 10, .mov (.t 9), none⟩,
   ⟨some 11, .fadr 0 (.t 2), some (10, false)⟩,
   ⟨some 12, .load1 (.t 11), some (10, false)⟩,
   ⟨some 13, .fadr 0 (.t 3), some (10, false)⟩,
   ⟨some 14, .load1 (.t 13), some (10, false)⟩,
   ⟨some 15, .arith .eql (.t 12) (.t 14), some (10, false)⟩,
   ⟨some 16, .mov (.t 15), some (10, false)⟩,
   ⟨some 17, .fadr 1 (.t 2), some (16, true)⟩,
   ⟨some 18, .load1 (.t 17), some (16, true)⟩,
   ⟨some 19, .fadr 1 (.t 3), some (16, true)⟩,
   ⟨some 20, .load1 (.t 19), some (16, true)⟩,
   ⟨some 21, .arith .lss (.t 18) (.t 20), some (16, true)⟩,
   ⟨some 22, .pick (.t 16) (.t 21) (.v (.p (.bool false))), some (10, false)⟩,
   ⟨some 23, .pick (.t 10) (.v (.p (.bool true))) (.t 22), none⟩,
   ⟨some 4, .mov (.t 23), none⟩])
 (.ret))⟩
theorem c91 : compFunc Try.prog [] 24 = some a91 := by kernel_rfl

def a96 : AFunc := ⟨14, [.tmp 4],
 .seq (.reg [⟨some 4, .mov (.v (.p (.bool false))), none⟩])
 (.seq (.reg [⟨some 5, .mov (.t 0), none⟩,
   ⟨some 6, .mov (.t 1), none⟩,
   ⟨some 7, .arith .leq (.t 5) (.t 6), none⟩,
   ⟨some 8, .mov (.t 7), none⟩,
   ⟨some 9, .mov (.t 0), some (8, true)⟩,
   ⟨some 10, .mov (.t 1), some (8, true)⟩,
   ⟨some 11, .arith .sub (.v (.p (.int .i64 0))) (.t 10), some (8, true)⟩,
   ⟨some 12, .arith .geq (.t 9) (.t 11), some (8, true)⟩,
   ⟨some 13, .pick (.t 8) (.t 12) (.v (.p (.bool false))), none⟩,
   ⟨some 4, .mov (.t 13), none⟩])
 (.ret))⟩
theorem c96 : compFunc Try.prog [] 25 = some a96 := by kernel_rfl

def a97 : AFunc := ⟨9, [.tmp 4],
 .seq (.reg [⟨some 4, .mov (.v (.p (.bool false))), none⟩])
 (.seq (.reg [⟨some 5, .mov (.t 0), none⟩,
   ⟨some 6, .mov (.t 1), none⟩,
   ⟨some 7, .call 47 [(.t 5), (.t 6)], none⟩,
   ⟨some 8, .arith .geq (.t 7) (.v (.p (.int .i64 0))), none⟩,
   ⟨some 4, .mov (.t 8), none⟩])
 (.ret))⟩
theorem c97 : compFunc Try.prog [] 26 = some a97 := by kernel_rfl

def a98 : AFunc := ⟨6, [.tmp 2],
 .seq (.reg [⟨some 1, .box (.t 0), none⟩,
   ⟨some 2, .mov (.v (.p (.bool false))), none⟩])
 (.seq (.reg [⟨some 3, .loadA 6 (.t 1), none⟩,
   ⟨some 4, .call 28 [(.t 3)], none⟩,
   ⟨some 5, .not (.t 4), none⟩,
   ⟨some 2, .mov (.t 5), none⟩])
 (.ret))⟩
theorem c98 : compFunc Try.prog [] 27 = some a98 := by kernel_rfl

def a99 : AFunc := ⟨45, [.tmp 2],
 .seq (.reg [⟨some 1, .box (.t 0), none⟩,
   ⟨some 2, .mov (.v (.p (.bool false))), none⟩])
 (.seq (.reg [⟨some 4, .fadr 0 (.t 1), none⟩,
   ⟨some 5, .fadr 0 (.t 4), none⟩,
   ⟨some 6, .load1 (.t 5), none⟩,
   ⟨some 7, .call 32 [(.t 6), (.v (.p (.int .i64 134217728)))], none⟩,
   ⟨some 8, .mov (.t 7), none⟩,
   ⟨some 9, .fadr 0 (.t 1), some (8, true)⟩,
   ⟨some 10, .fadr 1 (.t 9), some (8, true)⟩,
   ⟨some 11, .load1 (.t 10), some (8, true)⟩,
   ⟨some 12, .call 32 [(.t 11), (.v (.p (.int .i64 134217728)))], some (8, true)⟩,
   ⟨some 13, .pick (.t 8) (.t 12) (.v (.p (.bool false))), none⟩,
   ⟨some 14, .mov (.t 13), none⟩,
   ⟨some 15, .fadr 2 (.t 1), some (14, true)⟩,
   ⟨some 16, .fadr 0 (.t 15), some (14, true)⟩,
   ⟨some 17, .load1 (.t 16), some (14, true)⟩,
   ⟨some 18, .call 32 [(.t 17), (.v (.p (.int .i64 134217728)))], some (14, true)⟩,
   ⟨some 19, .pick (.t 14) (.t 18) (.v (.p (.bool false))), none⟩,
   ⟨some 20, .mov (.t 19), none⟩,
   ⟨some 21, .fadr 2 (.t 1), some (20, true)⟩,
   ⟨some 22, .fadr 1 (.t 21), some (20, true)⟩,
   ⟨some 23, .load1 (.t 22), some (20, true)⟩,
   ⟨some 24, .call 32 [(.t 23), (.v (.p (.int .i64 134217728)))], some (20, true)⟩,
   ⟨some 25, .pick (.t 20) (.t 24) (.v (.p (.bool false))), none⟩,
   ⟨some 3, .mov (.t 25), none⟩])
 (.seq (.reg [⟨some 26, .mov (.t 3), none⟩,
   ⟨some 27, .mov (.t 26), none⟩,
   ⟨some 28, .fadr 4 (.t 1), some (27, true)⟩,
   ⟨some 29, .load1 (.t 28), some (27, true)⟩,
   ⟨some 30, .call 32 [(.t 29), (.v (.p (.int .i64 1048576)))], some (27, true)⟩,
   ⟨some 31, .pick (.t 27) (.t 30) (.v (.p (.bool false))), none⟩,
   ⟨some 32, .mov (.t 31), none⟩,
   ⟨some 33, .fadr 5 (.t 1), some (32, true)⟩,
   ⟨some 34, .load1 (.t 33), some (32, true)⟩,
   ⟨some 35, .call 32 [(.t 34), (.v (.p (.int .i64 1048576)))], some (32, true)⟩,
   ⟨some 36, .pick (.t 32) (.t 35) (.v (.p (.bool false))), none⟩,
   ⟨some 37, .mov (.t 36), none⟩,
   ⟨some 38, .fadr 0 (.t 1), some (37, true)⟩,
   ⟨some 39, .loadA 2 (.t 38), some (37, true)⟩,
   ⟨some 40, .fadr 2 (.t 1), some (37, true)⟩,
   ⟨some 41, .loadA 2 (.t 40), some (37, true)⟩,
   ⟨some 42, .call 18 [(.t 39), (.t 41)], some (37, true)⟩,
   ⟨some 43, .arith .lss (.t 42) (.v (.p (.int .i64 0))), some (37, true)⟩,
   ⟨some 44, .pick (.t 37) (.t 43) (.v (.p (.bool false))), none⟩,
   ⟨some 2, .mov (.t 44), none⟩])
 (.ret)))⟩
theorem c99 : compFunc Try.prog [] 28 = some a99 := by kernel_rfl

def a100 : AFunc := ⟨22, [.cellA 2 2, .cellA 2 3],
 .seq (.reg [⟨some 1, .box (.t 0), none⟩,
   ⟨some 2, .alloc [(.p (.int .i64 0)), (.p (.int .i64 0))], none⟩,
   ⟨some 3, .alloc [(.p (.int .i64 0)), (.p (.int .i64 0))], none⟩])
 (.seq (.drawn .univ [(14, 2), (18, 2)] [⟨some 4, .fadr 0 (.t 1), none⟩,
   ⟨some 5, .fadr 0 (.t 4), none⟩,
   ⟨some 6, .load1 (.t 5), none⟩,
   ⟨some 7, .arith .mul (.v (.p (.int .i64 2))) (.t 6), none⟩,
   ⟨some 8, .fadr 0 (.t 1), none⟩,
   ⟨some 9, .fadr 1 (.t 8), none⟩,
   ⟨some 10, .load1 (.t 9), none⟩,
   ⟨some 11, .arith .mul (.v (.p (.int .i64 2))) (.t 10), none⟩,
   ⟨some 12, .build [(.p (.int .i64 0)), (.p (.int .i64 0))] [(0, 1, (.t 7)), (1, 1, (.t 11))], none⟩,
   ⟨some 13, .fadr 2 (.t 1), none⟩,
   ⟨some 14, .fadr 0 (.t 13), none⟩,
   ⟨some 15, .load1 (.t 14), none⟩,
   ⟨some 16, .arith .mul (.v (.p (.int .i64 2))) (.t 15), none⟩,
   ⟨some 17, .fadr 2 (.t 1), none⟩,
   ⟨some 18, .fadr 1 (.t 17), none⟩,
   ⟨some 19, .load1 (.t 18), none⟩,
   ⟨some 20, .arith .mul (.v (.p (.int .i64 2))) (.t 19), none⟩,
   ⟨some 21, .build [(.p (.int .i64 0)), (.p (.int .i64 0))] [(0, 1, (.t 16)), (1, 1, (.t 20))], none⟩,
   ⟨none, .store 2 (.t 2) (.t 12), none⟩,
   ⟨none, .store 2 (.t 3) (.t 21), none⟩])
 (.ret))⟩
theorem c100 : compFunc Try.prog [] 29 = some a100 := by kernel_rfl

def a101 : AFunc := ⟨104, [.cellA 2 6],
 .seq (.reg [⟨some 4, .box (.t 1), none⟩,
   ⟨some 6, .alloc [(.p (.int .i64 0)), (.p (.int .i64 0))], none⟩])
 (.seq (.reg [⟨some 7, .alloc [(.p (.int .i64 0)), (.p (.int .i64 0))], none⟩])
 (.seq (.seq (.reg [⟨some 8, .mov (.v (.p (.int .i64 0))), none⟩])
 (.block 0 (.loop (.seq (.seq (.reg [⟨some 11, .mov (.t 8), none⟩,
     ⟨some 12, .mov (.t 0), none⟩,
     ⟨some 13, .lenS (.t 12), none⟩,
     ⟨some 14, .arith .lss (.t 11) (.t 13), none⟩])
   (.cond (.t 14)
    (.skip)
    (.exit 0)))
   (.seq (.block 1 (.seq (.reg [⟨some 18, .mov (.t 0), none⟩,
      ⟨some 19, .mov (.t 8), none⟩,
      ⟨some 20, .iadrS 6 (.t 18) (.t 19), none⟩,
      ⟨some 21, .loadA 6 (.t 20), none⟩,
      ⟨some 22, .call 29 [(.t 21)], none⟩,
      ⟨some 17, .mov (.t 22), none⟩,
      ⟨some 23, .ext 0 (.t 17), none⟩,
      ⟨some 24, .ext 1 (.t 17), none⟩,
      ⟨some 9, .alloc [(.p (.int .i64 0)), (.p (.int .i64 0))], none⟩,
      ⟨some 10, .alloc [(.p (.int .i64 0)), (.p (.int .i64 0))], none⟩,
      ⟨none, .store 2 (.t 9) (.t 23), none⟩,
      ⟨none, .store 2 (.t 10) (.t 24), none⟩])
    (.seq (.seq (.reg [⟨some 25, .mov (.t 8), none⟩,
      ⟨some 26, .mov (.t 2), none⟩,
      ⟨some 27, .arith .eql (.t 25) (.t 26), none⟩,
      ⟨some 28, .mov (.t 27), none⟩,
      ⟨some 29, .fadr 1 (.t 9), some (28, false)⟩,
      ⟨some 30, .load1 (.t 29), some (28, false)⟩,
      ⟨some 31, .fadr 1 (.t 10), some (28, false)⟩,
      ⟨some 32, .load1 (.t 31), some (28, false)⟩,
      ⟨some 33, .arith .eql (.t 30) (.t 32), some (28, false)⟩,
      ⟨some 34, .pick (.t 28) (.v (.p (.bool true))) (.t 33), none⟩,
      ⟨some 35, .mov (.t 34), none⟩,
      ⟨some 36, .fadr 1 (.t 9), some (35, false)⟩,
      ⟨some 37, .load1 (.t 36), some (35, false)⟩,
      ⟨some 38, .fadr 1 (.t 10), some (35, false)⟩,
      ⟨some 39, .load1 (.t 38), some (35, false)⟩,
      ⟨some 40, .minmax false (.t 37) [(.t 39)], some (35, false)⟩,
      ⟨some 41, .fadr 1 (.t 4), some (35, false)⟩,
      ⟨some 42, .load1 (.t 41), some (35, false)⟩,
      ⟨some 43, .arith .gtr (.t 40) (.t 42), some (35, false)⟩,
      ⟨some 44, .pick (.t 35) (.v (.p (.bool true))) (.t 43), none⟩,
      ⟨some 45, .mov (.t 44), none⟩,
      ⟨some 46, .fadr 1 (.t 9), some (45, false)⟩,
      ⟨some 47, .load1 (.t 46), some (45, false)⟩,
      ⟨some 48, .fadr 1 (.t 10), some (45, false)⟩,
      ⟨some 49, .load1 (.t 48), some (45, false)⟩,
      ⟨some 50, .minmax true (.t 47) [(.t 49)], some (45, false)⟩,
      ⟨some 51, .fadr 1 (.t 4), some (45, false)⟩,
      ⟨some 52, .load1 (.t 51), some (45, false)⟩,
      ⟨some 53, .arith .leq (.t 50) (.t 52), some (45, false)⟩,
      ⟨some 54, .pick (.t 45) (.v (.p (.bool true))) (.t 53), none⟩,
      ⟨some 55, .mov (.t 54), none⟩,
      ⟨some 56, .loadA 2 (.t 4), some (55, false)⟩,
      ⟨some 57, .loadA 2 (.t 9), some (55, false)⟩,
      ⟨some 58, .loadA 2 (.t 10), some (55, false)⟩,
      ⟨some 59, .call 48 [(.t 56), (.t 57), (.t 58)], some (55, false)⟩,
      ⟨some 60, .arith .leq (.t 59) (.v (.p (.int .i64 0))), some (55, false)⟩,
      ⟨some 61, .pick (.t 55) (.v (.p (.bool true))) (.t 60), none⟩])
    (.cond (.t 61)
     (.exit 1)
     (.skip)))
    (.seq (.reg [⟨some 62, .fadr 1 (.t 10), none⟩,
      ⟨some 63, .load1 (.t 62), none⟩,
      ⟨some 64, .fadr 1 (.t 9), none⟩,
      ⟨some 65, .load1 (.t 64), none⟩,
      ⟨some 66, .arith .gtr (.t 63) (.t 65), none⟩])
    (.cond (.t 66)
     (.seq (.drawn .univ [] [⟨some 67, .iadrA 2 1 (.t 7) (.v (.p (.int .i64 0))), none⟩,
        ⟨some 68, .load1 (.t 67), none⟩,
        ⟨some 69, .mov (.t 0), none⟩,
        ⟨some 70, .mov (.t 8), none⟩,
        ⟨some 71, .iadrS 6 (.t 69) (.t 70), none⟩,
        ⟨some 72, .fadr 4 (.t 71), none⟩,
        ⟨some 73, .load1 (.t 72), none⟩,
        ⟨some 74, .arith .add (.t 68) (.t 73), none⟩,
        ⟨some 75, .iadrA 2 1 (.t 7) (.v (.p (.int .i64 0))), none⟩,
        ⟨none, .store 1 (.t 75) (.t 74), none⟩])
      (.drawn .univ [] [⟨some 76, .iadrA 2 1 (.t 7) (.v (.p (.int .i64 1))), none⟩,
        ⟨some 77, .load1 (.t 76), none⟩,
        ⟨some 78, .mov (.t 0), none⟩,
        ⟨some 79, .mov (.t 8), none⟩,
        ⟨some 80, .iadrS 6 (.t 78) (.t 79), none⟩,
        ⟨some 81, .fadr 5 (.t 80), none⟩,
        ⟨some 82, .load1 (.t 81), none⟩,
        ⟨some 83, .arith .add (.t 77) (.t 82), none⟩,
        ⟨some 84, .iadrA 2 1 (.t 7) (.v (.p (.int .i64 1))), none⟩,
        ⟨none, .store 1 (.t 84) (.t 83), none⟩]))
     (.seq (.drawn .univ [] [⟨some 85, .iadrA 2 1 (.t 7) (.v (.p (.int .i64 0))), none⟩,
        ⟨some 86, .load1 (.t 85), none⟩,
        ⟨some 87, .mov (.t 0), none⟩,
        ⟨some 88, .mov (.t 8), none⟩,
        ⟨some 89, .iadrS 6 (.t 87) (.t 88), none⟩,
        ⟨some 90, .fadr 4 (.t 89), none⟩,
        ⟨some 91, .load1 (.t 90), none⟩,
        ⟨some 92, .arith .sub (.t 86) (.t 91), none⟩,
        ⟨some 93, .iadrA 2 1 (.t 7) (.v (.p (.int .i64 0))), none⟩,
        ⟨none, .store 1 (.t 93) (.t 92), none⟩])
      (.drawn .univ [] [⟨some 94, .iadrA 2 1 (.t 7) (.v (.p (.int .i64 1))), none⟩,
        ⟨some 95, .load1 (.t 94), none⟩,
        ⟨some 96, .mov (.t 0), none⟩,
        ⟨some 97, .mov (.t 8), none⟩,
        ⟨some 98, .iadrS 6 (.t 96) (.t 97), none⟩,
        ⟨some 99, .fadr 5 (.t 98), none⟩,
        ⟨some 100, .load1 (.t 99), none⟩,
        ⟨some 101, .arith .sub (.t 95) (.t 100), none⟩,
        ⟨some 102, .iadrA 2 1 (.t 7) (.v (.p (.int .i64 1))), none⟩,
        ⟨none, .store 1 (.t 102) (.t 101), none⟩])))))))
   (.reg [⟨some 15, .mov (.t 8), none⟩,
     ⟨some 16, .arith .add (.t 15) (.v (.p (.int .i64 1))), none⟩,
     ⟨some 8, .mov (.t 16), none⟩]))))))
 (.seq (.reg [⟨some 103, .loadA 2 (.t 7), none⟩,
   ⟨none, .store 2 (.t 6) (.t 103), none⟩])
 (.ret))))⟩
theorem c101 : compFunc Try.prog [] 30 = some a101 := by kernel_rfl

def a102 : AFunc := ⟨68, [.cellA 2 6],
 .seq (.reg [⟨some 4, .box (.t 1), none⟩,
   ⟨some 6, .alloc [(.p (.int .i64 0)), (.p (.int .i64 0))], none⟩])
 (.seq (.reg [⟨some 7, .alloc [(.p (.int .i64 0)), (.p (.int .i64 0))], none⟩])
 (.seq (.seq (.reg [⟨some 8, .mov (.v (.p (.int .i64 0))), none⟩])
 (.block 0 (.loop (.seq (.seq (.reg [⟨some 11, .mov (.t 8), none⟩,
     ⟨some 12, .mov (.t 0), none⟩,
     ⟨some 13, .lenS (.t 12), none⟩,
     ⟨some 14, .arith .lss (.t 11) (.t 13), none⟩])
   (.cond (.t 14)
    (.skip)
    (.exit 0)))
   (.seq (.block 1 (.seq (.reg [⟨some 18, .mov (.t 0), none⟩,
      ⟨some 19, .mov (.t 8), none⟩,
      ⟨some 20, .iadrS 6 (.t 18) (.t 19), none⟩,
      ⟨some 21, .loadA 6 (.t 20), none⟩,
      ⟨some 22, .call 29 [(.t 21)], none⟩,
      ⟨some 17, .mov (.t 22), none⟩,
      ⟨some 23, .ext 0 (.t 17), none⟩,
      ⟨some 24, .ext 1 (.t 17), none⟩,
      ⟨some 9, .alloc [(.p (.int .i64 0)), (.p (.int .i64 0))], none⟩,
      ⟨some 10, .alloc [(.p (.int .i64 0)), (.p (.int .i64 0))], none⟩,
      ⟨none, .store 2 (.t 9) (.t 23), none⟩,
      ⟨none, .store 2 (.t 10) (.t 24), none⟩])
    (.seq (.reg [⟨some 25, .mov (.t 8), none⟩,
      ⟨some 26, .mov (.t 2), none⟩,
      ⟨some 27, .arith .neq (.t 25) (.t 26), none⟩,
      ⟨some 28, .mov (.t 27), none⟩,
      ⟨some 29, .fadr 0 (.t 9), some (28, true)⟩,
      ⟨some 30, .load1 (.t 29), some (28, true)⟩,
      ⟨some 31, .fadr 0 (.t 4), some (28, true)⟩,
      ⟨some 32, .load1 (.t 31), some (28, true)⟩,
      ⟨some 33, .arith .leq (.t 30) (.t 32), some (28, true)⟩,
      ⟨some 34, .pick (.t 28) (.t 33) (.v (.p (.bool false))), none⟩,
      ⟨some 35, .mov (.t 34), none⟩,
      ⟨some 36, .fadr 0 (.t 10), some (35, true)⟩,
      ⟨some 37, .load1 (.t 36), some (35, true)⟩,
      ⟨some 38, .fadr 0 (.t 4), some (35, true)⟩,
      ⟨some 39, .load1 (.t 38), some (35, true)⟩,
      ⟨some 40, .arith .gtr (.t 37) (.t 39), some (35, true)⟩,
      ⟨some 41, .pick (.t 35) (.t 40) (.v (.p (.bool false))), none⟩,
      ⟨some 42, .mov (.t 41), none⟩,
      ⟨some 43, .loadA 2 (.t 9), some (42, true)⟩,
      ⟨some 44, .loadA 2 (.t 10), some (42, true)⟩,
      ⟨some 45, .loadA 2 (.t 4), some (42, true)⟩,
      ⟨some 46, .call 43 [(.t 43), (.t 44), (.t 45)], some (42, true)⟩,
      ⟨some 47, .arith .lss (.t 46) (.v (.p (.int .i64 0))), some (42, true)⟩,
      ⟨some 48, .pick (.t 42) (.t 47) (.v (.p (.bool false))), none⟩])
    (.cond (.t 48)
     (.seq (.drawn .univ [] [⟨some 49, .iadrA 2 1 (.t 7) (.v (.p (.int .i64 0))), none⟩,
        ⟨some 50, .load1 (.t 49), none⟩,
        ⟨some 51, .mov (.t 0), none⟩,
        ⟨some 52, .mov (.t 8), none⟩,
        ⟨some 53, .iadrS 6 (.t 51) (.t 52), none⟩,
        ⟨some 54, .fadr 4 (.t 53), none⟩,
        ⟨some 55, .load1 (.t 54), none⟩,
        ⟨some 56, .arith .sub (.t 50) (.t 55), none⟩,
        ⟨some 57, .iadrA 2 1 (.t 7) (.v (.p (.int .i64 0))), none⟩,
        ⟨none, .store 1 (.t 57) (.t 56), none⟩])
      (.drawn .univ [] [⟨some 58, .iadrA 2 1 (.t 7) (.v (.p (.int .i64 1))), none⟩,
        ⟨some 59, .load1 (.t 58), none⟩,
        ⟨some 60, .mov (.t 0), none⟩,
        ⟨some 61, .mov (.t 8), none⟩,
        ⟨some 62, .iadrS 6 (.t 60) (.t 61), none⟩,
        ⟨some 63, .fadr 5 (.t 62), none⟩,
        ⟨some 64, .load1 (.t 63), none⟩,
        ⟨some 65, .arith .sub (.t 59) (.t 64), none⟩,
        ⟨some 66, .iadrA 2 1 (.t 7) (.v (.p (.int .i64 1))), none⟩,
        ⟨none, .store 1 (.t 66) (.t 65), none⟩]))
     (.skip)))))
   (.reg [⟨some 15, .mov (.t 8), none⟩,
     ⟨some 16, .arith .add (.t 15) (.v (.p (.int .i64 1))), none⟩,
     ⟨some 8, .mov (.t 16), none⟩]))))))
 (.seq (.reg [⟨some 67, .loadA 2 (.t 7), none⟩,
   ⟨none, .store 2 (.t 6) (.t 67), none⟩])
 (.ret))))⟩
theorem c102 : compFunc Try.prog [] 31 = some a102 := by kernel_rfl

def a103 : AFunc := ⟨14, [.tmp 4],
 .seq (.reg [⟨some 4, .mov (.v (.p (.bool false))), none⟩])
 (.seq (.reg [⟨some 5, .mov (.t 0), none⟩,
   ⟨some 6, .mov (.t 1), none⟩,
   ⟨some 7, .neg (.t 6), none⟩,
   ⟨some 8, .arith .geq (.t 5) (.t 7), none⟩,
   ⟨some 9, .mov (.t 8), none⟩,
   ⟨some 10, .mov (.t 0), some (9, true)⟩,
   ⟨some 11, .mov (.t 1), some (9, true)⟩,
   ⟨some 12, .arith .leq (.t 10) (.t 11), some (9, true)⟩,
   ⟨some 13, .pick (.t 9) (.t 12) (.v (.p (.bool false))), none⟩,
   ⟨some 4, .mov (.t 13), none⟩])
 (.ret))⟩
theorem c103 : compFunc Try.prog [] 32 = some a103 := by kernel_rfl

def a104 : AFunc := ⟨31, [.tmp 6],
 .seq (.reg [⟨some 3, .box (.t 0), none⟩,
   ⟨some 4, .box (.t 1), none⟩,
   ⟨some 5, .box (.t 2), none⟩,
   ⟨some 6, .mov (.v (.p (.bool false))), none⟩])
 (.seq (.drawn .univ [] [⟨some 7, .loadA 2 (.t 3), none⟩,
   ⟨some 8, .call 49 [(.t 7)], none⟩,
   ⟨some 9, .mov (.t 8), none⟩,
   ⟨some 10, .loadA 2 (.t 4), some (9, true)⟩,
   ⟨some 11, .call 49 [(.t 10)], some (9, true)⟩,
   ⟨some 12, .pick (.t 9) (.t 11) (.v (.p (.bool false))), none⟩,
   ⟨some 13, .mov (.t 12), none⟩,
   ⟨some 14, .loadA 2 (.t 5), some (13, true)⟩,
   ⟨some 15, .call 49 [(.t 14)], some (13, true)⟩,
   ⟨some 16, .pick (.t 13) (.t 15) (.v (.p (.bool false))), none⟩,
   ⟨some 17, .mov (.t 16), none⟩,
   ⟨some 18, .loadA 2 (.t 4), some (17, true)⟩,
   ⟨some 19, .loadA 2 (.t 5), some (17, true)⟩,
   ⟨some 20, .loadA 2 (.t 3), some (17, true)⟩,
   ⟨some 21, .call 45 [(.t 18), (.t 19), (.t 20)], some (17, true)⟩,
   ⟨some 22, .arith .eql (.t 21) (.v (.p (.int .i64 0))), some (17, true)⟩,
   ⟨some 23, .pick (.t 17) (.t 22) (.v (.p (.bool false))), none⟩,
   ⟨some 24, .mov (.t 23), none⟩,
   ⟨some 25, .loadA 2 (.t 4), some (24, true)⟩,
   ⟨some 26, .loadA 2 (.t 5), some (24, true)⟩,
   ⟨some 27, .call 51 [(.t 25), (.t 26)], some (24, true)⟩,
   ⟨some 28, .loadA 2 (.t 3), some (24, true)⟩,
   ⟨some 29, .call 50 [(.t 27), (.t 28)], some (24, true)⟩,
   ⟨some 30, .pick (.t 24) (.t 29) (.v (.p (.bool false))), none⟩,
   ⟨some 6, .mov (.t 30), none⟩])
 (.ret))⟩
theorem c104 : compFunc Try.prog [] 33 = some a104 := by kernel_rfl

def a105 : AFunc := ⟨10, [.cellA 2 2],
 .seq (.reg [⟨some 1, .box (.t 0), none⟩,
   ⟨some 2, .alloc [(.p (.int .i64 0)), (.p (.int .i64 0))], none⟩])
 (.seq (.reg [⟨some 3, .fadr 0 (.t 1), none⟩,
   ⟨some 4, .load1 (.t 3), none⟩,
   ⟨some 5, .arith .mul (.v (.p (.int .i64 2))) (.t 4), none⟩,
   ⟨some 6, .fadr 1 (.t 1), none⟩,
   ⟨some 7, .load1 (.t 6), none⟩,
   ⟨some 8, .arith .mul (.v (.p (.int .i64 2))) (.t 7), none⟩,
   ⟨some 9, .build [(.p (.int .i64 0)), (.p (.int .i64 0))] [(0, 1, (.t 5)), (1, 1, (.t 8))], none⟩,
   ⟨none, .store 2 (.t 2) (.t 9), none⟩])
 (.ret))⟩
theorem c105 : compFunc Try.prog [] 34 = some a105 := by kernel_rfl

def a106 : AFunc := ⟨42, [.tmp 6],
 .seq (.reg [⟨some 3, .box (.t 0), none⟩,
   ⟨some 4, .box (.t 1), none⟩,
   ⟨some 5, .box (.t 2), none⟩,
   ⟨some 6, .mov (.v (.p (.bool false))), none⟩])
 (.seq (.reg [⟨some 7, .loadA 2 (.t 3), none⟩,
   ⟨some 8, .call 52 [(.t 7)], none⟩,
   ⟨some 9, .mov (.t 8), none⟩,
   ⟨some 10, .loadA 2 (.t 4), some (9, true)⟩,
   ⟨some 11, .call 52 [(.t 10)], some (9, true)⟩,
   ⟨some 12, .pick (.t 9) (.t 11) (.v (.p (.bool false))), none⟩,
   ⟨some 13, .mov (.t 12), none⟩,
   ⟨some 14, .loadA 2 (.t 5), some (13, true)⟩,
   ⟨some 15, .call 52 [(.t 14)], some (13, true)⟩,
   ⟨some 16, .pick (.t 13) (.t 15) (.v (.p (.bool false))), none⟩,
   ⟨some 17, .mov (.t 16), none⟩,
   ⟨some 18, .loadA 2 (.t 4), some (17, true)⟩,
   ⟨some 19, .loadA 2 (.t 3), some (17, true)⟩,
   ⟨some 20, .loadA 2 (.t 5), some (17, true)⟩,
   ⟨some 21, .call 43 [(.t 18), (.t 19), (.t 20)], some (17, true)⟩,
   ⟨some 22, .arith .eql (.t 21) (.v (.p (.int .i64 0))), some (17, true)⟩,
   ⟨some 23, .pick (.t 17) (.t 22) (.v (.p (.bool false))), none⟩,
   ⟨some 24, .mov (.t 23), none⟩,
   ⟨some 25, .fadr 0 (.t 3), some (24, true)⟩,
   ⟨some 26, .load1 (.t 25), some (24, true)⟩,
   ⟨some 27, .fadr 0 (.t 4), some (24, true)⟩,
   ⟨some 28, .load1 (.t 27), some (24, true)⟩,
   ⟨some 29, .fadr 0 (.t 5), some (24, true)⟩,
   ⟨some 30, .load1 (.t 29), some (24, true)⟩,
   ⟨some 31, .call 53 [(.t 26), (.t 28), (.t 30)], some (24, true)⟩,
   ⟨some 32, .pick (.t 24) (.t 31) (.v (.p (.bool false))), none⟩,
   ⟨some 33, .mov (.t 32), none⟩,
   ⟨some 34, .fadr 1 (.t 3), some (33, true)⟩,
   ⟨some 35, .load1 (.t 34), some (33, true)⟩,
   ⟨some 36, .fadr 1 (.t 4), some (33, true)⟩,
   ⟨some 37, .load1 (.t 36), some (33, true)⟩,
   ⟨some 38, .fadr 1 (.t 5), some (33, true)⟩,
   ⟨some 39, .load1 (.t 38), some (33, true)⟩,
   ⟨some 40, .call 53 [(.t 35), (.t 37), (.t 39)], some (33, true)⟩,
   ⟨some 41, .pick (.t 33) (.t 40) (.v (.p (.bool false))), none⟩,
   ⟨some 6, .mov (.t 41), none⟩])
 (.ret))⟩
theorem c106 : compFunc Try.prog [] 35 = some a106 := by kernel_rfl

def a107 : AFunc := ⟨36, [.tmp 2],
 .seq (.reg [⟨some 1, .box (.t 0), none⟩,
   ⟨some 2, .mov (.v (.p (.int .i64 0))), none⟩])
 (.seq (.reg [⟨some 6, .fadr 0 (.t 1), none⟩,
   ⟨some 7, .load1 (.t 6), none⟩,
   ⟨some 8, .lenS (.t 7), none⟩,
   ⟨some 9, .fadr 1 (.t 1), none⟩,
   ⟨some 10, .load1 (.t 9), none⟩,
   ⟨some 11, .lenS (.t 10), none⟩,
   ⟨some 12, .arith .add (.t 8) (.t 11), none⟩,
   ⟨some 3, .mov (.t 12), none⟩])
 (.seq (.seq (.drawn .univ [] [⟨some 13, .fadr 0 (.t 1), none⟩,
   ⟨some 14, .load1 (.t 13), none⟩,
   ⟨some 15, .fadr 0 (.t 1), none⟩,
   ⟨some 16, .load1 (.t 15), none⟩,
   ⟨some 17, .lenS (.t 16), none⟩,
   ⟨some 18, .fadr 0 (.t 1), none⟩,
   ⟨some 19, .load1 (.t 18), none⟩,
   ⟨some 20, .lenS (.t 19), none⟩,
   ⟨some 21, .slice 1 (.t 14) none (some (.t 17)) (some (.t 20)), none⟩,
   ⟨some 22, .fadr 1 (.t 1), none⟩,
   ⟨some 23, .load1 (.t 22), none⟩,
   ⟨some 24, .append 1 24 (.t 21) (.t 23), none⟩,
   ⟨some 25, .lenS (.t 24), none⟩,
   ⟨some 26, .mov (.v (.p (.int .i64 0))), none⟩])
 (.block 0 (.loop (.seq (.reg [⟨some 27, .arith .lss (.t 26) (.t 25), none⟩])
   (.seq (.cond (.t 27)
    (.skip)
    (.exit 0))
   (.seq (.block 1 (.seq (.reg [⟨some 28, .iadrS 1 (.t 24) (.t 26), none⟩,
      ⟨some 29, .load1 (.t 28), none⟩,
      ⟨some 5, .mov (.t 29), none⟩])
    (.reg [⟨some 30, .mov (.t 3), none⟩,
      ⟨some 31, .mov (.t 5), none⟩,
      ⟨some 32, .lenS (.t 31), none⟩,
      ⟨some 33, .arith .add (.t 30) (.t 32), none⟩,
      ⟨some 3, .mov (.t 33), none⟩])))
   (.reg [⟨some 34, .arith .add (.t 26) (.v (.p (.int .i64 1))), none⟩,
     ⟨some 26, .mov (.t 34), none⟩])))))))
 (.seq (.reg [⟨some 35, .mov (.t 3), none⟩,
   ⟨some 2, .mov (.t 35), none⟩])
 (.ret))))⟩
theorem c107 : compFunc Try.prog [] 36 = some a107 := by kernel_rfl

def a108 : AFunc := ⟨29, [.tmp 2],
 .seq (.reg [⟨some 2, .mov (.v (.p (.int .i64 0))), none⟩])
 (.seq (.reg [⟨some 3, .mov (.v (.p (.int .i64 0))), none⟩])
 (.seq (.seq (.reg [⟨some 4, .mov (.v (.p (.int .i64 0))), none⟩])
 (.block 0 (.loop (.seq (.seq (.reg [⟨some 5, .mov (.t 4), none⟩,
     ⟨some 6, .mov (.t 0), none⟩,
     ⟨some 7, .lenS (.t 6), none⟩,
     ⟨some 8, .arith .lss (.t 5) (.t 7), none⟩,
     ⟨some 9, .mov (.t 8), none⟩,
     ⟨some 10, .mov (.t 3), some (9, true)⟩,
     ⟨some 11, .arith .leq (.t 10) (.v (.p (.int .i64 256))), some (9, true)⟩,
     ⟨some 12, .pick (.t 9) (.t 11) (.v (.p (.bool false))), none⟩])
   (.cond (.t 12)
    (.skip)
    (.exit 0)))
   (.seq (.block 1 (.seq (.seq (.reg [⟨some 15, .mov (.t 0), none⟩,
      ⟨some 16, .mov (.t 4), none⟩,
      ⟨some 17, .iadrS 1 (.t 15) (.t 16), none⟩,
      ⟨some 18, .load1 (.t 17), none⟩,
      ⟨some 19, .lenS (.t 18), none⟩,
      ⟨some 20, .arith .gtr (.t 19) (.v (.p (.int .i64 256))), none⟩])
    (.cond (.t 20)
     (.seq (.reg [⟨some 2, .mov (.v (.p (.int .i64 257))), none⟩])
      (.ret))
     (.skip)))
    (.reg [⟨some 21, .mov (.t 3), none⟩,
      ⟨some 22, .mov (.t 0), none⟩,
      ⟨some 23, .mov (.t 4), none⟩,
      ⟨some 24, .iadrS 1 (.t 22) (.t 23), none⟩,
      ⟨some 25, .load1 (.t 24), none⟩,
      ⟨some 26, .lenS (.t 25), none⟩,
      ⟨some 27, .arith .add (.t 21) (.t 26), none⟩,
      ⟨some 3, .mov (.t 27), none⟩])))
   (.reg [⟨some 13, .mov (.t 4), none⟩,
     ⟨some 14, .arith .add (.t 13) (.v (.p (.int .i64 1))), none⟩,
     ⟨some 4, .mov (.t 14), none⟩]))))))
 (.seq (.reg [⟨some 28, .mov (.t 3), none⟩,
   ⟨some 2, .mov (.t 28), none⟩])
 (.ret))))⟩
theorem c108 : compFunc Try.prog [] 37 = some a108 := by kernel_rfl

def a109 : AFunc := ⟨52, [.tmp 2],
 .seq (.reg [⟨some 2, .mov (.v (.p (.int .i64 0))), none⟩])
 (.seq (.seq (.reg [⟨some 3, .mov (.v (.p (.int .i64 0))), none⟩])
 (.block 0 (.loop (.seq (.seq (.reg [⟨some 6, .mov (.t 3), none⟩,
     ⟨some 7, .mov (.t 0), none⟩,
     ⟨some 8, .lenS (.t 7), none⟩,
     ⟨some 9, .arith .lss (.t 6) (.t 8), none⟩])
   (.cond (.t 9)
    (.skip)
    (.exit 0)))
   (.seq (.block 1 (.seq (.seq (.reg [⟨some 12, .mov (.t 0), none⟩,
      ⟨some 13, .mov (.t 3), none⟩,
      ⟨some 14, .iadrS 1 (.t 12) (.t 13), none⟩,
      ⟨some 15, .load1 (.t 14), none⟩,
      ⟨some 16, .lenS (.t 15), none⟩,
      ⟨some 17, .arith .lss (.t 16) (.v (.p (.int .i64 3))), none⟩])
    (.cond (.t 17)
     (.seq (.reg [⟨some 2, .mov (.v (.p (.int .i64 114))), none⟩])
      (.ret))
     (.skip)))
    (.seq (.reg [⟨some 4, .mov (.v (.p (.int .i64 0))), none⟩])
    (.block 2 (.loop (.seq (.seq (.reg [⟨some 18, .mov (.t 4), none⟩,
        ⟨some 19, .mov (.t 0), none⟩,
        ⟨some 20, .mov (.t 3), none⟩,
        ⟨some 21, .iadrS 1 (.t 19) (.t 20), none⟩,
        ⟨some 22, .load1 (.t 21), none⟩,
        ⟨some 23, .lenS (.t 22), none⟩,
        ⟨some 24, .arith .lss (.t 18) (.t 23), none⟩])
      (.cond (.t 24)
       (.skip)
       (.exit 2)))
      (.seq (.block 3 (.seq (.reg [⟨some 27, .mov (.t 0), none⟩,
         ⟨some 28, .mov (.t 3), none⟩,
         ⟨some 29, .iadrS 1 (.t 27) (.t 28), none⟩,
         ⟨some 30, .load1 (.t 29), none⟩,
         ⟨some 31, .mov (.t 4), none⟩,
         ⟨some 32, .iadrS 2 (.t 30) (.t 31), none⟩,
         ⟨some 33, .loadA 2 (.t 32), none⟩,
         ⟨some 5, .alloc [(.p (.int .i64 0)), (.p (.int .i64 0))], none⟩,
         ⟨none, .store 2 (.t 5) (.t 33), none⟩])
       (.seq (.reg [⟨some 34, .fadr 0 (.t 5), none⟩,
         ⟨some 35, .load1 (.t 34), none⟩,
         ⟨some 36, .arith .gtr (.t 35) (.v (.p (.int .i64 67108864))), none⟩,
         ⟨some 37, .mov (.t 36), none⟩,
         ⟨some 38, .fadr 0 (.t 5), some (37, false)⟩,
         ⟨some 39, .load1 (.t 38), some (37, false)⟩,
         ⟨some 40, .arith .lss (.t 39) (.v (.p (.int .i64 (-67108864)))), some (37, false)⟩,
         ⟨some 41, .pick (.t 37) (.v (.p (.bool true))) (.t 40), none⟩,
         ⟨some 42, .mov (.t 41), none⟩,
         ⟨some 43, .fadr 1 (.t 5), some (42, false)⟩,
         ⟨some 44, .load1 (.t 43), some (42, false)⟩,
         ⟨some 45, .arith .gtr (.t 44) (.v (.p (.int .i64 67108864))), some (42, false)⟩,
         ⟨some 46, .pick (.t 42) (.v (.p (.bool true))) (.t 45), none⟩,
         ⟨some 47, .mov (.t 46), none⟩,
         ⟨some 48, .fadr 1 (.t 5), some (47, false)⟩,
         ⟨some 49, .load1 (.t 48), some (47, false)⟩,
         ⟨some 50, .arith .lss (.t 49) (.v (.p (.int .i64 (-67108864)))), some (47, false)⟩,
         ⟨some 51, .pick (.t 47) (.v (.p (.bool true))) (.t 50), none⟩])
       (.cond (.t 51)
        (.seq (.reg [⟨some 2, .mov (.v (.p (.int .i64 115))), none⟩])
         (.ret))
        (.skip)))))
      (.reg [⟨some 25, .mov (.t 4), none⟩,
        ⟨some 26, .arith .add (.t 25) (.v (.p (.int .i64 1))), none⟩,
        ⟨some 4, .mov (.t 26), none⟩]))))))))
   (.reg [⟨some 10, .mov (.t 3), none⟩,
     ⟨some 11, .arith .add (.t 10) (.v (.p (.int .i64 1))), none⟩,
     ⟨some 3, .mov (.t 11), none⟩]))))))
 (.seq (.reg [⟨some 2, .mov (.v (.p (.int .i64 0))), none⟩])
 (.ret)))⟩
theorem c109 : compFunc Try.prog [] 38 = some a109 := by kernel_rfl

def a110 : AFunc := ⟨50, [.tmp 4],
 .seq (.reg [⟨some 4, .mov (.v (.sl true [] .full)), none⟩])
 (.seq (.reg [⟨some 5, .mov (.v (.sl true [] .full)), none⟩])
 (.seq (.seq (.reg [⟨some 6, .mov (.v (.p (.int .i64 0))), none⟩])
 (.block 0 (.loop (.seq (.seq (.reg [⟨some 10, .mov (.t 6), none⟩,
     ⟨some 11, .mov (.t 0), none⟩,
     ⟨some 12, .lenS (.t 11), none⟩,
     ⟨some 13, .arith .lss (.t 10) (.t 12), none⟩])
   (.cond (.t 13)
    (.skip)
    (.exit 0)))
   (.seq (.block 1 (.seq (.reg [⟨some 16, .mov (.t 0), none⟩,
      ⟨some 17, .mov (.t 6), none⟩,
      ⟨some 18, .iadrS 1 (.t 16) (.t 17), none⟩,
      ⟨some 19, .load1 (.t 18), none⟩,
      ⟨some 7, .mov (.t 19), none⟩])
    (.seq (.reg [⟨some 8, .mov (.v (.p (.int .i64 0))), none⟩])
    (.block 2 (.loop (.seq (.seq (.reg [⟨some 20, .mov (.t 8), none⟩,
        ⟨some 21, .mov (.t 7), none⟩,
        ⟨some 22, .lenS (.t 21), none⟩,
        ⟨some 23, .arith .lss (.t 20) (.t 22), none⟩])
      (.cond (.t 23)
       (.skip)
       (.exit 2)))
      (.seq (.block 3 (.seq (.reg [⟨some 26, .mov (.t 7), none⟩,
         ⟨some 27, .iadrS 2 (.t 26) (.v (.p (.int .i64 0))), none⟩,
         ⟨some 28, .loadA 2 (.t 27), none⟩,
         ⟨some 9, .alloc [(.p (.int .i64 0)), (.p (.int .i64 0))], none⟩,
         ⟨none, .store 2 (.t 9) (.t 28), none⟩])
       (.seq (.seq (.reg [⟨some 29, .mov (.t 8), none⟩,
         ⟨some 30, .arith .add (.t 29) (.v (.p (.int .i64 1))), none⟩,
         ⟨some 31, .mov (.t 7), none⟩,
         ⟨some 32, .lenS (.t 31), none⟩,
         ⟨some 33, .arith .lss (.t 30) (.t 32), none⟩])
       (.cond (.t 33)
        (.reg [⟨some 34, .mov (.t 7), none⟩,
           ⟨some 35, .mov (.t 8), none⟩,
           ⟨some 36, .arith .add (.t 35) (.v (.p (.int .i64 1))), none⟩,
           ⟨some 37, .iadrS 2 (.t 34) (.t 36), none⟩,
           ⟨some 38, .loadA 2 (.t 37), none⟩,
           ⟨none, .store 2 (.t 9) (.t 38), none⟩])
        (.skip)))
       (.drawn .univ [] [⟨some 39, .mov (.t 5), none⟩,
         ⟨some 40, .mov (.t 7), none⟩,
         ⟨some 41, .mov (.t 8), none⟩,
         ⟨some 42, .iadrS 2 (.t 40) (.t 41), none⟩,
         ⟨some 43, .loadA 2 (.t 42), none⟩,
         ⟨some 44, .loadA 2 (.t 9), none⟩,
         ⟨some 45, .mov (.t 1), none⟩,
         ⟨some 46, .build [(.p (.int .i64 0)), (.p (.int .i64 0)), (.p (.int .i64 0)), (.p (.int .i64 0)), (.p (.int .i64 0))] [(0, 2, (.t 43)), (2, 2, (.t 44)), (4, 1, (.t 45))], none⟩,
         ⟨some 47, .bslice 5 [(.p (.int .i64 0)), (.p (.int .i64 0)), (.p (.int .i64 0)), (.p (.int .i64 0)), (.p (.int .i64 0))] 1 [(0, 5, (.t 46))], none⟩,
         ⟨some 48, .append 5 40 (.t 39) (.t 47), none⟩,
         ⟨some 5, .mov (.t 48), none⟩]))))
      (.reg [⟨some 24, .mov (.t 8), none⟩,
        ⟨some 25, .arith .add (.t 24) (.v (.p (.int .i64 1))), none⟩,
        ⟨some 8, .mov (.t 25), none⟩]))))))))
   (.reg [⟨some 14, .mov (.t 6), none⟩,
     ⟨some 15, .arith .add (.t 14) (.v (.p (.int .i64 1))), none⟩,
     ⟨some 6, .mov (.t 15), none⟩]))))))
 (.seq (.reg [⟨some 49, .mov (.t 5), none⟩,
   ⟨some 4, .mov (.t 49), none⟩])
 (.ret))))⟩
theorem c110 : compFunc Try.prog [] 39 = some a110 := by kernel_rfl

def a88 : AFunc := ⟨18, [.tmp 2],
 .seq (.reg [⟨some 2, .mov (.v (.p (.int .i64 0))), none⟩])
 (.seq (.reg [⟨some 3, .mov (.v (.p (.int .i64 0))), none⟩])
 (.seq (.seq (.reg [⟨some 6, .mov (.t 0), none⟩,
   ⟨some 7, .lenS (.t 6), none⟩,
   ⟨some 8, .mov (.v (.p (.int .i64 0))), none⟩])
 (.block 0 (.loop (.seq (.reg [⟨some 9, .arith .lss (.t 8) (.t 7), none⟩])
   (.seq (.cond (.t 9)
    (.skip)
    (.exit 0))
   (.seq (.block 1 (.seq (.reg [⟨some 10, .iadrS 1 (.t 6) (.t 8), none⟩,
      ⟨some 11, .load1 (.t 10), none⟩,
      ⟨some 5, .mov (.t 11), none⟩])
    (.seq (.reg [⟨some 12, .mov (.t 5), none⟩,
      ⟨some 13, .mov (.t 3), none⟩,
      ⟨some 14, .arith .neq (.t 12) (.t 13), none⟩])
    (.cond (.t 14)
     (.seq (.reg [⟨some 15, .mov (.t 5), none⟩,
        ⟨some 2, .mov (.t 15), none⟩])
      (.ret))
     (.skip)))))
   (.reg [⟨some 16, .arith .add (.t 8) (.v (.p (.int .i64 1))), none⟩,
     ⟨some 8, .mov (.t 16), none⟩])))))))
 (.seq (.reg [⟨some 17, .mov (.t 3), none⟩,
   ⟨some 2, .mov (.t 17), none⟩])
 (.ret))))⟩
theorem c88 : compFunc Try.prog [] 40 = some a88 := by kernel_rfl

def a111 : AFunc := ⟨20, [.tmp 4],
 .seq (.reg [⟨some 4, .mov (.v (.p (.int .i64 0))), none⟩])
 (.seq (.reg [⟨some 7, .mov (.t 0), none⟩,
   ⟨some 8, .call 54 [(.t 7)], none⟩,
   ⟨some 5, .mov (.t 8), none⟩])
 (.seq (.reg [⟨some 9, .mov (.t 1), none⟩,
   ⟨some 10, .call 54 [(.t 9)], none⟩,
   ⟨some 6, .mov (.t 10), none⟩])
 (.seq (.seq (.reg [⟨some 11, .mov (.t 5), none⟩])
 (.cond (.t 11)
  (.seq (.seq (.reg [⟨some 12, .mov (.t 6), none⟩])
   (.cond (.t 12)
    (.seq (.reg [⟨some 4, .mov (.v (.p (.int .i64 0))), none⟩])
     (.ret))
    (.skip)))
   (.seq (.reg [⟨some 4, .mov (.v (.p (.int .i64 (-1)))), none⟩])
   (.ret)))
  (.skip)))
 (.seq (.seq (.reg [⟨some 13, .mov (.t 6), none⟩])
 (.cond (.t 13)
  (.seq (.reg [⟨some 4, .mov (.v (.p (.int .i64 1))), none⟩])
   (.ret))
  (.skip)))
 (.seq (.seq (.reg [⟨some 14, .mov (.t 0), none⟩,
   ⟨some 15, .mov (.t 1), none⟩,
   ⟨some 16, .arith .lss (.t 14) (.t 15), none⟩])
 (.cond (.t 16)
  (.seq (.reg [⟨some 4, .mov (.v (.p (.int .i64 (-1)))), none⟩])
   (.ret))
  (.skip)))
 (.seq (.seq (.reg [⟨some 17, .mov (.t 0), none⟩,
   ⟨some 18, .mov (.t 1), none⟩,
   ⟨some 19, .arith .gtr (.t 17) (.t 18), none⟩])
 (.cond (.t 19)
  (.seq (.reg [⟨some 4, .mov (.v (.p (.int .i64 1))), none⟩])
   (.ret))
  (.skip)))
 (.seq (.reg [⟨some 4, .mov (.v (.p (.int .i64 0))), none⟩])
 (.ret))))))))⟩
theorem c111 : compFunc Try.prog [] 41 = some a111 := by kernel_rfl

def a112 : AFunc := ⟨10, [.cellA 2 2],
 .seq (.reg [⟨some 1, .box (.t 0), none⟩,
   ⟨some 2, .alloc [(.p (.int .i64 0)), (.p (.int .i64 0))], none⟩])
 (.seq (.reg [⟨some 3, .fadr 0 (.t 1), none⟩,
   ⟨some 4, .load1 (.t 3), none⟩,
   ⟨some 5, .arith .mul (.v (.p (.int .i64 2))) (.t 4), none⟩,
   ⟨some 6, .fadr 1 (.t 1), none⟩,
   ⟨some 7, .load1 (.t 6), none⟩,
   ⟨some 8, .arith .mul (.v (.p (.int .i64 2))) (.t 7), none⟩,
   ⟨some 9, .build [(.p (.int .i64 0)), (.p (.int .i64 0))] [(0, 1, (.t 5)), (1, 1, (.t 8))], none⟩,
   ⟨none, .store 2 (.t 2) (.t 9), none⟩])
 (.ret))⟩
theorem c112 : compFunc Try.prog [] 42 = some a112 := by kernel_rfl

def a113 : AFunc := ⟨31, [.tmp 6],
 .seq (.reg [⟨some 3, .box (.t 0), none⟩,
   ⟨some 4, .box (.t 1), none⟩,
   ⟨some 5, .box (.t 2), none⟩,
   ⟨some 6, .mov (.v (.p (.int .i64 0))), none⟩])
 (.seq (.seq (.reg [⟨some 7, .loadA 2 (.t 3), none⟩,
   ⟨some 8, .call 52 [(.t 7)], none⟩,
   ⟨some 9, .not (.t 8), none⟩,
   ⟨some 10, .mov (.t 9), none⟩,
   ⟨some 11, .loadA 2 (.t 4), some (10, false)⟩,
   ⟨some 12, .call 52 [(.t 11)], some (10, false)⟩,
   ⟨some 13, .not (.t 12), some (10, false)⟩,
   ⟨some 14, .pick (.t 10) (.v (.p (.bool true))) (.t 13), none⟩,
   ⟨some 15, .mov (.t 14), none⟩,
   ⟨some 16, .loadA 2 (.t 5), some (15, false)⟩,
   ⟨some 17, .call 52 [(.t 16)], some (15, false)⟩,
   ⟨some 18, .not (.t 17), some (15, false)⟩,
   ⟨some 19, .pick (.t 15) (.v (.p (.bool true))) (.t 18), none⟩])
 (.cond (.t 19)
  (.seq (.reg [⟨some 6, .mov (.v (.p (.int .i64 0))), none⟩])
   (.ret))
  (.skip)))
 (.seq (.drawn .univ [] [⟨some 20, .loadA 2 (.t 3), none⟩,
   ⟨some 21, .loadA 2 (.t 4), none⟩,
   ⟨some 22, .call 55 [(.t 20), (.t 21)], none⟩,
   ⟨some 23, .loadA 2 (.t 4), none⟩,
   ⟨some 24, .loadA 2 (.t 5), none⟩,
   ⟨some 25, .call 55 [(.t 23), (.t 24)], none⟩,
   ⟨some 26, .arith .add (.t 22) (.t 25), none⟩,
   ⟨some 27, .loadA 2 (.t 5), none⟩,
   ⟨some 28, .loadA 2 (.t 3), none⟩,
   ⟨some 29, .call 55 [(.t 27), (.t 28)], none⟩,
   ⟨some 30, .arith .add (.t 26) (.t 29), none⟩,
   ⟨some 6, .mov (.t 30), none⟩])
 (.ret)))⟩
theorem c113 : compFunc Try.prog [] 43 = some a113 := by kernel_rfl

def a168 : AFunc := ⟨25, [.tmp 5],
 .seq (.reg [⟨some 3, .box (.t 0), none⟩,
   ⟨some 4, .box (.t 1), none⟩,
   ⟨some 5, .mov (.v (.p (.int .i64 0))), none⟩])
 (.seq (.seq (.reg [⟨some 6, .fadr 0 (.t 3), none⟩,
   ⟨some 7, .load1 (.t 6), none⟩,
   ⟨some 8, .fadr 0 (.t 2), none⟩,
   ⟨some 9, .load1 (.t 8), none⟩,
   ⟨some 10, .arith .leq (.t 7) (.t 9), none⟩,
   ⟨some 11, .mov (.t 10), none⟩,
   ⟨some 12, .fadr 0 (.t 2), some (11, true)⟩,
   ⟨some 13, .load1 (.t 12), some (11, true)⟩,
   ⟨some 14, .fadr 0 (.t 4), some (11, true)⟩,
   ⟨some 15, .load1 (.t 14), some (11, true)⟩,
   ⟨some 16, .arith .lss (.t 13) (.t 15), some (11, true)⟩,
   ⟨some 17, .pick (.t 11) (.t 16) (.v (.p (.bool false))), none⟩,
   ⟨some 18, .mov (.t 17), none⟩,
   ⟨some 19, .loadA 2 (.t 3), some (18, true)⟩,
   ⟨some 20, .loadA 2 (.t 4), some (18, true)⟩,
   ⟨some 21, .loadA 2 (.t 2), some (18, true)⟩,
   ⟨some 22, .call 45 [(.t 19), (.t 20), (.t 21)], some (18, true)⟩,
   ⟨some 23, .arith .lss (.t 22) (.v (.p (.int .i64 0))), some (18, true)⟩,
   ⟨some 24, .pick (.t 18) (.t 23) (.v (.p (.bool false))), none⟩])
 (.cond (.t 24)
  (.seq (.reg [⟨some 5, .mov (.v (.p (.int .i64 (-1)))), none⟩])
   (.ret))
  (.skip)))
 (.seq (.reg [⟨some 5, .mov (.v (.p (.int .i64 0))), none⟩])
 (.ret)))⟩
theorem c168 : compFunc Try.prog [] 44 = some a168 := by kernel_rfl

def a169 : AFunc := ⟨12, [.tmp 6],
 .seq (.reg [⟨some 3, .box (.t 0), none⟩,
   ⟨some 4, .box (.t 1), none⟩,
   ⟨some 5, .box (.t 2), none⟩,
   ⟨some 6, .mov (.v (.p (.int .i64 0))), none⟩])
 (.seq (.reg [⟨some 7, .loadA 2 (.t 3), none⟩,
   ⟨some 8, .loadA 2 (.t 4), none⟩,
   ⟨some 9, .loadA 2 (.t 5), none⟩,
   ⟨some 10, .call 56 [(.t 7), (.t 8), (.t 9)], none⟩,
   ⟨some 11, .call 41 [(.t 10), (.v (.p (.int .i64 0)))], none⟩,
   ⟨some 6, .mov (.t 11), none⟩])
 (.ret))⟩
theorem c169 : compFunc Try.prog [] 45 = some a169 := by kernel_rfl

def a170 : AFunc := ⟨46, [.tmp 5],
 .seq (.reg [⟨some 3, .box (.t 0), none⟩,
   ⟨some 4, .box (.t 1), none⟩,
   ⟨some 5, .mov (.v (.p (.int .i64 0))), none⟩])
 (.seq (.block 0 (.seq (.reg [⟨some 7, .fadr 1 (.t 3), none⟩,
    ⟨some 8, .load1 (.t 7), none⟩,
    ⟨some 9, .fadr 1 (.t 2), none⟩,
    ⟨some 10, .load1 (.t 9), none⟩,
    ⟨some 11, .arith .leq (.t 8) (.t 10), none⟩,
    ⟨some 12, .mov (.t 11), none⟩,
    ⟨some 13, .fadr 1 (.t 2), some (12, true)⟩,
    ⟨some 14, .load1 (.t 13), some (12, true)⟩,
    ⟨some 15, .fadr 1 (.t 4), some (12, true)⟩,
    ⟨some 16, .load1 (.t 15), some (12, true)⟩,
    ⟨some 17, .arith .lss (.t 14) (.t 16), some (12, true)⟩,
    ⟨some 18, .pick (.t 12) (.t 17) (.v (.p (.bool false))), none⟩,
    ⟨some 19, .mov (.t 18), none⟩,
    ⟨some 20, .loadA 2 (.t 3), some (19, true)⟩,
    ⟨some 21, .loadA 2 (.t 4), some (19, true)⟩,
    ⟨some 22, .loadA 2 (.t 2), some (19, true)⟩,
    ⟨some 23, .call 45 [(.t 20), (.t 21), (.t 22)], some (19, true)⟩,
    ⟨some 24, .arith .gtr (.t 23) (.v (.p (.int .i64 0))), some (19, true)⟩,
    ⟨some 25, .pick (.t 19) (.t 24) (.v (.p (.bool false))), none⟩,
    ⟨some 6, .mov (.t 25), none⟩])
  (.cond (.t 6)
   (.seq (.reg [⟨some 5, .mov (.v (.p (.int .i64 1))), none⟩])
    (.ret))
   (.seq (.reg [⟨some 27, .fadr 1 (.t 4), none⟩,
      ⟨some 28, .load1 (.t 27), none⟩,
      ⟨some 29, .fadr 1 (.t 2), none⟩,
      ⟨some 30, .load1 (.t 29), none⟩,
      ⟨some 31, .arith .leq (.t 28) (.t 30), none⟩,
      ⟨some 32, .mov (.t 31), none⟩,
      ⟨some 33, .fadr 1 (.t 2), some (32, true)⟩,
      ⟨some 34, .load1 (.t 33), some (32, true)⟩,
      ⟨some 35, .fadr 1 (.t 3), some (32, true)⟩,
      ⟨some 36, .load1 (.t 35), some (32, true)⟩,
      ⟨some 37, .arith .lss (.t 34) (.t 36), some (32, true)⟩,
      ⟨some 38, .pick (.t 32) (.t 37) (.v (.p (.bool false))), none⟩,
      ⟨some 39, .mov (.t 38), none⟩,
      ⟨some 40, .loadA 2 (.t 3), some (39, true)⟩,
      ⟨some 41, .loadA 2 (.t 4), some (39, true)⟩,
      ⟨some 42, .loadA 2 (.t 2), some (39, true)⟩,
      ⟨some 43, .call 45 [(.t 40), (.t 41), (.t 42)], some (39, true)⟩,
      ⟨some 44, .arith .lss (.t 43) (.v (.p (.int .i64 0))), some (39, true)⟩,
      ⟨some 45, .pick (.t 39) (.t 44) (.v (.p (.bool false))), none⟩,
      ⟨some 26, .mov (.t 45), none⟩])
    (.cond (.t 26)
     (.seq (.reg [⟨some 5, .mov (.v (.p (.int .i64 (-1)))), none⟩])
      (.ret))
     (.skip))))))
 (.seq (.reg [⟨some 5, .mov (.v (.p (.int .i64 0))), none⟩])
 (.ret)))⟩
theorem c170 : compFunc Try.prog [] 46 = some a170 := by kernel_rfl

def a171 : AFunc := ⟨19, [.tmp 4],
 .seq (.reg [⟨some 4, .mov (.v (.p (.int .i64 0))), none⟩])
 (.seq (.seq (.reg [⟨some 6, .mov (.t 0), none⟩,
   ⟨some 7, .lenS (.t 6), none⟩,
   ⟨some 8, .mov (.v (.p (.int .i64 0))), none⟩])
 (.block 0 (.loop (.seq (.reg [⟨some 9, .arith .lss (.t 8) (.t 7), none⟩])
   (.seq (.cond (.t 9)
    (.skip)
    (.exit 0))
   (.seq (.block 1 (.seq (.reg [⟨some 10, .mov (.t 8), none⟩,
      ⟨some 5, .mov (.t 10), none⟩])
    (.seq (.reg [⟨some 11, .mov (.t 1), none⟩,
      ⟨some 12, .mov (.t 0), none⟩,
      ⟨some 13, .mov (.t 5), none⟩,
      ⟨some 14, .iadrS 6 (.t 12) (.t 13), none⟩,
      ⟨some 15, .loadA 6 (.t 14), none⟩,
      ⟨some 16, .callv (.t 11) [(.t 15)], none⟩])
    (.cond (.t 16)
     (.seq (.reg [⟨some 17, .mov (.t 5), none⟩,
        ⟨some 4, .mov (.t 17), none⟩])
      (.ret))
     (.skip)))))
   (.reg [⟨some 18, .arith .add (.t 8) (.v (.p (.int .i64 1))), none⟩,
     ⟨some 8, .mov (.t 18), none⟩])))))))
 (.seq (.reg [⟨some 4, .mov (.v (.p (.int .i64 (-1)))), none⟩])
 (.ret)))⟩
theorem c171 : compFunc Try.prog [] 47 = some a171 := by kernel_rfl

def a172 : AFunc := ⟨22, [.tmp 6],
 .seq (.reg [⟨some 3, .box (.t 0), none⟩,
   ⟨some 4, .box (.t 1), none⟩,
   ⟨some 5, .box (.t 2), none⟩,
   ⟨some 6, .mov (.v (.p (.int .i64 0))), none⟩])
 (.seq (.seq (.reg [⟨some 7, .fadr 1 (.t 4), none⟩,
   ⟨some 8, .load1 (.t 7), none⟩,
   ⟨some 9, .fadr 1 (.t 5), none⟩,
   ⟨some 10, .load1 (.t 9), none⟩,
   ⟨some 11, .arith .gtr (.t 8) (.t 10), none⟩])
 (.cond (.t 11)
  (.seq (.reg [⟨some 12, .loadA 2 (.t 5), none⟩,
     ⟨some 13, .loadA 2 (.t 4), none⟩,
     ⟨some 14, .loadA 2 (.t 3), none⟩,
     ⟨some 15, .call 43 [(.t 12), (.t 13), (.t 14)], none⟩,
     ⟨some 16, .call 57 [(.t 15)], none⟩,
     ⟨some 6, .mov (.t 16), none⟩])
   (.ret))
  (.skip)))
 (.seq (.reg [⟨some 17, .loadA 2 (.t 4), none⟩,
   ⟨some 18, .loadA 2 (.t 5), none⟩,
   ⟨some 19, .loadA 2 (.t 3), none⟩,
   ⟨some 20, .call 43 [(.t 17), (.t 18), (.t 19)], none⟩,
   ⟨some 21, .call 57 [(.t 20)], none⟩,
   ⟨some 6, .mov (.t 21), none⟩])
 (.ret)))⟩
theorem c172 : compFunc Try.prog [] 48 = some a172 := by kernel_rfl

def a173 : AFunc := ⟨21, [.tmp 2],
 .seq (.reg [⟨some 1, .box (.t 0), none⟩,
   ⟨some 2, .mov (.v (.p (.bool false))), none⟩])
 (.seq (.reg [⟨some 3, .fadr 0 (.t 1), none⟩,
   ⟨some 4, .load1 (.t 3), none⟩,
   ⟨some 5, .arith .geq (.t 4) (.v (.p (.int .i64 (-536870912)))), none⟩,
   ⟨some 6, .mov (.t 5), none⟩,
   ⟨some 7, .fadr 0 (.t 1), some (6, true)⟩,
   ⟨some 8, .load1 (.t 7), some (6, true)⟩,
   ⟨some 9, .arith .leq (.t 8) (.v (.p (.int .i64 536870912))), some (6, true)⟩,
   ⟨some 10, .pick (.t 6) (.t 9) (.v (.p (.bool false))), none⟩,
   ⟨some 11, .mov (.t 10), none⟩,
   ⟨some 12, .fadr 1 (.t 1), some (11, true)⟩,
   ⟨some 13, .load1 (.t 12), some (11, true)⟩,
   ⟨some 14, .arith .geq (.t 13) (.v (.p (.int .i64 (-536870912)))), some (11, true)⟩,
   ⟨some 15, .pick (.t 11) (.t 14) (.v (.p (.bool false))), none⟩,
   ⟨some 16, .mov (.t 15), none⟩,
   ⟨some 17, .fadr 1 (.t 1), some (16, true)⟩,
   ⟨some 18, .load1 (.t 17), some (16, true)⟩,
   ⟨some 19, .arith .leq (.t 18) (.v (.p (.int .i64 536870912))), some (16, true)⟩,
   ⟨some 20, .pick (.t 16) (.t 19) (.v (.p (.bool false))), none⟩,
   ⟨some 2, .mov (.t 20), none⟩])
 (.ret))⟩
theorem c173 : compFunc Try.prog [] 49 = some a173 := by kernel_rfl

def a174 : AFunc := ⟨35, [.tmp 4],
 .seq (.reg [⟨some 2, .box (.t 0), none⟩,
   ⟨some 3, .box (.t 1), none⟩,
   ⟨some 4, .mov (.v (.p (.bool false))), none⟩])
 (.seq (.reg [⟨some 5, .fadr 0 (.t 3), none⟩,
   ⟨some 6, .load1 (.t 5), none⟩,
   ⟨some 7, .fadr 0 (.t 2), none⟩,
   ⟨some 8, .fadr 0 (.t 7), none⟩,
   ⟨some 9, .load1 (.t 8), none⟩,
   ⟨some 10, .arith .geq (.t 6) (.t 9), none⟩,
   ⟨some 11, .mov (.t 10), none⟩,
   ⟨some 12, .fadr 0 (.t 3), some (11, true)⟩,
   ⟨some 13, .load1 (.t 12), some (11, true)⟩,
   ⟨some 14, .fadr 2 (.t 2), some (11, true)⟩,
   ⟨some 15, .fadr 0 (.t 14), some (11, true)⟩,
   ⟨some 16, .load1 (.t 15), some (11, true)⟩,
   ⟨some 17, .arith .leq (.t 13) (.t 16), some (11, true)⟩,
   ⟨some 18, .pick (.t 11) (.t 17) (.v (.p (.bool false))), none⟩,
   ⟨some 19, .mov (.t 18), none⟩,
   ⟨some 20, .fadr 1 (.t 3), some (19, true)⟩,
   ⟨some 21, .load1 (.t 20), some (19, true)⟩,
   ⟨some 22, .fadr 0 (.t 2), some (19, true)⟩,
   ⟨some 23, .fadr 1 (.t 22), some (19, true)⟩,
   ⟨some 24, .load1 (.t 23), some (19, true)⟩,
   ⟨some 25, .arith .geq (.t 21) (.t 24), some (19, true)⟩,
   ⟨some 26, .pick (.t 19) (.t 25) (.v (.p (.bool false))), none⟩,
   ⟨some 27, .mov (.t 26), none⟩,
   ⟨some 28, .fadr 1 (.t 3), some (27, true)⟩,
   ⟨some 29, .load1 (.t 28), some (27, true)⟩,
   ⟨some 30, .fadr 2 (.t 2), some (27, true)⟩,
   ⟨some 31, .fadr 1 (.t 30), some (27, true)⟩,
   ⟨some 32, .load1 (.t 31), some (27, true)⟩,
   ⟨some 33, .arith .leq (.t 29) (.t 32), some (27, true)⟩,
   ⟨some 34, .pick (.t 27) (.t 33) (.v (.p (.bool false))), none⟩,
   ⟨some 4, .mov (.t 34), none⟩])
 (.ret))⟩
theorem c174 : compFunc Try.prog [] 50 = some a174 := by kernel_rfl

def a175 : AFunc := ⟨28, [.cellA 4 4],
 .seq (.reg [⟨some 2, .box (.t 0), none⟩,
   ⟨some 3, .box (.t 1), none⟩,
   ⟨some 4, .alloc [(.p (.int .i64 0)), (.p (.int .i64 0)), (.p (.int .i64 0)), (.p (.int .i64 0))], none⟩])
 (.seq (.reg [⟨some 5, .fadr 0 (.t 2), none⟩,
   ⟨some 6, .load1 (.t 5), none⟩,
   ⟨some 7, .fadr 0 (.t 3), none⟩,
   ⟨some 8, .load1 (.t 7), none⟩,
   ⟨some 9, .minmax false (.t 6) [(.t 8)], none⟩,
   ⟨some 10, .fadr 1 (.t 2), none⟩,
   ⟨some 11, .load1 (.t 10), none⟩,
   ⟨some 12, .fadr 1 (.t 3), none⟩,
   ⟨some 13, .load1 (.t 12), none⟩,
   ⟨some 14, .minmax false (.t 11) [(.t 13)], none⟩,
   ⟨some 15, .build [(.p (.int .i64 0)), (.p (.int .i64 0))] [(0, 1, (.t 9)), (1, 1, (.t 14))], none⟩,
   ⟨some 16, .fadr 0 (.t 2), none⟩,
   ⟨some 17, .load1 (.t 16), none⟩,
   ⟨some 18, .fadr 0 (.t 3), none⟩,
   ⟨some 19, .load1 (.t 18), none⟩,
   ⟨some 20, .minmax true (.t 17) [(.t 19)], none⟩,
   ⟨some 21, .fadr 1 (.t 2), none⟩,
   ⟨some 22, .load1 (.t 21), none⟩,
   ⟨some 23, .fadr 1 (.t 3), none⟩,
   ⟨some 24, .load1 (.t 23), none⟩,
   ⟨some 25, .minmax true (.t 22) [(.t 24)], none⟩,
   ⟨some 26, .build [(.p (.int .i64 0)), (.p (.int .i64 0))] [(0, 1, (.t 20)), (1, 1, (.t 25))], none⟩,
   ⟨some 27, .build [(.p (.int .i64 0)), (.p (.int .i64 0)), (.p (.int .i64 0)), (.p (.int .i64 0))] [(0, 2, (.t 15)), (2, 2, (.t 26))], none⟩,
   ⟨none, .store 4 (.t 4) (.t 27), none⟩])
 (.ret))⟩
theorem c175 : compFunc Try.prog [] 51 = some a175 := by kernel_rfl

def a176 : AFunc := ⟨21, [.tmp 2],
 .seq (.reg [⟨some 1, .box (.t 0), none⟩,
   ⟨some 2, .mov (.v (.p (.bool false))), none⟩])
 (.seq (.reg [⟨some 3, .fadr 0 (.t 1), none⟩,
   ⟨some 4, .load1 (.t 3), none⟩,
   ⟨some 5, .arith .leq (.t 4) (.v (.p (.int .i64 536870912))), none⟩,
   ⟨some 6, .mov (.t 5), none⟩,
   ⟨some 7, .fadr 1 (.t 1), some (6, true)⟩,
   ⟨some 8, .load1 (.t 7), some (6, true)⟩,
   ⟨some 9, .arith .leq (.t 8) (.v (.p (.int .i64 536870912))), some (6, true)⟩,
   ⟨some 10, .pick (.t 6) (.t 9) (.v (.p (.bool false))), none⟩,
   ⟨some 11, .mov (.t 10), none⟩,
   ⟨some 12, .fadr 0 (.t 1), some (11, true)⟩,
   ⟨some 13, .load1 (.t 12), some (11, true)⟩,
   ⟨some 14, .arith .geq (.t 13) (.v (.p (.int .i64 (-536870912)))), some (11, true)⟩,
   ⟨some 15, .pick (.t 11) (.t 14) (.v (.p (.bool false))), none⟩,
   ⟨some 16, .mov (.t 15), none⟩,
   ⟨some 17, .fadr 1 (.t 1), some (16, true)⟩,
   ⟨some 18, .load1 (.t 17), some (16, true)⟩,
   ⟨some 19, .arith .geq (.t 18) (.v (.p (.int .i64 (-536870912)))), some (16, true)⟩,
   ⟨some 20, .pick (.t 16) (.t 19) (.v (.p (.bool false))), none⟩,
   ⟨some 2, .mov (.t 20), none⟩])
 (.ret))⟩
theorem c176 : compFunc Try.prog [] 52 = some a176 := by kernel_rfl

def a177 : AFunc := ⟨25, [.tmp 6],
 .seq (.reg [⟨some 6, .mov (.v (.p (.bool false))), none⟩])
 (.seq (.reg [⟨some 7, .mov (.t 1), none⟩,
   ⟨some 8, .mov (.t 0), none⟩,
   ⟨some 9, .arith .leq (.t 7) (.t 8), none⟩,
   ⟨some 10, .mov (.t 9), none⟩,
   ⟨some 11, .mov (.t 0), some (10, true)⟩,
   ⟨some 12, .mov (.t 2), some (10, true)⟩,
   ⟨some 13, .arith .leq (.t 11) (.t 12), some (10, true)⟩,
   ⟨some 14, .pick (.t 10) (.t 13) (.v (.p (.bool false))), none⟩,
   ⟨some 15, .mov (.t 14), none⟩,
   ⟨some 16, .mov (.t 2), some (15, false)⟩,
   ⟨some 17, .mov (.t 0), some (15, false)⟩,
   ⟨some 18, .arith .leq (.t 16) (.t 17), some (15, false)⟩,
   ⟨some 19, .mov (.t 18), some (15, false)⟩,
   ⟨some 20, .mov (.t 0), some (19, true)⟩,
   ⟨some 21, .mov (.t 1), some (19, true)⟩,
   ⟨some 22, .arith .leq (.t 20) (.t 21), some (19, true)⟩,
   ⟨some 23, .pick (.t 19) (.t 22) (.v (.p (.bool false))), some (15, false)⟩,
   ⟨some 24, .pick (.t 15) (.v (.p (.bool true))) (.t 23), none⟩,
   ⟨some 6, .mov (.t 24), none⟩])
 (.ret))⟩
theorem c177 : compFunc Try.prog [] 53 = some a177 := by kernel_rfl

def a178 : AFunc := ⟨6, [.tmp 2],
 .seq (.reg [⟨some 2, .mov (.v (.p (.bool false))), none⟩])
 (.seq (.reg [⟨some 3, .mov (.t 0), none⟩,
   ⟨some 4, .mov (.t 0), none⟩,
   ⟨some 5, .arith .neq (.t 3) (.t 4), none⟩,
   ⟨some 2, .mov (.t 5), none⟩])
 (.ret))⟩
theorem c178 : compFunc Try.prog [] 54 = some a178 := by kernel_rfl

def a179 : AFunc := ⟨16, [.tmp 4],
 .seq (.reg [⟨some 2, .box (.t 0), none⟩,
   ⟨some 3, .box (.t 1), none⟩,
   ⟨some 4, .mov (.v (.p (.int .i64 0))), none⟩])
 (.seq (.reg [⟨some 5, .fadr 0 (.t 2), none⟩,
   ⟨some 6, .load1 (.t 5), none⟩,
   ⟨some 7, .fadr 1 (.t 3), none⟩,
   ⟨some 8, .load1 (.t 7), none⟩,
   ⟨some 9, .arith .mul (.t 6) (.t 8), none⟩,
   ⟨some 10, .fadr 1 (.t 2), none⟩,
   ⟨some 11, .load1 (.t 10), none⟩,
   ⟨some 12, .fadr 0 (.t 3), none⟩,
   ⟨some 13, .load1 (.t 12), none⟩,
   ⟨some 14, .arith .mul (.t 11) (.t 13), none⟩,
   ⟨some 15, .arith .sub (.t 9) (.t 14), none⟩,
   ⟨some 4, .mov (.t 15), none⟩])
 (.ret))⟩
theorem c179 : compFunc Try.prog [] 55 = some a179 := by kernel_rfl

def a190 : AFunc := ⟨43, [.tmp 6],
 .seq (.reg [⟨some 3, .box (.t 0), none⟩,
   ⟨some 4, .box (.t 1), none⟩,
   ⟨some 5, .box (.t 2), none⟩,
   ⟨some 6, .mov (.v (.p (.int .i64 0))), none⟩])
 (.seq (.seq (.reg [⟨some 7, .loadA 2 (.t 3), none⟩,
   ⟨some 8, .call 49 [(.t 7)], none⟩,
   ⟨some 9, .not (.t 8), none⟩,
   ⟨some 10, .mov (.t 9), none⟩,
   ⟨some 11, .loadA 2 (.t 4), some (10, false)⟩,
   ⟨some 12, .call 49 [(.t 11)], some (10, false)⟩,
   ⟨some 13, .not (.t 12), some (10, false)⟩,
   ⟨some 14, .pick (.t 10) (.v (.p (.bool true))) (.t 13), none⟩,
   ⟨some 15, .mov (.t 14), none⟩,
   ⟨some 16, .loadA 2 (.t 5), some (15, false)⟩,
   ⟨some 17, .call 49 [(.t 16)], some (15, false)⟩,
   ⟨some 18, .not (.t 17), some (15, false)⟩,
   ⟨some 19, .pick (.t 15) (.v (.p (.bool true))) (.t 18), none⟩])
 (.cond (.t 19)
  (.seq (.reg [⟨some 6, .mov (.v (.p (.int .i64 0))), none⟩])
   (.ret))
  (.skip)))
 (.seq (.reg [⟨some 20, .fadr 0 (.t 4), none⟩,
   ⟨some 21, .load1 (.t 20), none⟩,
   ⟨some 22, .fadr 0 (.t 3), none⟩,
   ⟨some 23, .load1 (.t 22), none⟩,
   ⟨some 24, .arith .sub (.t 21) (.t 23), none⟩,
   ⟨some 25, .fadr 1 (.t 5), none⟩,
   ⟨some 26, .load1 (.t 25), none⟩,
   ⟨some 27, .fadr 1 (.t 3), none⟩,
   ⟨some 28, .load1 (.t 27), none⟩,
   ⟨some 29, .arith .sub (.t 26) (.t 28), none⟩,
   ⟨some 30, .arith .mul (.t 24) (.t 29), none⟩,
   ⟨some 31, .fadr 1 (.t 4), none⟩,
   ⟨some 32, .load1 (.t 31), none⟩,
   ⟨some 33, .fadr 1 (.t 3), none⟩,
   ⟨some 34, .load1 (.t 33), none⟩,
   ⟨some 35, .arith .sub (.t 32) (.t 34), none⟩,
   ⟨some 36, .fadr 0 (.t 5), none⟩,
   ⟨some 37, .load1 (.t 36), none⟩,
   ⟨some 38, .fadr 0 (.t 3), none⟩,
   ⟨some 39, .load1 (.t 38), none⟩,
   ⟨some 40, .arith .sub (.t 37) (.t 39), none⟩,
   ⟨some 41, .arith .mul (.t 35) (.t 40), none⟩,
   ⟨some 42, .arith .sub (.t 30) (.t 41), none⟩,
   ⟨some 6, .mov (.t 42), none⟩])
 (.ret)))⟩
theorem c190 : compFunc Try.prog [] 56 = some a190 := by kernel_rfl

def a217 : AFunc := ⟨7, [.tmp 2],
 .seq (.reg [⟨some 2, .mov (.v (.p (.int .i64 0))), none⟩])
 (.seq (.seq (.reg [⟨some 3, .mov (.t 0), none⟩,
   ⟨some 4, .arith .lss (.t 3) (.v (.p (.int .i64 0))), none⟩])
 (.cond (.t 4)
  (.seq (.reg [⟨some 2, .mov (.v (.p (.int .i64 (-1)))), none⟩])
   (.ret))
  (.skip)))
 (.seq (.seq (.reg [⟨some 5, .mov (.t 0), none⟩,
   ⟨some 6, .arith .gtr (.t 5) (.v (.p (.int .i64 0))), none⟩])
 (.cond (.t 6)
  (.seq (.reg [⟨some 2, .mov (.v (.p (.int .i64 1))), none⟩])
   (.ret))
  (.skip)))
 (.seq (.reg [⟨some 2, .mov (.v (.p (.int .i64 0))), none⟩])
 (.ret))))⟩
theorem c217 : compFunc Try.prog [] 57 = some a217 := by kernel_rfl

end Go.Proofs.Ytinenepjloodcaa
