/- THE FUNCTIONS, COMPILED: printed by a program (CwGen.lean), checked by the kernel. -/
import Derived.Test.YtakjakmhecfmiaaCwP
import Derived.Test.YtakjakmhecfmiaaProg
import Derived.KernelRfl
set_option maxRecDepth 100000
namespace Go.Proofs.Ytakjakmhecfmiaa
open Go.Cw

def a23 : AFunc := ⟨26, [.tmp 2],
 .seq (.reg [⟨some 2, .mov (.v (.sl true [] .full)), none⟩])
 (.seq (.reg [⟨some 3, .mov (.v (.sl true [] .full)), none⟩])
 (.seq (.seq (.reg [⟨some 6, .mov (.t 0), none⟩,
   ⟨some 7, .lenS (.t 6), none⟩,
   ⟨some 8, .mov (.v (.p (.int .i64 0))), none⟩])
 (.block 0 (.loop (.seq (.reg [⟨some 9, .arith .lss (.t 8) (.t 7), none⟩])
   (.seq (.cond (.t 9)
    (.skip)
    (.exit 0))
   (.seq (.block 1 (.seq (.reg [⟨some 10, .iadrS 6 (.t 6) (.t 8), none⟩,
      ⟨some 11, .loadA 6 (.t 10), none⟩,
      ⟨some 5, .alloc [(.p (.int .i64 0)), (.p (.int .i64 0)), (.p (.int .i64 0)), (.p (.int .i64 0)), (.p (.int .i64 0)), (.p (.int .i64 0))], none⟩,
      ⟨none, .store 6 (.t 5) (.t 11), none⟩])
    (.reg [⟨some 12, .mov (.t 3), none⟩,
      ⟨some 13, .fadr 0 (.t 5), none⟩,
      ⟨some 14, .loadA 2 (.t 13), none⟩,
      ⟨some 15, .fadr 2 (.t 5), none⟩,
      ⟨some 16, .loadA 2 (.t 15), none⟩,
      ⟨some 17, .fadr 4 (.t 5), none⟩,
      ⟨some 18, .load1 (.t 17), none⟩,
      ⟨some 19, .fadr 5 (.t 5), none⟩,
      ⟨some 20, .load1 (.t 19), none⟩,
      ⟨some 21, .build [(.p (.int .i64 0)), (.p (.int .i64 0)), (.p (.int .i64 0)), (.p (.int .i64 0)), (.p (.int .i64 0)), (.p (.int .i64 0))] [(0, 2, (.t 14)), (2, 2, (.t 16)), (4, 1, (.t 18)), (5, 1, (.t 20))], none⟩,
      ⟨some 22, .bslice 6 [(.p (.int .i64 0)), (.p (.int .i64 0)), (.p (.int .i64 0)), (.p (.int .i64 0)), (.p (.int .i64 0)), (.p (.int .i64 0))] 1 [(0, 6, (.t 21))], none⟩,
      ⟨some 23, .append 6 48 (.t 12) (.t 22), none⟩,
      ⟨some 3, .mov (.t 23), none⟩])))
   (.reg [⟨some 24, .arith .add (.t 8) (.v (.p (.int .i64 1))), none⟩,
     ⟨some 8, .mov (.t 24), none⟩])))))))
 (.seq (.reg [⟨some 25, .mov (.t 3), none⟩,
   ⟨some 2, .mov (.t 25), none⟩])
 (.ret))))⟩
theorem c23 : compFunc Try.prog [] 8 = some a23 := by kernel_rfl

def a42 : AFunc := ⟨17, [.tmp 4],
 .seq (.reg [⟨some 2, .box (.t 0), none⟩,
   ⟨some 3, .box (.t 1), none⟩,
   ⟨some 4, .mov (.v (.p (.int .i64 0))), none⟩])
 (.seq (.drawn .univ [] [⟨some 5, .fadr 0 (.t 2), none⟩,
   ⟨some 6, .load1 (.t 5), none⟩,
   ⟨some 7, .fadr 0 (.t 3), none⟩,
   ⟨some 8, .load1 (.t 7), none⟩,
   ⟨some 9, .call 32 [(.t 6), (.t 8)], none⟩,
   ⟨some 10, .fadr 1 (.t 2), none⟩,
   ⟨some 11, .load1 (.t 10), none⟩,
   ⟨some 12, .fadr 1 (.t 3), none⟩,
   ⟨some 13, .load1 (.t 12), none⟩,
   ⟨some 14, .call 32 [(.t 11), (.t 13)], none⟩,
   ⟨some 15, .bslice 1 [(.p (.int .i64 0))] 2 [(0, 1, (.t 9)), (1, 1, (.t 14))], none⟩,
   ⟨some 16, .call 23 [(.t 15)], none⟩,
   ⟨some 4, .mov (.t 16), none⟩])
 (.ret))⟩
theorem c42 : compFunc Try.prog [] 24 = some a42 := by kernel_rfl

def a91 : AFunc := ⟨24, [.tmp 4],
 .seq (.reg [⟨some 2, .box (.t 0), none⟩,
   ⟨some 3, .box (.t 1), none⟩,
   ⟨some 4, .mov (.v (.p (.bool false))), none⟩])
 (.seq (.reg [⟨some 5, .fadr 0 (.t 2), none⟩,
   ⟨some 6, .load1 (.t 5), none⟩,
   ⟨some 7, .fadr 0 (.t 3), none⟩,
   ⟨some 8, .load1 (.t 7), none⟩,
   ⟨some 9, .arith .lss (.t 6) (.t 8), none⟩,
   ⟨some 10, .mov (.t 9), none⟩,
   ⟨some 11, .fadr 0 (.t 2), some (10, false)⟩,
   ⟨some 12, .load1 (.t 11), some (10, false)⟩,
   ⟨some 13, .fadr 0 (.t 3), some (10, false)⟩,
   ⟨some 14, .load1 (.t 13), some (10, false)⟩,
   ⟨some 15, .arith .eql (.t 12) (.t 14), some (10, false)⟩,
   ⟨some 16, .mov (.t 15), some (10, false)⟩,
   ⟨some 17, .fadr 1 (.t 2), some (16, true)⟩,
   ⟨some 18, .load1 (.t 17), some (16, true)⟩,
   ⟨some 19, .fadr 1 (.t 3), some (16, true)⟩,
   ⟨some 20, .load1 (.t 19), some (16, true)⟩,
   ⟨some 21, .arith .lss (.t 18) (.t 20), some (16, true)⟩,
   ⟨some 22, .pick (.t 16) (.t 21) (.v (.p (.bool false))), some (10, false)⟩,
   ⟨some 23, .pick (.t 10) (.v (.p (.bool true))) (.t 22), none⟩,
   ⟨some 4, .mov (.t 23), none⟩])
 (.ret))⟩
theorem c91 : compFunc Try.prog [] 27 = some a91 := by kernel_rfl

def a88 : AFunc := ⟨18, [.tmp 2],
 .seq (.reg [⟨some 2, .mov (.v (.p (.int .i64 0))), none⟩])
 (.seq (.reg [⟨some 3, .mov (.v (.p (.int .i64 0))), none⟩])
 (.seq (.seq (.reg [⟨some 6, .mov (.t 0), none⟩,
   ⟨some 7, .lenS (.t 6), none⟩,
   ⟨some 8, .mov (.v (.p (.int .i64 0))), none⟩])
 (.block 0 (.loop (.seq (.reg [⟨some 9, .arith .lss (.t 8) (.t 7), none⟩])
   (.seq (.cond (.t 9)
    (.skip)
    (.exit 0))
   (.seq (.block 1 (.seq (.reg [⟨some 10, .iadrS 1 (.t 6) (.t 8), none⟩,
      ⟨some 11, .load1 (.t 10), none⟩,
      ⟨some 5, .mov (.t 11), none⟩])
    (.seq (.reg [⟨some 12, .mov (.t 5), none⟩,
      ⟨some 13, .mov (.t 3), none⟩,
      ⟨some 14, .arith .neq (.t 12) (.t 13), none⟩])
    (.cond (.t 14)
     (.seq (.reg [⟨some 15, .mov (.t 5), none⟩,
        ⟨some 2, .mov (.t 15), none⟩])
      (.ret))
     (.skip)))))
   (.reg [⟨some 16, .arith .add (.t 8) (.v (.p (.int .i64 1))), none⟩,
     ⟨some 8, .mov (.t 16), none⟩])))))))
 (.seq (.reg [⟨some 17, .mov (.t 3), none⟩,
   ⟨some 2, .mov (.t 17), none⟩])
 (.ret))))⟩
theorem c88 : compFunc Try.prog [] 23 = some a88 := by kernel_rfl

def a111 : AFunc := ⟨20, [.tmp 4],
 .seq (.reg [⟨some 4, .mov (.v (.p (.int .i64 0))), none⟩])
 (.seq (.reg [⟨some 7, .mov (.t 0), none⟩,
   ⟨some 8, .call 35 [(.t 7)], none⟩,
   ⟨some 5, .mov (.t 8), none⟩])
 (.seq (.reg [⟨some 9, .mov (.t 1), none⟩,
   ⟨some 10, .call 35 [(.t 9)], none⟩,
   ⟨some 6, .mov (.t 10), none⟩])
 (.seq (.seq (.reg [⟨some 11, .mov (.t 5), none⟩])
 (.cond (.t 11)
  (.seq (.seq (.reg [⟨some 12, .mov (.t 6), none⟩])
   (.cond (.t 12)
    (.seq (.reg [⟨some 4, .mov (.v (.p (.int .i64 0))), none⟩])
     (.ret))
    (.skip)))
   (.seq (.reg [⟨some 4, .mov (.v (.p (.int .i64 (-1)))), none⟩])
   (.ret)))
  (.skip)))
 (.seq (.seq (.reg [⟨some 13, .mov (.t 6), none⟩])
 (.cond (.t 13)
  (.seq (.reg [⟨some 4, .mov (.v (.p (.int .i64 1))), none⟩])
   (.ret))
  (.skip)))
 (.seq (.seq (.reg [⟨some 14, .mov (.t 0), none⟩,
   ⟨some 15, .mov (.t 1), none⟩,
   ⟨some 16, .arith .lss (.t 14) (.t 15), none⟩])
 (.cond (.t 16)
  (.seq (.reg [⟨some 4, .mov (.v (.p (.int .i64 (-1)))), none⟩])
   (.ret))
  (.skip)))
 (.seq (.seq (.reg [⟨some 17, .mov (.t 0), none⟩,
   ⟨some 18, .mov (.t 1), none⟩,
   ⟨some 19, .arith .gtr (.t 17) (.t 18), none⟩])
 (.cond (.t 19)
  (.seq (.reg [⟨some 4, .mov (.v (.p (.int .i64 1))), none⟩])
   (.ret))
  (.skip)))
 (.seq (.reg [⟨some 4, .mov (.v (.p (.int .i64 0))), none⟩])
 (.ret))))))))⟩
theorem c111 : compFunc Try.prog [] 32 = some a111 := by kernel_rfl

def a178 : AFunc := ⟨6, [.tmp 2],
 .seq (.reg [⟨some 2, .mov (.v (.p (.bool false))), none⟩])
 (.seq (.reg [⟨some 3, .mov (.t 0), none⟩,
   ⟨some 4, .mov (.t 0), none⟩,
   ⟨some 5, .arith .neq (.t 3) (.t 4), none⟩,
   ⟨some 2, .mov (.t 5), none⟩])
 (.ret))⟩
theorem c178 : compFunc Try.prog [] 35 = some a178 := by kernel_rfl

def aP3 : AFunc := ⟨68, [.tmp 6],
 .seq (.reg [⟨some 3, .box (.t 0), none⟩,
   ⟨some 6, .mov (.v (.p (.bool false))), none⟩])
 (.seq (.seq (.reg [⟨some 12, .mov (.t 1), none⟩,
   ⟨some 13, .lenS (.t 12), none⟩,
   ⟨some 14, .arith .gtr (.t 13) (.v (.p (.int .i64 100))), none⟩,
   ⟨some 15, .mov (.t 14), none⟩,
   ⟨some 16, .mov (.t 2), some (15, false)⟩,
   ⟨some 17, .lenS (.t 16), some (15, false)⟩,
   ⟨some 18, .arith .gtr (.t 17) (.v (.p (.int .i64 200))), some (15, false)⟩,
   ⟨some 19, .pick (.t 15) (.v (.p (.bool true))) (.t 18), none⟩])
 (.cond (.t 19)
  (.seq (.reg [⟨some 20, .call 6 [], none⟩,
     ⟨some 6, .mov (.t 20), none⟩])
   (.ret))
  (.skip)))
 (.seq (.reg [⟨some 7, .mov (.v (.sl true [] .full)), none⟩])
 (.seq (.seq (.reg [⟨some 21, .mov (.t 2), none⟩,
   ⟨some 22, .lenS (.t 21), none⟩,
   ⟨some 23, .mov (.v (.p (.int .i64 0))), none⟩])
 (.block 0 (.loop (.seq (.reg [⟨some 24, .arith .lss (.t 23) (.t 22), none⟩])
   (.seq (.cond (.t 24)
    (.skip)
    (.exit 0))
   (.seq (.block 1 (.seq (.reg [⟨some 25, .iadrS 4 (.t 21) (.t 23), none⟩,
      ⟨some 26, .loadA 4 (.t 25), none⟩,
      ⟨some 9, .alloc [(.p (.int .i64 0)), (.p (.int .i64 0)), (.p (.int .i64 0)), (.p (.int .i64 0))], none⟩,
      ⟨none, .store 4 (.t 9) (.t 26), none⟩])
    (.reg [⟨some 27, .mov (.t 7), none⟩,
      ⟨some 28, .loadA 4 (.t 9), none⟩,
      ⟨some 29, .bslice 4 [(.p (.int .i64 0)), (.p (.int .i64 0)), (.p (.int .i64 0)), (.p (.int .i64 0))] 1 [(0, 4, (.t 28))], none⟩,
      ⟨some 30, .append 4 32 (.t 27) (.t 29), none⟩,
      ⟨some 7, .mov (.t 30), none⟩])))
   (.reg [⟨some 31, .arith .add (.t 23) (.v (.p (.int .i64 1))), none⟩,
     ⟨some 23, .mov (.t 31), none⟩])))))))
 (.seq (.drawn .univ [] [⟨some 32, .loadA 6 (.t 3), none⟩,
   ⟨some 33, .mov (.t 1), none⟩,
   ⟨some 34, .call 8 [(.t 33)], none⟩,
   ⟨some 35, .mov (.t 7), none⟩,
   ⟨some 36, .call 7 [(.t 32), (.t 34), (.t 35)], none⟩,
   ⟨some 10, .mov (.t 36), none⟩])
 (.seq (.seq (.reg [⟨some 37, .mov (.t 10), none⟩,
   ⟨some 38, .lenS (.t 37), none⟩,
   ⟨some 39, .mov (.v (.p (.int .i64 0))), none⟩])
 (.block 2 (.loop (.seq (.reg [⟨some 40, .arith .lss (.t 39) (.t 38), none⟩])
   (.seq (.cond (.t 40)
    (.skip)
    (.exit 2))
   (.seq (.block 3 (.seq (.reg [⟨some 41, .mov (.t 39), none⟩,
      ⟨some 11, .mov (.t 41), none⟩])
    (.seq (.drawn .univ [] [⟨some 42, .mov (.t 11), none⟩,
      ⟨some 43, .arith .gtr (.t 42) (.v (.p (.int .i64 0))), none⟩,
      ⟨some 44, .mov (.t 43), none⟩,
      ⟨some 45, .mov (.t 10), some (44, true)⟩,
      ⟨some 46, .mov (.t 11), some (44, true)⟩,
      ⟨some 47, .arith .sub (.t 46) (.v (.p (.int .i64 1))), some (44, true)⟩,
      ⟨some 48, .iadrS 4 (.t 45) (.t 47), some (44, true)⟩,
      ⟨some 49, .loadA 4 (.t 48), some (44, true)⟩,
      ⟨some 50, .mov (.t 10), some (44, true)⟩,
      ⟨some 51, .mov (.t 11), some (44, true)⟩,
      ⟨some 52, .iadrS 4 (.t 50) (.t 51), some (44, true)⟩,
      ⟨some 53, .loadA 4 (.t 52), some (44, true)⟩,
      ⟨some 54, .call 9 [(.t 49), (.t 53)], some (44, true)⟩,
      ⟨some 55, .arith .gtr (.t 54) (.v (.p (.int .i64 0))), some (44, true)⟩,
      ⟨some 56, .pick (.t 44) (.t 55) (.v (.p (.bool false))), none⟩])
    (.cond (.t 56)
     (.seq (.reg [⟨some 6, .mov (.v (.p (.bool false))), none⟩])
      (.ret))
     (.skip)))))
   (.reg [⟨some 57, .arith .add (.t 39) (.v (.p (.int .i64 1))), none⟩,
     ⟨some 39, .mov (.t 57), none⟩])))))))
 (.seq (.drawn .univ [] [⟨some 58, .call 6 [], none⟩,
   ⟨some 59, .mov (.t 58), none⟩,
   ⟨some 60, .mov (.t 10), some (59, true)⟩,
   ⟨some 61, .call 11 [(.t 60)], some (59, true)⟩,
   ⟨some 62, .loadA 6 (.t 3), some (59, true)⟩,
   ⟨some 63, .mov (.t 1), some (59, true)⟩,
   ⟨some 64, .mov (.t 2), some (59, true)⟩,
   ⟨some 65, .call 12 [(.t 62), (.t 63), (.t 64)], some (59, true)⟩,
   ⟨some 66, .call 10 [(.t 61), (.t 65)], some (59, true)⟩,
   ⟨some 67, .pick (.t 59) (.t 66) (.v (.p (.bool false))), none⟩,
   ⟨some 6, .mov (.t 67), none⟩])
 (.ret)))))))⟩
theorem cP3 : compFunc Try.prog [] 3 = some aP3 := by kernel_rfl

def aP4 : AFunc := ⟨58, [.tmp 4],
 .seq (.reg [⟨some 2, .box (.t 0), none⟩,
   ⟨some 4, .mov (.v (.p (.bool false))), none⟩])
 (.seq (.drawn .univ [(12, 5)] [⟨some 10, .iadrA 2 4 (.t 2) (.v (.p (.int .i64 0))), none⟩,
   ⟨some 11, .loadA 4 (.t 10), none⟩,
   ⟨some 12, .iadrA 2 4 (.t 2) (.v (.p (.int .i64 1))), none⟩,
   ⟨some 13, .loadA 4 (.t 12), none⟩,
   ⟨some 5, .alloc [(.p (.int .i64 0)), (.p (.int .i64 0)), (.p (.int .i64 0)), (.p (.int .i64 0))], none⟩,
   ⟨some 6, .alloc [(.p (.int .i64 0)), (.p (.int .i64 0)), (.p (.int .i64 0)), (.p (.int .i64 0))], none⟩,
   ⟨none, .store 4 (.t 5) (.t 11), none⟩,
   ⟨none, .store 4 (.t 6) (.t 13), none⟩])
 (.seq (.seq (.reg [⟨some 14, .mov (.t 1), none⟩,
   ⟨some 15, .lenS (.t 14), none⟩,
   ⟨some 16, .arith .gtr (.t 15) (.v (.p (.int .i64 100))), none⟩])
 (.cond (.t 16)
  (.seq (.reg [⟨some 17, .call 6 [], none⟩,
     ⟨some 4, .mov (.t 17), none⟩])
   (.ret))
  (.skip)))
 (.seq (.drawn .univ [(26, 7)] [⟨some 18, .loadA 4 (.t 5), none⟩,
   ⟨some 19, .bslice 4 [(.p (.int .i64 0)), (.p (.int .i64 0)), (.p (.int .i64 0)), (.p (.int .i64 0))] 1 [(0, 4, (.t 18))], none⟩,
   ⟨some 20, .call 13 [(.t 19)], none⟩,
   ⟨some 21, .iadrS 4 (.t 20) (.v (.p (.int .i64 0))), none⟩,
   ⟨some 22, .loadA 4 (.t 21), none⟩,
   ⟨some 23, .loadA 4 (.t 6), none⟩,
   ⟨some 24, .bslice 4 [(.p (.int .i64 0)), (.p (.int .i64 0)), (.p (.int .i64 0)), (.p (.int .i64 0))] 1 [(0, 4, (.t 23))], none⟩,
   ⟨some 25, .call 13 [(.t 24)], none⟩,
   ⟨some 26, .iadrS 4 (.t 25) (.v (.p (.int .i64 0))), none⟩,
   ⟨some 27, .loadA 4 (.t 26), none⟩,
   ⟨some 7, .alloc [(.p (.int .i64 0)), (.p (.int .i64 0)), (.p (.int .i64 0)), (.p (.int .i64 0))], none⟩,
   ⟨some 8, .alloc [(.p (.int .i64 0)), (.p (.int .i64 0)), (.p (.int .i64 0)), (.p (.int .i64 0))], none⟩,
   ⟨none, .store 4 (.t 7) (.t 22), none⟩,
   ⟨none, .store 4 (.t 8) (.t 27), none⟩])
 (.seq (.reg [⟨some 9, .mov (.v (.p (.int .i64 0))), none⟩])
 (.seq (.seq (.reg [⟨some 28, .loadA 4 (.t 5), none⟩,
   ⟨some 29, .loadA 4 (.t 6), none⟩,
   ⟨some 30, .call 14 [(.t 28), (.t 29)], none⟩])
 (.cond (.t 30)
  (.reg [⟨some 9, .mov (.v (.p (.int .i64 (-1)))), none⟩])
  (.skip)))
 (.seq (.seq (.reg [⟨some 31, .loadA 4 (.t 6), none⟩,
   ⟨some 32, .loadA 4 (.t 5), none⟩,
   ⟨some 33, .call 14 [(.t 31), (.t 32)], none⟩])
 (.cond (.t 33)
  (.reg [⟨some 9, .mov (.v (.p (.int .i64 1))), none⟩])
  (.skip)))
 (.seq (.reg [⟨some 34, .call 6 [], none⟩,
   ⟨some 35, .mov (.t 34), none⟩,
   ⟨some 36, .loadA 4 (.t 7), some (35, true)⟩,
   ⟨some 37, .loadA 4 (.t 8), some (35, true)⟩,
   ⟨some 38, .call 9 [(.t 36), (.t 37)], some (35, true)⟩,
   ⟨some 39, .mov (.t 9), some (35, true)⟩,
   ⟨some 40, .arith .eql (.t 38) (.t 39), some (35, true)⟩,
   ⟨some 41, .pick (.t 35) (.t 40) (.v (.p (.bool false))), none⟩,
   ⟨some 42, .mov (.t 41), none⟩,
   ⟨some 43, .loadA 4 (.t 8), some (42, true)⟩,
   ⟨some 44, .loadA 4 (.t 7), some (42, true)⟩,
   ⟨some 45, .call 9 [(.t 43), (.t 44)], some (42, true)⟩,
   ⟨some 46, .mov (.t 9), some (42, true)⟩,
   ⟨some 47, .neg (.t 46), some (42, true)⟩,
   ⟨some 48, .arith .eql (.t 45) (.t 47), some (42, true)⟩,
   ⟨some 49, .pick (.t 42) (.t 48) (.v (.p (.bool false))), none⟩,
   ⟨some 50, .mov (.t 49), none⟩,
   ⟨some 51, .mov (.t 1), some (50, true)⟩,
   ⟨some 52, .call 13 [(.t 51)], some (50, true)⟩,
   ⟨some 53, .call 15 [(.t 52)], some (50, true)⟩,
   ⟨some 54, .mov (.t 1), some (50, true)⟩,
   ⟨some 55, .call 16 [(.t 54)], some (50, true)⟩,
   ⟨some 56, .eqB false (.t 53) (.t 55), some (50, true)⟩,
   ⟨some 57, .pick (.t 50) (.t 56) (.v (.p (.bool false))), none⟩,
   ⟨some 4, .mov (.t 57), none⟩])
 (.ret))))))))⟩
theorem cP4 : compFunc Try.prog [] 4 = some aP4 := by kernel_rfl

def aP5 : AFunc := ⟨72, [.tmp 6],
 .seq (.reg [⟨some 3, .box (.t 0), none⟩,
   ⟨some 6, .mov (.v (.p (.bool false))), none⟩])
 (.seq (.seq (.reg [⟨some 11, .mov (.t 1), none⟩,
   ⟨some 12, .lenS (.t 11), none⟩,
   ⟨some 13, .arith .gtr (.t 12) (.v (.p (.int .i64 100))), none⟩,
   ⟨some 14, .mov (.t 13), none⟩,
   ⟨some 15, .mov (.t 2), some (14, false)⟩,
   ⟨some 16, .lenS (.t 15), some (14, false)⟩,
   ⟨some 17, .mov (.t 1), some (14, false)⟩,
   ⟨some 18, .lenS (.t 17), some (14, false)⟩,
   ⟨some 19, .arith .neq (.t 16) (.t 18), some (14, false)⟩,
   ⟨some 20, .pick (.t 14) (.v (.p (.bool true))) (.t 19), none⟩,
   ⟨some 21, .mov (.t 20), none⟩,
   ⟨some 22, .fadr 2 (.t 3), some (21, false)⟩,
   ⟨some 23, .load1 (.t 22), some (21, false)⟩,
   ⟨some 24, .arith .eql (.t 23) (.v (.p (.int .i64 2))), some (21, false)⟩,
   ⟨some 25, .pick (.t 21) (.v (.p (.bool true))) (.t 24), none⟩])
 (.cond (.t 25)
  (.seq (.reg [⟨some 26, .call 6 [], none⟩,
     ⟨some 6, .mov (.t 26), none⟩])
   (.ret))
  (.skip)))
 (.seq (.reg [⟨some 7, .mov (.v (.sl true [] .full)), none⟩,
   ⟨some 8, .mov (.v (.sl true [] .full)), none⟩])
 (.seq (.seq (.reg [⟨some 27, .mov (.t 2), none⟩,
   ⟨some 28, .lenS (.t 27), none⟩,
   ⟨some 29, .mov (.v (.p (.int .i64 0))), none⟩])
 (.block 0 (.loop (.seq (.reg [⟨some 30, .arith .lss (.t 29) (.t 28), none⟩])
   (.seq (.cond (.t 30)
    (.skip)
    (.exit 0))
   (.seq (.block 1 (.seq (.reg [⟨some 31, .iadrS 4 (.t 27) (.t 29), none⟩,
      ⟨some 32, .loadA 4 (.t 31), none⟩,
      ⟨some 10, .alloc [(.p (.int .i64 0)), (.p (.int .i64 0)), (.p (.int .i64 0)), (.p (.int .i64 0))], none⟩,
      ⟨none, .store 4 (.t 10) (.t 32), none⟩])
    (.seq (.reg [⟨some 33, .mov (.t 7), none⟩,
      ⟨some 34, .loadA 4 (.t 10), none⟩,
      ⟨some 35, .bslice 4 [(.p (.int .i64 0)), (.p (.int .i64 0)), (.p (.int .i64 0)), (.p (.int .i64 0))] 1 [(0, 4, (.t 34))], none⟩,
      ⟨some 36, .append 4 32 (.t 33) (.t 35), none⟩,
      ⟨some 7, .mov (.t 36), none⟩])
    (.reg [⟨some 37, .mov (.t 8), none⟩,
      ⟨some 38, .fadr 0 (.t 10), none⟩,
      ⟨some 39, .iadrA 2 1 (.t 38) (.v (.p (.int .i64 1))), none⟩,
      ⟨some 40, .load1 (.t 39), none⟩,
      ⟨some 41, .fadr 0 (.t 10), none⟩,
      ⟨some 42, .iadrA 2 1 (.t 41) (.v (.p (.int .i64 0))), none⟩,
      ⟨some 43, .load1 (.t 42), none⟩,
      ⟨some 44, .build [(.p (.int .i64 0)), (.p (.int .i64 0))] [(0, 1, (.t 40)), (1, 1, (.t 43))], none⟩,
      ⟨some 45, .fadr 2 (.t 10), none⟩,
      ⟨some 46, .iadrA 2 1 (.t 45) (.v (.p (.int .i64 1))), none⟩,
      ⟨some 47, .load1 (.t 46), none⟩,
      ⟨some 48, .fadr 2 (.t 10), none⟩,
      ⟨some 49, .iadrA 2 1 (.t 48) (.v (.p (.int .i64 0))), none⟩,
      ⟨some 50, .load1 (.t 49), none⟩,
      ⟨some 51, .build [(.p (.int .i64 0)), (.p (.int .i64 0))] [(0, 1, (.t 47)), (1, 1, (.t 50))], none⟩,
      ⟨some 52, .build [(.p (.int .i64 0)), (.p (.int .i64 0)), (.p (.int .i64 0)), (.p (.int .i64 0))] [(0, 2, (.t 44)), (2, 2, (.t 51))], none⟩,
      ⟨some 53, .bslice 4 [(.p (.int .i64 0)), (.p (.int .i64 0)), (.p (.int .i64 0)), (.p (.int .i64 0))] 1 [(0, 4, (.t 52))], none⟩,
      ⟨some 54, .append 4 32 (.t 37) (.t 53), none⟩,
      ⟨some 8, .mov (.t 54), none⟩]))))
   (.reg [⟨some 55, .arith .add (.t 29) (.v (.p (.int .i64 1))), none⟩,
     ⟨some 29, .mov (.t 55), none⟩])))))))
 (.seq (.drawn .univ [] [⟨some 56, .call 6 [], none⟩,
   ⟨some 57, .mov (.t 56), none⟩,
   ⟨some 58, .loadA 6 (.t 3), some (57, true)⟩,
   ⟨some 59, .mov (.t 1), some (57, true)⟩,
   ⟨some 60, .call 8 [(.t 59)], some (57, true)⟩,
   ⟨some 61, .mov (.t 7), some (57, true)⟩,
   ⟨some 62, .call 7 [(.t 58), (.t 60), (.t 61)], some (57, true)⟩,
   ⟨some 63, .call 11 [(.t 62)], some (57, true)⟩,
   ⟨some 64, .loadA 6 (.t 3), some (57, true)⟩,
   ⟨some 65, .mov (.t 1), some (57, true)⟩,
   ⟨some 66, .call 8 [(.t 65)], some (57, true)⟩,
   ⟨some 67, .mov (.t 8), some (57, true)⟩,
   ⟨some 68, .call 7 [(.t 64), (.t 66), (.t 67)], some (57, true)⟩,
   ⟨some 69, .call 11 [(.t 68)], some (57, true)⟩,
   ⟨some 70, .call 10 [(.t 63), (.t 69)], some (57, true)⟩,
   ⟨some 71, .pick (.t 57) (.t 70) (.v (.p (.bool false))), none⟩,
   ⟨some 6, .mov (.t 71), none⟩])
 (.ret)))))⟩
theorem cP5 : compFunc Try.prog [] 5 = some aP5 := by kernel_rfl

def aP6 : AFunc := ⟨73, [.tmp 0],
 .seq (.reg [⟨some 0, .mov (.v (.p (.bool false))), none⟩])
 (.seq (.reg [⟨some 7, .build [(.p (.int .i64 0)), (.p (.int .i64 0))] [], none⟩,
   ⟨some 8, .build [(.p (.int .i64 0)), (.p (.int .i64 0))] [(0, 1, (.v (.p (.int .i64 2))))], none⟩,
   ⟨some 1, .alloc [(.p (.int .i64 0)), (.p (.int .i64 0))], none⟩,
   ⟨some 2, .alloc [(.p (.int .i64 0)), (.p (.int .i64 0))], none⟩,
   ⟨none, .store 2 (.t 1) (.t 7), none⟩,
   ⟨none, .store 2 (.t 2) (.t 8), none⟩])
 (.seq (.reg [⟨some 9, .loadA 2 (.t 1), none⟩,
   ⟨some 10, .loadA 2 (.t 2), none⟩,
   ⟨some 11, .build [(.p (.int .i64 0)), (.p (.int .i64 0)), (.p (.int .i64 0)), (.p (.int .i64 0)), (.p (.int .i64 0)), (.p (.int .i64 0))] [(0, 2, (.t 9)), (2, 2, (.t 10)), (4, 1, (.v (.p (.int .i64 (-1)))))], none⟩,
   ⟨some 12, .bslice 6 [(.p (.int .i64 0)), (.p (.int .i64 0)), (.p (.int .i64 0)), (.p (.int .i64 0)), (.p (.int .i64 0)), (.p (.int .i64 0))] 1 [(0, 6, (.t 11))], none⟩,
   ⟨some 13, .build [(.p (.int .i64 0)), (.p (.int .i64 0))] [(0, 1, (.v (.p (.int .i64 1)))), (1, 1, (.v (.p (.int .i64 0))))], none⟩,
   ⟨some 14, .build [(.p (.int .i64 0)), (.p (.int .i64 0)), (.p (.int .i64 0)), (.p (.int .i64 0))] [(2, 2, (.t 13))], none⟩,
   ⟨some 15, .bslice 4 [(.p (.int .i64 0)), (.p (.int .i64 0)), (.p (.int .i64 0)), (.p (.int .i64 0))] 1 [(0, 4, (.t 14))], none⟩,
   ⟨some 3, .mov (.t 12), none⟩,
   ⟨some 4, .mov (.t 15), none⟩])
 (.seq (.reg [⟨some 16, .build [(.sl true [] .full), (.sl true [] .full), (.p (.int .i64 0)), (.p (.int .i64 0)), (.p (.int .i64 0)), (.p (.int .i64 0))] [], none⟩,
   ⟨some 17, .mov (.t 3), none⟩,
   ⟨some 18, .mov (.t 4), none⟩,
   ⟨some 19, .call 7 [(.t 16), (.t 17), (.t 18)], none⟩,
   ⟨some 5, .mov (.t 19), none⟩])
 (.seq (.reg [⟨some 20, .build [(.sl true [] .full), (.sl true [] .full), (.p (.int .i64 0)), (.p (.int .i64 0)), (.p (.int .i64 0)), (.p (.int .i64 0))] [(2, 1, (.v (.p (.int .i64 1))))], none⟩,
   ⟨some 21, .mov (.t 3), none⟩,
   ⟨some 22, .mov (.t 4), none⟩,
   ⟨some 23, .call 7 [(.t 20), (.t 21), (.t 22)], none⟩,
   ⟨some 6, .mov (.t 23), none⟩])
 (.seq (.drawn .univ [] [⟨some 24, .mov (.t 5), none⟩,
   ⟨some 25, .lenS (.t 24), none⟩,
   ⟨some 26, .arith .eql (.t 25) (.v (.p (.int .i64 1))), none⟩,
   ⟨some 27, .mov (.t 26), none⟩,
   ⟨some 28, .mov (.t 5), some (27, true)⟩,
   ⟨some 29, .iadrS 4 (.t 28) (.v (.p (.int .i64 0))), some (27, true)⟩,
   ⟨some 30, .loadA 4 (.t 29), some (27, true)⟩,
   ⟨some 31, .loadA 2 (.t 2), some (27, true)⟩,
   ⟨some 32, .loadA 2 (.t 1), some (27, true)⟩,
   ⟨some 33, .build [(.p (.int .i64 0)), (.p (.int .i64 0)), (.p (.int .i64 0)), (.p (.int .i64 0))] [(0, 2, (.t 31)), (2, 2, (.t 32))], some (27, true)⟩,
   ⟨some 34, .eqA [some .i64, some .i64, some .i64, some .i64] false (.t 30) (.t 33), some (27, true)⟩,
   ⟨some 35, .pick (.t 27) (.t 34) (.v (.p (.bool false))), none⟩,
   ⟨some 36, .mov (.t 35), none⟩,
   ⟨some 37, .mov (.t 6), some (36, true)⟩,
   ⟨some 38, .lenS (.t 37), some (36, true)⟩,
   ⟨some 39, .arith .eql (.t 38) (.v (.p (.int .i64 0))), some (36, true)⟩,
   ⟨some 40, .pick (.t 36) (.t 39) (.v (.p (.bool false))), none⟩,
   ⟨some 41, .mov (.t 40), none⟩,
   ⟨some 42, .build [(.sl true [] .full), (.sl true [] .full), (.p (.int .i64 0)), (.p (.int .i64 0)), (.p (.int .i64 0)), (.p (.int .i64 0))] [], some (41, true)⟩,
   ⟨some 43, .mov (.t 3), some (41, true)⟩,
   ⟨some 44, .call 7 [(.t 42), (.t 43), (.v (.sl true [] .full))], some (41, true)⟩,
   ⟨some 45, .lenS (.t 44), some (41, true)⟩,
   ⟨some 46, .arith .eql (.t 45) (.v (.p (.int .i64 0))), some (41, true)⟩,
   ⟨some 47, .pick (.t 41) (.t 46) (.v (.p (.bool false))), none⟩,
   ⟨some 48, .mov (.t 47), none⟩,
   ⟨some 49, .mov (.t 5), some (48, true)⟩,
   ⟨some 50, .call 15 [(.t 49)], some (48, true)⟩,
   ⟨some 51, .not (.t 50), some (48, true)⟩,
   ⟨some 52, .pick (.t 48) (.t 51) (.v (.p (.bool false))), none⟩,
   ⟨some 53, .mov (.t 52), none⟩,
   ⟨some 54, .loadA 2 (.t 1), some (53, true)⟩,
   ⟨some 55, .loadA 2 (.t 2), some (53, true)⟩,
   ⟨some 56, .build [(.p (.int .i64 0)), (.p (.int .i64 0)), (.p (.int .i64 0)), (.p (.int .i64 0))] [(0, 2, (.t 54)), (2, 2, (.t 55))], some (53, true)⟩,
   ⟨some 57, .loadA 2 (.t 2), some (53, true)⟩,
   ⟨some 58, .loadA 2 (.t 1), some (53, true)⟩,
   ⟨some 59, .build [(.p (.int .i64 0)), (.p (.int .i64 0)), (.p (.int .i64 0)), (.p (.int .i64 0))] [(0, 2, (.t 57)), (2, 2, (.t 58))], some (53, true)⟩,
   ⟨some 60, .bslice 4 [(.p (.int .i64 0)), (.p (.int .i64 0)), (.p (.int .i64 0)), (.p (.int .i64 0))] 2 [(0, 4, (.t 56)), (4, 4, (.t 59))], some (53, true)⟩,
   ⟨some 61, .call 15 [(.t 60)], some (53, true)⟩,
   ⟨some 62, .pick (.t 53) (.t 61) (.v (.p (.bool false))), none⟩,
   ⟨some 63, .mov (.t 62), none⟩,
   ⟨some 64, .mov (.t 5), some (63, true)⟩,
   ⟨some 65, .iadrS 4 (.t 64) (.v (.p (.int .i64 0))), some (63, true)⟩,
   ⟨some 66, .loadA 4 (.t 65), some (63, true)⟩,
   ⟨some 67, .loadA 2 (.t 1), some (63, true)⟩,
   ⟨some 68, .loadA 2 (.t 2), some (63, true)⟩,
   ⟨some 69, .build [(.p (.int .i64 0)), (.p (.int .i64 0)), (.p (.int .i64 0)), (.p (.int .i64 0))] [(0, 2, (.t 67)), (2, 2, (.t 68))], some (63, true)⟩,
   ⟨some 70, .call 9 [(.t 66), (.t 69)], some (63, true)⟩,
   ⟨some 71, .arith .eql (.t 70) (.v (.p (.int .i64 1))), some (63, true)⟩,
   ⟨some 72, .pick (.t 63) (.t 71) (.v (.p (.bool false))), none⟩,
   ⟨some 0, .mov (.t 72), none⟩])
 (.ret))))))⟩
theorem cP6 : compFunc Try.prog [] 6 = some aP6 := by kernel_rfl

def aP7 : AFunc := ⟨58, [.tmp 6],
 .seq (.reg [⟨some 3, .box (.t 0), none⟩,
   ⟨some 6, .mov (.v (.sl true [] .full)), none⟩])
 (.seq (.seq (.reg [⟨some 14, .mov (.t 1), none⟩,
   ⟨some 15, .lenS (.t 14), none⟩,
   ⟨some 16, .mov (.t 2), none⟩,
   ⟨some 17, .lenS (.t 16), none⟩,
   ⟨some 18, .arith .neq (.t 15) (.t 17), none⟩])
 (.cond (.t 18)
  (.seq (.reg [⟨some 6, .mov (.v (.sl true [] .full)), none⟩])
   (.ret))
  (.skip)))
 (.seq (.reg [⟨some 19, .mkfn 17 [(.t 3)], none⟩,
   ⟨some 7, .mov (.t 19), none⟩])
 (.seq (.reg [⟨some 8, .mov (.v (.sl true [] .full)), none⟩])
 (.seq (.seq (.reg [⟨some 20, .mov (.t 1), none⟩,
   ⟨some 21, .lenS (.t 20), none⟩,
   ⟨some 22, .mov (.v (.p (.int .i64 0))), none⟩])
 (.block 0 (.loop (.seq (.reg [⟨some 23, .arith .lss (.t 22) (.t 21), none⟩])
   (.seq (.cond (.t 23)
    (.skip)
    (.exit 0))
   (.seq (.block 1 (.seq (.reg [⟨some 24, .mov (.t 22), none⟩,
      ⟨some 25, .iadrS 6 (.t 20) (.t 22), none⟩,
      ⟨some 26, .loadA 6 (.t 25), none⟩,
      ⟨some 10, .alloc [(.p (.int .i64 0)), (.p (.int .i64 0)), (.p (.int .i64 0)), (.p (.int .i64 0)), (.p (.int .i64 0)), (.p (.int .i64 0))], none⟩,
      ⟨some 9, .mov (.t 24), none⟩,
      ⟨none, .store 6 (.t 10) (.t 26), none⟩])
    (.seq (.drawn .same [] [⟨some 27, .mov (.t 7), none⟩,
      ⟨some 28, .mov (.t 2), none⟩,
      ⟨some 29, .mov (.t 9), none⟩,
      ⟨some 30, .iadrS 4 (.t 28) (.t 29), none⟩,
      ⟨some 31, .fadr 0 (.t 30), none⟩,
      ⟨some 32, .loadA 2 (.t 31), none⟩,
      ⟨some 33, .callv (.t 27) [(.t 32)], none⟩,
      ⟨some 34, .mov (.t 7), none⟩,
      ⟨some 35, .mov (.t 2), none⟩,
      ⟨some 36, .mov (.t 9), none⟩,
      ⟨some 37, .iadrS 4 (.t 35) (.t 36), none⟩,
      ⟨some 38, .fadr 2 (.t 37), none⟩,
      ⟨some 39, .loadA 2 (.t 38), none⟩,
      ⟨some 40, .callv (.t 34) [(.t 39)], none⟩,
      ⟨some 11, .mov (.t 33), none⟩,
      ⟨some 12, .mov (.t 40), none⟩])
    (.seq (.seq (.reg [⟨some 41, .mov (.t 11), none⟩,
      ⟨some 42, .mov (.t 12), none⟩,
      ⟨some 43, .eqB false (.t 41) (.t 42), none⟩])
    (.cond (.t 43)
     (.exit 1)
     (.skip)))
    (.seq (.reg [⟨some 13, .mov (.v (.fn 19 [])), none⟩])
    (.seq (.seq (.reg [⟨some 44, .mov (.t 12), none⟩])
    (.cond (.t 44)
     (.reg [⟨some 13, .mov (.v (.fn 20 [])), none⟩])
     (.skip)))
    (.reg [⟨some 45, .mov (.t 8), none⟩,
      ⟨some 46, .mov (.t 13), none⟩,
      ⟨some 47, .fadr 0 (.t 10), none⟩,
      ⟨some 48, .loadA 2 (.t 47), none⟩,
      ⟨some 49, .fadr 2 (.t 10), none⟩,
      ⟨some 50, .loadA 2 (.t 49), none⟩,
      ⟨some 51, .build [(.p (.int .i64 0)), (.p (.int .i64 0)), (.p (.int .i64 0)), (.p (.int .i64 0))] [(0, 2, (.t 48)), (2, 2, (.t 50))], none⟩,
      ⟨some 52, .callv (.t 46) [(.t 51)], none⟩,
      ⟨some 53, .bslice 4 [(.p (.int .i64 0)), (.p (.int .i64 0)), (.p (.int .i64 0)), (.p (.int .i64 0))] 1 [(0, 4, (.t 52))], none⟩,
      ⟨some 54, .append 4 32 (.t 45) (.t 53), none⟩,
      ⟨some 8, .mov (.t 54), none⟩])))))))
   (.reg [⟨some 55, .arith .add (.t 22) (.v (.p (.int .i64 1))), none⟩,
     ⟨some 22, .mov (.t 55), none⟩])))))))
 (.seq (.reg [⟨some 56, .mov (.t 8), none⟩,
   ⟨some 57, .call 21 [(.t 56), (.v (.fn 22 []))], none⟩,
   ⟨some 6, .mov (.t 57), none⟩])
 (.ret))))))⟩
theorem cP7 : compFunc Try.prog [8] 7 = some aP7 := by kernel_rfl

def aP9 : AFunc := ⟨17, [.tmp 4],
 .seq (.reg [⟨some 2, .box (.t 0), none⟩,
   ⟨some 3, .box (.t 1), none⟩,
   ⟨some 4, .mov (.v (.p (.int .i64 0))), none⟩])
 (.seq (.drawn .univ [] [⟨some 5, .fadr 0 (.t 2), none⟩,
   ⟨some 6, .loadA 2 (.t 5), none⟩,
   ⟨some 7, .fadr 0 (.t 3), none⟩,
   ⟨some 8, .loadA 2 (.t 7), none⟩,
   ⟨some 9, .call 24 [(.t 6), (.t 8)], none⟩,
   ⟨some 10, .fadr 2 (.t 2), none⟩,
   ⟨some 11, .loadA 2 (.t 10), none⟩,
   ⟨some 12, .fadr 2 (.t 3), none⟩,
   ⟨some 13, .loadA 2 (.t 12), none⟩,
   ⟨some 14, .call 24 [(.t 11), (.t 13)], none⟩,
   ⟨some 15, .bslice 1 [(.p (.int .i64 0))] 2 [(0, 1, (.t 9)), (1, 1, (.t 14))], none⟩,
   ⟨some 16, .call 23 [(.t 15)], none⟩,
   ⟨some 4, .mov (.t 16), none⟩])
 (.ret))⟩
theorem cP9 : compFunc Try.prog [] 9 = some aP9 := by kernel_rfl

def aP10 : AFunc := ⟨26, [.tmp 4],
 .seq (.reg [⟨some 4, .mov (.v (.p (.bool false))), none⟩])
 (.seq (.seq (.reg [⟨some 6, .mov (.t 0), none⟩,
   ⟨some 7, .lenS (.t 6), none⟩,
   ⟨some 8, .mov (.t 1), none⟩,
   ⟨some 9, .lenS (.t 8), none⟩,
   ⟨some 10, .arith .neq (.t 7) (.t 9), none⟩])
 (.cond (.t 10)
  (.seq (.reg [⟨some 4, .mov (.v (.p (.bool false))), none⟩])
   (.ret))
  (.skip)))
 (.seq (.seq (.reg [⟨some 5, .mov (.v (.p (.int .i64 0))), none⟩])
 (.block 0 (.loop (.seq (.seq (.reg [⟨some 11, .mov (.t 5), none⟩,
     ⟨some 12, .mov (.t 0), none⟩,
     ⟨some 13, .lenS (.t 12), none⟩,
     ⟨some 14, .arith .lss (.t 11) (.t 13), none⟩])
   (.cond (.t 14)
    (.skip)
    (.exit 0)))
   (.seq (.block 1 (.seq (.drawn .univ [] [⟨some 17, .mov (.t 0), none⟩,
      ⟨some 18, .mov (.t 5), none⟩,
      ⟨some 19, .iadrS 4 (.t 17) (.t 18), none⟩,
      ⟨some 20, .loadA 4 (.t 19), none⟩,
      ⟨some 21, .mov (.t 1), none⟩,
      ⟨some 22, .mov (.t 5), none⟩,
      ⟨some 23, .iadrS 4 (.t 21) (.t 22), none⟩,
      ⟨some 24, .loadA 4 (.t 23), none⟩,
      ⟨some 25, .eqA [some .i64, some .i64, some .i64, some .i64] true (.t 20) (.t 24), none⟩])
    (.cond (.t 25)
     (.seq (.reg [⟨some 4, .mov (.v (.p (.bool false))), none⟩])
      (.ret))
     (.skip))))
   (.reg [⟨some 15, .mov (.t 5), none⟩,
     ⟨some 16, .arith .add (.t 15) (.v (.p (.int .i64 1))), none⟩,
     ⟨some 5, .mov (.t 16), none⟩]))))))
 (.seq (.reg [⟨some 4, .mov (.v (.p (.bool true))), none⟩])
 (.ret))))⟩
theorem cP10 : compFunc Try.prog [] 10 = some aP10 := by kernel_rfl

def aP11 : AFunc := ⟨22, [.tmp 2],
 .seq (.reg [⟨some 2, .mov (.v (.sl true [] .full)), none⟩])
 (.seq (.reg [⟨some 3, .mov (.v (.sl true [] .full)), none⟩])
 (.seq (.seq (.reg [⟨some 6, .mov (.t 0), none⟩,
   ⟨some 7, .lenS (.t 6), none⟩,
   ⟨some 8, .mov (.v (.p (.int .i64 0))), none⟩])
 (.block 0 (.loop (.seq (.reg [⟨some 9, .arith .lss (.t 8) (.t 7), none⟩])
   (.seq (.cond (.t 9)
    (.skip)
    (.exit 0))
   (.seq (.block 1 (.seq (.reg [⟨some 10, .iadrS 4 (.t 6) (.t 8), none⟩,
      ⟨some 11, .loadA 4 (.t 10), none⟩,
      ⟨some 5, .alloc [(.p (.int .i64 0)), (.p (.int .i64 0)), (.p (.int .i64 0)), (.p (.int .i64 0))], none⟩,
      ⟨none, .store 4 (.t 5) (.t 11), none⟩])
    (.reg [⟨some 12, .mov (.t 3), none⟩,
      ⟨some 13, .fadr 0 (.t 5), none⟩,
      ⟨some 14, .loadA 2 (.t 13), none⟩,
      ⟨some 15, .fadr 2 (.t 5), none⟩,
      ⟨some 16, .loadA 2 (.t 15), none⟩,
      ⟨some 17, .build [(.p (.int .i64 0)), (.p (.int .i64 0)), (.p (.int .i64 0)), (.p (.int .i64 0))] [(0, 2, (.t 14)), (2, 2, (.t 16))], none⟩,
      ⟨some 18, .bslice 4 [(.p (.int .i64 0)), (.p (.int .i64 0)), (.p (.int .i64 0)), (.p (.int .i64 0))] 1 [(0, 4, (.t 17))], none⟩,
      ⟨some 19, .append 4 32 (.t 12) (.t 18), none⟩,
      ⟨some 3, .mov (.t 19), none⟩])))
   (.reg [⟨some 20, .arith .add (.t 8) (.v (.p (.int .i64 1))), none⟩,
     ⟨some 8, .mov (.t 20), none⟩])))))))
 (.seq (.reg [⟨some 21, .mov (.t 3), none⟩,
   ⟨some 2, .mov (.t 21), none⟩])
 (.ret))))⟩
theorem cP11 : compFunc Try.prog [] 11 = some aP11 := by kernel_rfl

def aP12 : AFunc := ⟨73, [.tmp 6],
 .seq (.reg [⟨some 3, .box (.t 0), none⟩,
   ⟨some 6, .mov (.v (.sl true [] .full)), none⟩])
 (.seq (.seq (.reg [⟨some 11, .mov (.t 1), none⟩,
   ⟨some 12, .lenS (.t 11), none⟩,
   ⟨some 13, .mov (.t 2), none⟩,
   ⟨some 14, .lenS (.t 13), none⟩,
   ⟨some 15, .arith .neq (.t 12) (.t 14), none⟩])
 (.cond (.t 15)
  (.seq (.reg [⟨some 6, .mov (.v (.sl true [] .full)), none⟩])
   (.ret))
  (.skip)))
 (.seq (.reg [⟨some 7, .mov (.v (.sl true [] .full)), none⟩])
 (.seq (.seq (.reg [⟨some 8, .mov (.v (.p (.int .i64 0))), none⟩])
 (.block 0 (.loop (.seq (.seq (.reg [⟨some 16, .mov (.t 8), none⟩,
     ⟨some 17, .mov (.t 1), none⟩,
     ⟨some 18, .lenS (.t 17), none⟩,
     ⟨some 19, .arith .lss (.t 16) (.t 18), none⟩])
   (.cond (.t 19)
    (.skip)
    (.exit 0)))
   (.seq (.block 1 (.seq (.drawn .univ [] [⟨some 22, .loadA 6 (.t 3), none⟩,
      ⟨some 23, .mov (.t 2), none⟩,
      ⟨some 24, .mov (.t 8), none⟩,
      ⟨some 25, .iadrS 4 (.t 23) (.t 24), none⟩,
      ⟨some 26, .fadr 0 (.t 25), none⟩,
      ⟨some 27, .loadA 2 (.t 26), none⟩,
      ⟨some 28, .call 25 [(.t 22), (.t 27)], none⟩,
      ⟨some 9, .mov (.t 28), none⟩])
    (.seq (.drawn .univ [] [⟨some 29, .loadA 6 (.t 3), none⟩,
      ⟨some 30, .mov (.t 2), none⟩,
      ⟨some 31, .mov (.t 8), none⟩,
      ⟨some 32, .iadrS 4 (.t 30) (.t 31), none⟩,
      ⟨some 33, .fadr 2 (.t 32), none⟩,
      ⟨some 34, .loadA 2 (.t 33), none⟩,
      ⟨some 35, .call 25 [(.t 29), (.t 34)], none⟩,
      ⟨some 10, .mov (.t 35), none⟩])
    (.seq (.seq (.reg [⟨some 36, .mov (.t 9), none⟩,
      ⟨some 37, .mov (.t 36), none⟩,
      ⟨some 38, .mov (.t 10), some (37, true)⟩,
      ⟨some 39, .not (.t 38), some (37, true)⟩,
      ⟨some 40, .pick (.t 37) (.t 39) (.v (.p (.bool false))), none⟩])
    (.cond (.t 40)
     (.drawn .univ [] [⟨some 41, .mov (.t 7), none⟩,
        ⟨some 42, .mov (.t 1), none⟩,
        ⟨some 43, .mov (.t 8), none⟩,
        ⟨some 44, .iadrS 6 (.t 42) (.t 43), none⟩,
        ⟨some 45, .fadr 0 (.t 44), none⟩,
        ⟨some 46, .loadA 2 (.t 45), none⟩,
        ⟨some 47, .mov (.t 1), none⟩,
        ⟨some 48, .mov (.t 8), none⟩,
        ⟨some 49, .iadrS 6 (.t 47) (.t 48), none⟩,
        ⟨some 50, .fadr 2 (.t 49), none⟩,
        ⟨some 51, .loadA 2 (.t 50), none⟩,
        ⟨some 52, .build [(.p (.int .i64 0)), (.p (.int .i64 0)), (.p (.int .i64 0)), (.p (.int .i64 0))] [(0, 2, (.t 46)), (2, 2, (.t 51))], none⟩,
        ⟨some 53, .call 26 [(.t 41), (.t 52)], none⟩,
        ⟨some 7, .mov (.t 53), none⟩])
     (.skip)))
    (.seq (.reg [⟨some 54, .mov (.t 10), none⟩,
      ⟨some 55, .mov (.t 54), none⟩,
      ⟨some 56, .mov (.t 9), some (55, true)⟩,
      ⟨some 57, .not (.t 56), some (55, true)⟩,
      ⟨some 58, .pick (.t 55) (.t 57) (.v (.p (.bool false))), none⟩])
    (.cond (.t 58)
     (.drawn .univ [] [⟨some 59, .mov (.t 7), none⟩,
        ⟨some 60, .mov (.t 1), none⟩,
        ⟨some 61, .mov (.t 8), none⟩,
        ⟨some 62, .iadrS 6 (.t 60) (.t 61), none⟩,
        ⟨some 63, .fadr 2 (.t 62), none⟩,
        ⟨some 64, .loadA 2 (.t 63), none⟩,
        ⟨some 65, .mov (.t 1), none⟩,
        ⟨some 66, .mov (.t 8), none⟩,
        ⟨some 67, .iadrS 6 (.t 65) (.t 66), none⟩,
        ⟨some 68, .fadr 0 (.t 67), none⟩,
        ⟨some 69, .loadA 2 (.t 68), none⟩,
        ⟨some 70, .build [(.p (.int .i64 0)), (.p (.int .i64 0)), (.p (.int .i64 0)), (.p (.int .i64 0))] [(0, 2, (.t 64)), (2, 2, (.t 69))], none⟩,
        ⟨some 71, .call 26 [(.t 59), (.t 70)], none⟩,
        ⟨some 7, .mov (.t 71), none⟩])
     (.skip)))))))
   (.reg [⟨some 20, .mov (.t 8), none⟩,
     ⟨some 21, .arith .add (.t 20) (.v (.p (.int .i64 1))), none⟩,
     ⟨some 8, .mov (.t 21), none⟩]))))))
 (.seq (.reg [⟨some 72, .mov (.t 7), none⟩,
   ⟨some 6, .mov (.t 72), none⟩])
 (.ret)))))⟩
theorem cP12 : compFunc Try.prog [] 12 = some aP12 := by kernel_rfl

def aP13 : AFunc := ⟨22, [.tmp 2],
 .seq (.reg [⟨some 2, .mov (.v (.sl true [] .full)), none⟩])
 (.seq (.reg [⟨some 3, .mov (.v (.sl true [] .full)), none⟩])
 (.seq (.seq (.reg [⟨some 6, .mov (.t 0), none⟩,
   ⟨some 7, .lenS (.t 6), none⟩,
   ⟨some 8, .mov (.v (.p (.int .i64 0))), none⟩])
 (.block 0 (.loop (.seq (.reg [⟨some 9, .arith .lss (.t 8) (.t 7), none⟩])
   (.seq (.cond (.t 9)
    (.skip)
    (.exit 0))
   (.seq (.block 1 (.seq (.reg [⟨some 10, .iadrS 4 (.t 6) (.t 8), none⟩,
      ⟨some 11, .loadA 4 (.t 10), none⟩,
      ⟨some 5, .alloc [(.p (.int .i64 0)), (.p (.int .i64 0)), (.p (.int .i64 0)), (.p (.int .i64 0))], none⟩,
      ⟨none, .store 4 (.t 5) (.t 11), none⟩])
    (.reg [⟨some 12, .mov (.t 3), none⟩,
      ⟨some 13, .fadr 0 (.t 5), none⟩,
      ⟨some 14, .loadA 2 (.t 13), none⟩,
      ⟨some 15, .fadr 2 (.t 5), none⟩,
      ⟨some 16, .loadA 2 (.t 15), none⟩,
      ⟨some 17, .build [(.p (.int .i64 0)), (.p (.int .i64 0)), (.p (.int .i64 0)), (.p (.int .i64 0))] [(0, 2, (.t 14)), (2, 2, (.t 16))], none⟩,
      ⟨some 18, .bslice 4 [(.p (.int .i64 0)), (.p (.int .i64 0)), (.p (.int .i64 0)), (.p (.int .i64 0))] 1 [(0, 4, (.t 17))], none⟩,
      ⟨some 19, .append 4 32 (.t 12) (.t 18), none⟩,
      ⟨some 3, .mov (.t 19), none⟩])))
   (.reg [⟨some 20, .arith .add (.t 8) (.v (.p (.int .i64 1))), none⟩,
     ⟨some 8, .mov (.t 20), none⟩])))))))
 (.seq (.reg [⟨some 21, .mov (.t 3), none⟩,
   ⟨some 2, .mov (.t 21), none⟩])
 (.ret))))⟩
theorem cP13 : compFunc Try.prog [] 13 = some aP13 := by kernel_rfl

def aP14 : AFunc := ⟨24, [.tmp 4],
 .seq (.reg [⟨some 2, .box (.t 0), none⟩,
   ⟨some 3, .box (.t 1), none⟩,
   ⟨some 4, .mov (.v (.p (.bool false))), none⟩])
 (.seq (.reg [⟨some 5, .fadr 0 (.t 2), none⟩,
   ⟨some 6, .loadA 2 (.t 5), none⟩,
   ⟨some 7, .fadr 0 (.t 3), none⟩,
   ⟨some 8, .loadA 2 (.t 7), none⟩,
   ⟨some 9, .call 27 [(.t 6), (.t 8)], none⟩,
   ⟨some 10, .mov (.t 9), none⟩,
   ⟨some 11, .fadr 0 (.t 2), some (10, false)⟩,
   ⟨some 12, .loadA 2 (.t 11), some (10, false)⟩,
   ⟨some 13, .fadr 0 (.t 3), some (10, false)⟩,
   ⟨some 14, .loadA 2 (.t 13), some (10, false)⟩,
   ⟨some 15, .eqA [some .i64, some .i64] false (.t 12) (.t 14), some (10, false)⟩,
   ⟨some 16, .mov (.t 15), some (10, false)⟩,
   ⟨some 17, .fadr 2 (.t 2), some (16, true)⟩,
   ⟨some 18, .loadA 2 (.t 17), some (16, true)⟩,
   ⟨some 19, .fadr 2 (.t 3), some (16, true)⟩,
   ⟨some 20, .loadA 2 (.t 19), some (16, true)⟩,
   ⟨some 21, .call 27 [(.t 18), (.t 20)], some (16, true)⟩,
   ⟨some 22, .pick (.t 16) (.t 21) (.v (.p (.bool false))), some (10, false)⟩,
   ⟨some 23, .pick (.t 10) (.v (.p (.bool true))) (.t 22), none⟩,
   ⟨some 4, .mov (.t 23), none⟩])
 (.ret))⟩
theorem cP14 : compFunc Try.prog [] 14 = some aP14 := by kernel_rfl

def aP15 : AFunc := ⟨38, [.tmp 2],
 .seq (.reg [⟨some 2, .mov (.v (.p (.bool false))), none⟩])
 (.seq (.reg [⟨some 8, .mp (.mk 2 (.p (.int .i64 0))), none⟩,
   ⟨some 3, .mov (.t 8), none⟩])
 (.seq (.seq (.reg [⟨some 9, .mov (.t 0), none⟩,
   ⟨some 10, .lenS (.t 9), none⟩,
   ⟨some 11, .mov (.v (.p (.int .i64 0))), none⟩])
 (.block 0 (.loop (.seq (.reg [⟨some 12, .arith .lss (.t 11) (.t 10), none⟩])
   (.seq (.cond (.t 12)
    (.skip)
    (.exit 0))
   (.seq (.block 1 (.seq (.reg [⟨some 13, .iadrS 4 (.t 9) (.t 11), none⟩,
      ⟨some 14, .loadA 4 (.t 13), none⟩,
      ⟨some 5, .alloc [(.p (.int .i64 0)), (.p (.int .i64 0)), (.p (.int .i64 0)), (.p (.int .i64 0))], none⟩,
      ⟨none, .store 4 (.t 5) (.t 14), none⟩])
    (.seq (.drawn .univ [] [⟨some 15, .mov (.t 3), none⟩,
      ⟨some 16, .fadr 0 (.t 5), none⟩,
      ⟨some 17, .loadA 2 (.t 16), none⟩,
      ⟨some 18, .mp (.look 2 (.p (.int .i64 0)) (.t 15) (.t 17)), none⟩,
      ⟨some 19, .arith .add (.t 18) (.v (.p (.int .i64 1))), none⟩,
      ⟨some 20, .mp (.ent 2 (.p (.int .i64 0)) (.t 15) (.t 17)), none⟩,
      ⟨some 21, .ext 1 (.t 20), none⟩,
      ⟨none, .mp (.set (.t 15) (.t 21) (.t 19)), none⟩])
    (.drawn .univ [] [⟨some 22, .mov (.t 3), none⟩,
      ⟨some 23, .fadr 2 (.t 5), none⟩,
      ⟨some 24, .loadA 2 (.t 23), none⟩,
      ⟨some 25, .mp (.look 2 (.p (.int .i64 0)) (.t 22) (.t 24)), none⟩,
      ⟨some 26, .arith .sub (.t 25) (.v (.p (.int .i64 1))), none⟩,
      ⟨some 27, .mp (.ent 2 (.p (.int .i64 0)) (.t 22) (.t 24)), none⟩,
      ⟨some 28, .ext 1 (.t 27), none⟩,
      ⟨none, .mp (.set (.t 22) (.t 28) (.t 26)), none⟩]))))
   (.reg [⟨some 29, .arith .add (.t 11) (.v (.p (.int .i64 1))), none⟩,
     ⟨some 11, .mov (.t 29), none⟩])))))))
 (.seq (.seq (.reg [⟨some 30, .mov (.t 3), none⟩,
   ⟨some 31, .mp (.range (.t 30)), none⟩])
 (.block 2 (.loop (.seq (.reg [⟨some 32, .mp (.nxt (.t 31)), none⟩,
     ⟨some 33, .ext 0 (.t 32), none⟩])
   (.seq (.cond (.t 33)
    (.skip)
    (.exit 2))
   (.block 3 (.seq (.reg [⟨some 34, .mp (.entry (.t 31)), none⟩,
      ⟨some 35, .ext 1 (.t 34), none⟩,
      ⟨some 7, .mov (.t 35), none⟩])
    (.seq (.reg [⟨some 36, .mov (.t 7), none⟩,
      ⟨some 37, .arith .neq (.t 36) (.v (.p (.int .i64 0))), none⟩])
    (.cond (.t 37)
     (.seq (.reg [⟨some 2, .mov (.v (.p (.bool false))), none⟩])
      (.ret))
     (.skip))))))))))
 (.seq (.reg [⟨some 2, .mov (.v (.p (.bool true))), none⟩])
 (.ret)))))⟩
theorem cP15 : compFunc Try.prog [] 15 = some aP15 := by kernel_rfl

def aP16 : AFunc := ⟨55, [.tmp 2],
 .seq (.reg [⟨some 2, .mov (.v (.p (.bool false))), none⟩])
 (.seq (.seq (.reg [⟨some 3, .mov (.v (.p (.int .i64 0))), none⟩])
 (.block 0 (.loop (.seq (.seq (.reg [⟨some 7, .mov (.t 3), none⟩,
     ⟨some 8, .mov (.t 0), none⟩,
     ⟨some 9, .lenS (.t 8), none⟩,
     ⟨some 10, .arith .mul (.v (.p (.int .i64 2))) (.t 9), none⟩,
     ⟨some 11, .arith .lss (.t 7) (.t 10), none⟩])
   (.cond (.t 11)
    (.skip)
    (.exit 0)))
   (.seq (.block 1 (.seq (.reg [⟨some 14, .mov (.t 0), none⟩,
      ⟨some 15, .mov (.t 3), none⟩,
      ⟨some 16, .arith .quo (.t 15) (.v (.p (.int .i64 2))), none⟩,
      ⟨some 17, .iadrS 4 (.t 14) (.t 16), none⟩,
      ⟨some 18, .fadr 0 (.t 17), none⟩,
      ⟨some 19, .loadA 2 (.t 18), none⟩,
      ⟨some 4, .alloc [(.p (.int .i64 0)), (.p (.int .i64 0))], none⟩,
      ⟨none, .store 2 (.t 4) (.t 19), none⟩])
    (.seq (.seq (.reg [⟨some 20, .mov (.t 3), none⟩,
      ⟨some 21, .arith .rem (.t 20) (.v (.p (.int .i64 2))), none⟩,
      ⟨some 22, .arith .eql (.t 21) (.v (.p (.int .i64 1))), none⟩])
    (.cond (.t 22)
     (.reg [⟨some 23, .mov (.t 0), none⟩,
        ⟨some 24, .mov (.t 3), none⟩,
        ⟨some 25, .arith .quo (.t 24) (.v (.p (.int .i64 2))), none⟩,
        ⟨some 26, .iadrS 4 (.t 23) (.t 25), none⟩,
        ⟨some 27, .fadr 2 (.t 26), none⟩,
        ⟨some 28, .loadA 2 (.t 27), none⟩,
        ⟨none, .store 2 (.t 4) (.t 28), none⟩])
     (.skip)))
    (.seq (.reg [⟨some 5, .mov (.v (.p (.int .i64 0))), none⟩])
    (.seq (.seq (.reg [⟨some 6, .mov (.v (.p (.int .i64 0))), none⟩])
    (.block 2 (.loop (.seq (.seq (.reg [⟨some 29, .mov (.t 6), none⟩,
        ⟨some 30, .mov (.t 0), none⟩,
        ⟨some 31, .lenS (.t 30), none⟩,
        ⟨some 32, .arith .lss (.t 29) (.t 31), none⟩])
      (.cond (.t 32)
       (.skip)
       (.exit 2)))
      (.seq (.block 3 (.seq (.seq (.drawn .univ [] [⟨some 35, .mov (.t 0), none⟩,
         ⟨some 36, .mov (.t 6), none⟩,
         ⟨some 37, .iadrS 4 (.t 35) (.t 36), none⟩,
         ⟨some 38, .fadr 0 (.t 37), none⟩,
         ⟨some 39, .loadA 2 (.t 38), none⟩,
         ⟨some 40, .loadA 2 (.t 4), none⟩,
         ⟨some 41, .eqA [some .i64, some .i64] false (.t 39) (.t 40), none⟩])
       (.cond (.t 41)
        (.reg [⟨some 42, .mov (.t 5), none⟩,
           ⟨some 43, .arith .add (.t 42) (.v (.p (.int .i64 1))), none⟩,
           ⟨some 5, .mov (.t 43), none⟩])
        (.skip)))
       (.seq (.drawn .univ [] [⟨some 44, .mov (.t 0), none⟩,
         ⟨some 45, .mov (.t 6), none⟩,
         ⟨some 46, .iadrS 4 (.t 44) (.t 45), none⟩,
         ⟨some 47, .fadr 2 (.t 46), none⟩,
         ⟨some 48, .loadA 2 (.t 47), none⟩,
         ⟨some 49, .loadA 2 (.t 4), none⟩,
         ⟨some 50, .eqA [some .i64, some .i64] false (.t 48) (.t 49), none⟩])
       (.cond (.t 50)
        (.reg [⟨some 51, .mov (.t 5), none⟩,
           ⟨some 52, .arith .sub (.t 51) (.v (.p (.int .i64 1))), none⟩,
           ⟨some 5, .mov (.t 52), none⟩])
        (.skip)))))
      (.reg [⟨some 33, .mov (.t 6), none⟩,
        ⟨some 34, .arith .add (.t 33) (.v (.p (.int .i64 1))), none⟩,
        ⟨some 6, .mov (.t 34), none⟩]))))))
    (.seq (.reg [⟨some 53, .mov (.t 5), none⟩,
      ⟨some 54, .arith .neq (.t 53) (.v (.p (.int .i64 0))), none⟩])
    (.cond (.t 54)
     (.seq (.reg [⟨some 2, .mov (.v (.p (.bool false))), none⟩])
      (.ret))
     (.skip))))))))
   (.reg [⟨some 12, .mov (.t 3), none⟩,
     ⟨some 13, .arith .add (.t 12) (.v (.p (.int .i64 1))), none⟩,
     ⟨some 3, .mov (.t 13), none⟩]))))))
 (.seq (.reg [⟨some 2, .mov (.v (.p (.bool true))), none⟩])
 (.ret)))⟩
theorem cP16 : compFunc Try.prog [] 16 = some aP16 := by kernel_rfl

def aP17 : AFunc := ⟨10, [.tmp 3],
 .seq (.reg [⟨some 2, .box (.t 0), none⟩,
   ⟨some 3, .mov (.v (.p (.bool false))), none⟩])
 (.seq (.reg [⟨some 4, .loadA 6 (.t 1), none⟩,
   ⟨some 5, .iadrA 2 1 (.t 2) (.v (.p (.int .i64 0))), none⟩,
   ⟨some 6, .load1 (.t 5), none⟩,
   ⟨some 7, .iadrA 2 1 (.t 2) (.v (.p (.int .i64 1))), none⟩,
   ⟨some 8, .load1 (.t 7), none⟩,
   ⟨some 9, .call 18 [(.t 4), (.t 6), (.t 8)], none⟩,
   ⟨some 3, .mov (.t 9), none⟩])
 (.ret))⟩
theorem cP17 : compFunc Try.prog [] 17 = some aP17 := by kernel_rfl

def aP18 : AFunc := ⟨18, [.tmp 6],
 .seq (.reg [⟨some 3, .box (.t 0), none⟩,
   ⟨some 6, .mov (.v (.p (.bool false))), none⟩])
 (.seq (.drawn .univ [] [⟨some 7, .fadr 2 (.t 3), none⟩,
   ⟨some 8, .load1 (.t 7), none⟩,
   ⟨some 9, .fadr 3 (.t 3), none⟩,
   ⟨some 10, .load1 (.t 9), none⟩,
   ⟨some 11, .mov (.t 1), none⟩,
   ⟨some 12, .call 29 [(.t 10), (.t 11)], none⟩,
   ⟨some 13, .fadr 3 (.t 3), none⟩,
   ⟨some 14, .load1 (.t 13), none⟩,
   ⟨some 15, .mov (.t 2), none⟩,
   ⟨some 16, .call 29 [(.t 14), (.t 15)], none⟩,
   ⟨some 17, .call 28 [(.t 8), (.t 12), (.t 16)], none⟩,
   ⟨some 6, .mov (.t 17), none⟩])
 (.ret))⟩
theorem cP18 : compFunc Try.prog [] 18 = some aP18 := by kernel_rfl

def aP19 : AFunc := ⟨4, [.cellA 4 2],
 .seq (.reg [⟨some 1, .box (.t 0), none⟩,
   ⟨some 2, .alloc [(.p (.int .i64 0)), (.p (.int .i64 0)), (.p (.int .i64 0)), (.p (.int .i64 0))], none⟩])
 (.seq (.reg [⟨some 3, .loadA 4 (.t 1), none⟩,
   ⟨none, .store 4 (.t 2) (.t 3), none⟩])
 (.ret))⟩
theorem cP19 : compFunc Try.prog [] 19 = some aP19 := by kernel_rfl

def aP20 : AFunc := ⟨8, [.cellA 4 2],
 .seq (.reg [⟨some 1, .box (.t 0), none⟩,
   ⟨some 2, .alloc [(.p (.int .i64 0)), (.p (.int .i64 0)), (.p (.int .i64 0)), (.p (.int .i64 0))], none⟩])
 (.seq (.reg [⟨some 3, .fadr 2 (.t 1), none⟩,
   ⟨some 4, .loadA 2 (.t 3), none⟩,
   ⟨some 5, .fadr 0 (.t 1), none⟩,
   ⟨some 6, .loadA 2 (.t 5), none⟩,
   ⟨some 7, .build [(.p (.int .i64 0)), (.p (.int .i64 0)), (.p (.int .i64 0)), (.p (.int .i64 0))] [(0, 2, (.t 4)), (2, 2, (.t 6))], none⟩,
   ⟨none, .store 4 (.t 2) (.t 7), none⟩])
 (.ret))⟩
theorem cP20 : compFunc Try.prog [] 20 = some aP20 := by kernel_rfl

def aP21 : AFunc := ⟨27, [.tmp 4],
 .seq (.reg [⟨some 4, .mov (.v (.sl true [] .full)), none⟩])
 (.seq (.seq (.reg [⟨some 6, .mov (.t 0), none⟩,
   ⟨some 7, .lenS (.t 6), none⟩,
   ⟨some 8, .arith .lss (.t 7) (.v (.p (.int .i64 2))), none⟩])
 (.cond (.t 8)
  (.seq (.reg [⟨some 9, .mov (.t 0), none⟩,
     ⟨some 10, .call 30 [(.t 9)], none⟩,
     ⟨some 4, .mov (.t 10), none⟩])
   (.ret))
  (.skip)))
 (.seq (.reg [⟨some 11, .mov (.t 0), none⟩,
   ⟨some 12, .lenS (.t 11), none⟩,
   ⟨some 13, .arith .quo (.t 12) (.v (.p (.int .i64 2))), none⟩,
   ⟨some 5, .mov (.t 13), none⟩])
 (.seq (.drawn .univ [] [⟨some 14, .mov (.t 0), none⟩,
   ⟨some 15, .mov (.t 5), none⟩,
   ⟨some 16, .mov (.t 5), none⟩,
   ⟨some 17, .slice 4 (.t 14) none (some (.t 15)) (some (.t 16)), none⟩,
   ⟨some 18, .mov (.t 1), none⟩,
   ⟨some 19, .call 21 [(.t 17), (.t 18)], none⟩,
   ⟨some 20, .mov (.t 0), none⟩,
   ⟨some 21, .mov (.t 5), none⟩,
   ⟨some 22, .slice 4 (.t 20) (some (.t 21)) none none, none⟩,
   ⟨some 23, .mov (.t 1), none⟩,
   ⟨some 24, .call 21 [(.t 22), (.t 23)], none⟩,
   ⟨some 25, .mov (.t 1), none⟩,
   ⟨some 26, .call 31 [(.t 19), (.t 24), (.t 25)], none⟩,
   ⟨some 4, .mov (.t 26), none⟩])
 (.ret))))⟩
theorem cP21 : compFunc Try.prog [] 21 = some aP21 := by kernel_rfl

def aP22 : AFunc := ⟨9, [.tmp 4],
 .seq (.reg [⟨some 2, .box (.t 0), none⟩,
   ⟨some 3, .box (.t 1), none⟩,
   ⟨some 4, .mov (.v (.p (.bool false))), none⟩])
 (.seq (.reg [⟨some 5, .loadA 4 (.t 2), none⟩,
   ⟨some 6, .loadA 4 (.t 3), none⟩,
   ⟨some 7, .call 9 [(.t 5), (.t 6)], none⟩,
   ⟨some 8, .arith .lss (.t 7) (.v (.p (.int .i64 0))), none⟩,
   ⟨some 4, .mov (.t 8), none⟩])
 (.ret))⟩
theorem cP22 : compFunc Try.prog [] 22 = some aP22 := by kernel_rfl

def aP25 : AFunc := ⟨18, [.tmp 4],
 .seq (.reg [⟨some 2, .box (.t 0), none⟩,
   ⟨some 3, .box (.t 1), none⟩,
   ⟨some 4, .mov (.v (.p (.bool false))), none⟩])
 (.seq (.drawn .univ [] [⟨some 5, .fadr 2 (.t 2), none⟩,
   ⟨some 6, .load1 (.t 5), none⟩,
   ⟨some 7, .fadr 3 (.t 2), none⟩,
   ⟨some 8, .load1 (.t 7), none⟩,
   ⟨some 9, .iadrA 2 1 (.t 3) (.v (.p (.int .i64 0))), none⟩,
   ⟨some 10, .load1 (.t 9), none⟩,
   ⟨some 11, .call 34 [(.t 8), (.t 10)], none⟩,
   ⟨some 12, .fadr 3 (.t 2), none⟩,
   ⟨some 13, .load1 (.t 12), none⟩,
   ⟨some 14, .iadrA 2 1 (.t 3) (.v (.p (.int .i64 1))), none⟩,
   ⟨some 15, .load1 (.t 14), none⟩,
   ⟨some 16, .call 34 [(.t 13), (.t 15)], none⟩,
   ⟨some 17, .call 33 [(.t 6), (.t 11), (.t 16)], none⟩,
   ⟨some 4, .mov (.t 17), none⟩])
 (.ret))⟩
theorem cP25 : compFunc Try.prog [] 25 = some aP25 := by kernel_rfl

def aP26 : AFunc := ⟨42, [.tmp 4],
 .seq (.reg [⟨some 3, .box (.t 1), none⟩,
   ⟨some 4, .mov (.v (.sl true [] .full)), none⟩])
 (.seq (.reg [⟨some 5, .mov (.v (.sl true [] .full)), none⟩])
 (.seq (.reg [⟨some 6, .mov (.v (.p (.bool false))), none⟩])
 (.seq (.seq (.reg [⟨some 7, .mov (.v (.p (.int .i64 0))), none⟩])
 (.block 0 (.loop (.seq (.seq (.reg [⟨some 8, .mov (.t 7), none⟩,
     ⟨some 9, .mov (.t 0), none⟩,
     ⟨some 10, .lenS (.t 9), none⟩,
     ⟨some 11, .arith .lss (.t 8) (.t 10), none⟩])
   (.cond (.t 11)
    (.skip)
    (.exit 0)))
   (.seq (.block 1 (.seq (.seq (.drawn .univ [] [⟨some 14, .mov (.t 6), none⟩,
      ⟨some 15, .not (.t 14), none⟩,
      ⟨some 16, .mov (.t 15), none⟩,
      ⟨some 17, .loadA 4 (.t 3), some (16, true)⟩,
      ⟨some 18, .mov (.t 0), some (16, true)⟩,
      ⟨some 19, .mov (.t 7), some (16, true)⟩,
      ⟨some 20, .iadrS 4 (.t 18) (.t 19), some (16, true)⟩,
      ⟨some 21, .loadA 4 (.t 20), some (16, true)⟩,
      ⟨some 22, .call 14 [(.t 17), (.t 21)], some (16, true)⟩,
      ⟨some 23, .pick (.t 16) (.t 22) (.v (.p (.bool false))), none⟩])
    (.cond (.t 23)
     (.seq (.reg [⟨some 24, .mov (.t 5), none⟩,
        ⟨some 25, .loadA 4 (.t 3), none⟩,
        ⟨some 26, .bslice 4 [(.p (.int .i64 0)), (.p (.int .i64 0)), (.p (.int .i64 0)), (.p (.int .i64 0))] 1 [(0, 4, (.t 25))], none⟩,
        ⟨some 27, .append 4 32 (.t 24) (.t 26), none⟩,
        ⟨some 5, .mov (.t 27), none⟩])
      (.reg [⟨some 6, .mov (.v (.p (.bool true))), none⟩]))
     (.skip)))
    (.reg [⟨some 28, .mov (.t 5), none⟩,
      ⟨some 29, .mov (.t 0), none⟩,
      ⟨some 30, .mov (.t 7), none⟩,
      ⟨some 31, .iadrS 4 (.t 29) (.t 30), none⟩,
      ⟨some 32, .loadA 4 (.t 31), none⟩,
      ⟨some 33, .bslice 4 [(.p (.int .i64 0)), (.p (.int .i64 0)), (.p (.int .i64 0)), (.p (.int .i64 0))] 1 [(0, 4, (.t 32))], none⟩,
      ⟨some 34, .append 4 32 (.t 28) (.t 33), none⟩,
      ⟨some 5, .mov (.t 34), none⟩])))
   (.reg [⟨some 12, .mov (.t 7), none⟩,
     ⟨some 13, .arith .add (.t 12) (.v (.p (.int .i64 1))), none⟩,
     ⟨some 7, .mov (.t 13), none⟩]))))))
 (.seq (.seq (.reg [⟨some 35, .mov (.t 6), none⟩,
   ⟨some 36, .not (.t 35), none⟩])
 (.cond (.t 36)
  (.reg [⟨some 37, .mov (.t 5), none⟩,
     ⟨some 38, .loadA 4 (.t 3), none⟩,
     ⟨some 39, .bslice 4 [(.p (.int .i64 0)), (.p (.int .i64 0)), (.p (.int .i64 0)), (.p (.int .i64 0))] 1 [(0, 4, (.t 38))], none⟩,
     ⟨some 40, .append 4 32 (.t 37) (.t 39), none⟩,
     ⟨some 5, .mov (.t 40), none⟩])
  (.skip)))
 (.seq (.reg [⟨some 41, .mov (.t 5), none⟩,
   ⟨some 4, .mov (.t 41), none⟩])
 (.ret))))))⟩
theorem cP26 : compFunc Try.prog [] 26 = some aP26 := by kernel_rfl

def aP28 : AFunc := ⟨32, [.tmp 6],
 .seq (.reg [⟨some 6, .mov (.v (.p (.bool false))), none⟩])
 (.seq (.seq (.reg [⟨some 7, .mov (.t 0), none⟩])
 (.block 0 (.seq (.reg [⟨some 9, .arith .eql (.t 7) (.v (.p (.int .i64 0))), none⟩,
    ⟨some 8, .mov (.t 9), none⟩])
  (.cond (.t 8)
   (.seq (.reg [⟨some 10, .mov (.t 1), none⟩,
      ⟨some 11, .mov (.t 10), none⟩,
      ⟨some 12, .mov (.t 2), some (11, false)⟩,
      ⟨some 13, .pick (.t 11) (.v (.p (.bool true))) (.t 12), none⟩,
      ⟨some 6, .mov (.t 13), none⟩])
    (.ret))
   (.seq (.reg [⟨some 15, .arith .eql (.t 7) (.v (.p (.int .i64 1))), none⟩,
      ⟨some 14, .mov (.t 15), none⟩])
    (.cond (.t 14)
     (.seq (.reg [⟨some 16, .mov (.t 1), none⟩,
        ⟨some 17, .mov (.t 16), none⟩,
        ⟨some 18, .mov (.t 2), some (17, true)⟩,
        ⟨some 19, .pick (.t 17) (.t 18) (.v (.p (.bool false))), none⟩,
        ⟨some 6, .mov (.t 19), none⟩])
      (.ret))
     (.seq (.reg [⟨some 21, .arith .eql (.t 7) (.v (.p (.int .i64 2))), none⟩,
        ⟨some 20, .mov (.t 21), none⟩])
      (.cond (.t 20)
       (.seq (.reg [⟨some 22, .mov (.t 1), none⟩,
          ⟨some 23, .mov (.t 22), none⟩,
          ⟨some 24, .mov (.t 2), some (23, true)⟩,
          ⟨some 25, .not (.t 24), some (23, true)⟩,
          ⟨some 26, .pick (.t 23) (.t 25) (.v (.p (.bool false))), none⟩,
          ⟨some 6, .mov (.t 26), none⟩])
        (.ret))
       (.seq (.reg [⟨some 28, .arith .eql (.t 7) (.v (.p (.int .i64 3))), none⟩,
          ⟨some 27, .mov (.t 28), none⟩])
        (.cond (.t 27)
         (.seq (.reg [⟨some 29, .mov (.t 1), none⟩,
            ⟨some 30, .mov (.t 2), none⟩,
            ⟨some 31, .eqB true (.t 29) (.t 30), none⟩,
            ⟨some 6, .mov (.t 31), none⟩])
          (.ret))
         (.skip)))))))))))
 (.seq (.reg [⟨some 6, .mov (.v (.p (.bool false))), none⟩])
 (.ret)))⟩
theorem cP28 : compFunc Try.prog [] 28 = some aP28 := by kernel_rfl

def aP29 : AFunc := ⟨20, [.tmp 4],
 .seq (.reg [⟨some 4, .mov (.v (.p (.bool false))), none⟩])
 (.seq (.reg [⟨some 5, .mov (.t 0), none⟩,
   ⟨some 6, .arith .eql (.t 5) (.v (.p (.int .i64 0))), none⟩,
   ⟨some 7, .mov (.t 6), none⟩,
   ⟨some 8, .mov (.t 1), some (7, true)⟩,
   ⟨some 9, .arith .rem (.t 8) (.v (.p (.int .i64 2))), some (7, true)⟩,
   ⟨some 10, .arith .neq (.t 9) (.v (.p (.int .i64 0))), some (7, true)⟩,
   ⟨some 11, .pick (.t 7) (.t 10) (.v (.p (.bool false))), none⟩,
   ⟨some 12, .mov (.t 11), none⟩,
   ⟨some 13, .mov (.t 0), some (12, false)⟩,
   ⟨some 14, .arith .eql (.t 13) (.v (.p (.int .i64 1))), some (12, false)⟩,
   ⟨some 15, .mov (.t 14), some (12, false)⟩,
   ⟨some 16, .mov (.t 1), some (15, true)⟩,
   ⟨some 17, .arith .neq (.t 16) (.v (.p (.int .i64 0))), some (15, true)⟩,
   ⟨some 18, .pick (.t 15) (.t 17) (.v (.p (.bool false))), some (12, false)⟩,
   ⟨some 19, .pick (.t 12) (.v (.p (.bool true))) (.t 18), none⟩,
   ⟨some 4, .mov (.t 19), none⟩])
 (.ret))⟩
theorem cP29 : compFunc Try.prog [] 29 = some aP29 := by kernel_rfl

def aP30 : AFunc := ⟨8, [.tmp 2],
 .seq (.reg [⟨some 2, .mov (.v (.sl true [] .full)), none⟩])
 (.seq (.seq (.reg [⟨some 3, .mov (.t 0), none⟩,
   ⟨some 4, .eqNil 0 false (.t 3) (.v (.sl true [] .full)), none⟩])
 (.cond (.t 4)
  (.seq (.reg [⟨some 2, .mov (.v (.sl true [] .full)), none⟩])
   (.ret))
  (.skip)))
 (.seq (.reg [⟨some 5, .bslice 4 [(.p (.int .i64 0)), (.p (.int .i64 0)), (.p (.int .i64 0)), (.p (.int .i64 0))] 0 [], none⟩,
   ⟨some 6, .mov (.t 0), none⟩,
   ⟨some 7, .append 4 32 (.t 5) (.t 6), none⟩,
   ⟨some 2, .mov (.t 7), none⟩])
 (.ret)))⟩
theorem cP30 : compFunc Try.prog [] 30 = some aP30 := by kernel_rfl

def aP31 : AFunc := ⟨45, [.tmp 6],
 .seq (.reg [⟨some 6, .mov (.v (.sl true [] .full)), none⟩])
 (.seq (.reg [⟨some 7, .mov (.v (.sl true [] .full)), none⟩])
 (.seq (.block 0 (.loop (.seq (.seq (.reg [⟨some 8, .mov (.t 0), none⟩,
     ⟨some 9, .lenS (.t 8), none⟩,
     ⟨some 10, .arith .gtr (.t 9) (.v (.p (.int .i64 0))), none⟩,
     ⟨some 11, .mov (.t 10), none⟩,
     ⟨some 12, .mov (.t 1), some (11, true)⟩,
     ⟨some 13, .lenS (.t 12), some (11, true)⟩,
     ⟨some 14, .arith .gtr (.t 13) (.v (.p (.int .i64 0))), some (11, true)⟩,
     ⟨some 15, .pick (.t 11) (.t 14) (.v (.p (.bool false))), none⟩])
   (.cond (.t 15)
    (.skip)
    (.exit 0)))
   (.block 1 (.seq (.drawn .univ [] [⟨some 16, .mov (.t 2), none⟩,
      ⟨some 17, .mov (.t 1), none⟩,
      ⟨some 18, .iadrS 4 (.t 17) (.v (.p (.int .i64 0))), none⟩,
      ⟨some 19, .loadA 4 (.t 18), none⟩,
      ⟨some 20, .mov (.t 0), none⟩,
      ⟨some 21, .iadrS 4 (.t 20) (.v (.p (.int .i64 0))), none⟩,
      ⟨some 22, .loadA 4 (.t 21), none⟩,
      ⟨some 23, .callv (.t 16) [(.t 19), (.t 22)], none⟩])
    (.cond (.t 23)
     (.drawn .univ [] [⟨some 24, .mov (.t 7), none⟩,
        ⟨some 25, .mov (.t 1), none⟩,
        ⟨some 26, .iadrS 4 (.t 25) (.v (.p (.int .i64 0))), none⟩,
        ⟨some 27, .loadA 4 (.t 26), none⟩,
        ⟨some 28, .bslice 4 [(.p (.int .i64 0)), (.p (.int .i64 0)), (.p (.int .i64 0)), (.p (.int .i64 0))] 1 [(0, 4, (.t 27))], none⟩,
        ⟨some 29, .append 4 32 (.t 24) (.t 28), none⟩,
        ⟨some 30, .mov (.t 1), none⟩,
        ⟨some 31, .slice 4 (.t 30) (some (.v (.p (.int .i64 1)))) none none, none⟩,
        ⟨some 7, .mov (.t 29), none⟩,
        ⟨some 1, .mov (.t 31), none⟩])
     (.drawn .univ [] [⟨some 32, .mov (.t 7), none⟩,
        ⟨some 33, .mov (.t 0), none⟩,
        ⟨some 34, .iadrS 4 (.t 33) (.v (.p (.int .i64 0))), none⟩,
        ⟨some 35, .loadA 4 (.t 34), none⟩,
        ⟨some 36, .bslice 4 [(.p (.int .i64 0)), (.p (.int .i64 0)), (.p (.int .i64 0)), (.p (.int .i64 0))] 1 [(0, 4, (.t 35))], none⟩,
        ⟨some 37, .append 4 32 (.t 32) (.t 36), none⟩,
        ⟨some 38, .mov (.t 0), none⟩,
        ⟨some 39, .slice 4 (.t 38) (some (.v (.p (.int .i64 1)))) none none, none⟩,
        ⟨some 7, .mov (.t 37), none⟩,
        ⟨some 0, .mov (.t 39), none⟩])))))))
 (.seq (.reg [⟨some 40, .mov (.t 7), none⟩,
   ⟨some 41, .mov (.t 0), none⟩,
   ⟨some 42, .append 4 32 (.t 40) (.t 41), none⟩,
   ⟨some 43, .mov (.t 1), none⟩,
   ⟨some 44, .append 4 32 (.t 42) (.t 43), none⟩,
   ⟨some 6, .mov (.t 44), none⟩])
 (.ret))))⟩
theorem cP31 : compFunc Try.prog [] 31 = some aP31 := by kernel_rfl

def aP33 : AFunc := ⟨37, [.tmp 6],
 .seq (.reg [⟨some 6, .mov (.v (.p (.bool false))), none⟩])
 (.seq (.seq (.reg [⟨some 7, .mov (.t 1), none⟩,
   ⟨some 8, .mov (.t 7), none⟩,
   ⟨some 9, .mov (.t 2), some (8, true)⟩,
   ⟨some 10, .pick (.t 8) (.t 9) (.v (.p (.bool false))), none⟩])
 (.cond (.t 10)
  (.seq (.reg [⟨some 11, .mov (.t 0), none⟩,
     ⟨some 12, .arith .eql (.t 11) (.v (.p (.int .i64 0))), none⟩,
     ⟨some 13, .mov (.t 12), none⟩,
     ⟨some 14, .mov (.t 0), some (13, false)⟩,
     ⟨some 15, .arith .eql (.t 14) (.v (.p (.int .i64 1))), some (13, false)⟩,
     ⟨some 16, .pick (.t 13) (.v (.p (.bool true))) (.t 15), none⟩,
     ⟨some 6, .mov (.t 16), none⟩])
   (.ret))
  (.skip)))
 (.seq (.seq (.reg [⟨some 17, .mov (.t 1), none⟩])
 (.cond (.t 17)
  (.seq (.reg [⟨some 18, .mov (.t 0), none⟩,
     ⟨some 19, .arith .eql (.t 18) (.v (.p (.int .i64 0))), none⟩,
     ⟨some 20, .mov (.t 19), none⟩,
     ⟨some 21, .mov (.t 0), some (20, false)⟩,
     ⟨some 22, .arith .eql (.t 21) (.v (.p (.int .i64 2))), some (20, false)⟩,
     ⟨some 23, .pick (.t 20) (.v (.p (.bool true))) (.t 22), none⟩,
     ⟨some 24, .mov (.t 23), none⟩,
     ⟨some 25, .mov (.t 0), some (24, false)⟩,
     ⟨some 26, .arith .eql (.t 25) (.v (.p (.int .i64 3))), some (24, false)⟩,
     ⟨some 27, .pick (.t 24) (.v (.p (.bool true))) (.t 26), none⟩,
     ⟨some 6, .mov (.t 27), none⟩])
   (.ret))
  (.skip)))
 (.seq (.reg [⟨some 28, .mov (.t 2), none⟩,
   ⟨some 29, .mov (.t 28), none⟩,
   ⟨some 30, .mov (.t 0), some (29, true)⟩,
   ⟨some 31, .arith .eql (.t 30) (.v (.p (.int .i64 0))), some (29, true)⟩,
   ⟨some 32, .mov (.t 31), some (29, true)⟩,
   ⟨some 33, .mov (.t 0), some (32, false)⟩,
   ⟨some 34, .arith .eql (.t 33) (.v (.p (.int .i64 3))), some (32, false)⟩,
   ⟨some 35, .pick (.t 32) (.v (.p (.bool true))) (.t 34), some (29, true)⟩,
   ⟨some 36, .pick (.t 29) (.t 35) (.v (.p (.bool false))), none⟩,
   ⟨some 6, .mov (.t 36), none⟩])
 (.ret))))⟩
theorem cP33 : compFunc Try.prog [] 33 = some aP33 := by kernel_rfl

def aP34 : AFunc := ⟨21, [.tmp 4],
 .seq (.reg [⟨some 4, .mov (.v (.p (.bool false))), none⟩])
 (.seq (.seq (.reg [⟨some 5, .mov (.t 0), none⟩,
   ⟨some 6, .arith .eql (.t 5) (.v (.p (.int .i64 0))), none⟩])
 (.cond (.t 6)
  (.seq (.reg [⟨some 7, .mov (.t 1), none⟩,
     ⟨some 8, .arith .rem (.t 7) (.v (.p (.int .i64 2))), none⟩,
     ⟨some 9, .arith .eql (.t 8) (.v (.p (.int .i64 1))), none⟩,
     ⟨some 10, .mov (.t 9), none⟩,
     ⟨some 11, .mov (.t 1), some (10, false)⟩,
     ⟨some 12, .arith .rem (.t 11) (.v (.p (.int .i64 2))), some (10, false)⟩,
     ⟨some 13, .arith .eql (.t 12) (.v (.p (.int .i64 (-1)))), some (10, false)⟩,
     ⟨some 14, .pick (.t 10) (.v (.p (.bool true))) (.t 13), none⟩,
     ⟨some 4, .mov (.t 14), none⟩])
   (.ret))
  (.skip)))
 (.seq (.reg [⟨some 15, .mov (.t 0), none⟩,
   ⟨some 16, .arith .eql (.t 15) (.v (.p (.int .i64 1))), none⟩,
   ⟨some 17, .mov (.t 16), none⟩,
   ⟨some 18, .mov (.t 1), some (17, true)⟩,
   ⟨some 19, .arith .neq (.t 18) (.v (.p (.int .i64 0))), some (17, true)⟩,
   ⟨some 20, .pick (.t 17) (.t 19) (.v (.p (.bool false))), none⟩,
   ⟨some 4, .mov (.t 20), none⟩])
 (.ret)))⟩
theorem cP34 : compFunc Try.prog [] 34 = some aP34 := by kernel_rfl

end Go.Proofs.Ytakjakmhecfmiaa
