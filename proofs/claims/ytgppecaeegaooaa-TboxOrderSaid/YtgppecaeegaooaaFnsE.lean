/-
  The translations of this seat's functions into pure code, each with the kernel's word that it is the translation. Written by a program (gen.py).
  Conditions: none.
-/
import Derived.Test.YtgppecaeegaooaaEngHe
import Derived.KernelRfl
namespace Go.Proofs.Ytgppecaeegaooaa.PI
open Go
def F_teval_formed_L0 : PC :=
  .seq (.ops [{ dst := some 44, op := .bin .lss (.s 43) (.s 42) }])
    (.seq (.cond (.s 44)
      (.skip)
      (.exit 1))
    (.seq (.block 2 (.seq (.ops [{ dst := some 45, op := .idxS 7 (.s 41) (.s 43) },
        { dst := some 46, op := .load 7 true (.s 45) },
        { dst := some 6, op := .box (.c (.agg [(.int .i64 0), (.int .i64 0), (.int .i64 0), (.int .i64 0), (.int .i64 0), (.int .i64 0), (.slc 0 [] true)])) },
        { dst := none, op := .stor 7 (.s 6) (.s 46) }])
      (.seq (.ops [{ dst := some 47, op := .load 7 true (.s 6) },
        { dst := some 48, op := .mov (.s 1) },
        { dst := some 49, op := .bin .sub (.s 48) (.c (.int .i64 1)) },
        { dst := some 50, op := .call 57 [(.s 47), (.s 49)] },
        { dst := some 51, op := .un .not (.s 50) }])
      (.cond (.s 51)
        (.seq (.ops [{ dst := some 4, op := .mov (.c (.bool false)) }])
        (.ret))
        (.skip)))))
    (.ops [{ dst := some 52, op := .bin .add (.s 43) (.c (.int .i64 1)) },
      { dst := some 43, op := .mov (.s 52) }])))
def F_teval_formed : PF :=
  .mk
    (.seq (.ops [{ dst := some 2, op := .box (.s 0) },
        { dst := some 4, op := .mov (.c (.bool false)) }])
      (.seq (.seq (.ops [{ dst := some 7, op := .mov (.s 1) },
        { dst := some 8, op := .bin .eql (.s 7) (.c (.int .i64 0)) },
        { dst := some 9, op := .mov (.s 8) },
        { dst := some 10, op := .fld 6 (.s 2), guard := some (9, false) },
        { dst := some 11, op := .load 1 false (.s 10), guard := some (9, false) },
        { dst := some 12, op := .len false (.s 11), guard := some (9, false) },
        { dst := some 13, op := .fld 0 (.s 2), guard := some (9, false) },
        { dst := some 14, op := .load 1 false (.s 13), guard := some (9, false) },
        { dst := some 15, op := .call 69 [(.s 14)], guard := some (9, false) },
        { dst := some 16, op := .bin .neq (.s 12) (.s 15), guard := some (9, false) },
        { dst := some 17, op := .pick (.s 9) (.c (.bool true)) (.s 16) }])
      (.cond (.s 17)
        (.seq (.ops [{ dst := some 4, op := .mov (.c (.bool false)) }])
        (.ret))
        (.skip)))
      (.seq (.seq (.ops [{ dst := some 18, op := .fld 0 (.s 2) },
        { dst := some 19, op := .load 1 false (.s 18) }])
      (.block 0 (.seq (.ops [{ dst := some 21, op := .bin .eql (.s 19) (.c (.int .i64 1)) },
          { dst := some 20, op := .mov (.s 21) }])
        (.cond (.s 20)
          (.seq (.ops [{ dst := some 22, op := .fld 1 (.s 2) },
            { dst := some 23, op := .load 1 false (.s 22) },
            { dst := some 24, op := .bin .geq (.s 23) (.c (.int .i64 0)) },
            { dst := some 25, op := .mov (.s 24) },
            { dst := some 26, op := .fld 1 (.s 2), guard := some (25, true) },
            { dst := some 27, op := .load 1 false (.s 26), guard := some (25, true) },
            { dst := some 28, op := .bin .leq (.s 27) (.c (.int .i64 1099511627776)), guard := some (25, true) },
            { dst := some 29, op := .pick (.s 25) (.s 28) (.c (.bool false)) },
            { dst := some 4, op := .mov (.s 29) }])
          (.ret))
          (.seq (.ops [{ dst := some 31, op := .bin .eql (.s 19) (.c (.int .i64 2)) },
            { dst := some 30, op := .mov (.s 31) }])
          (.cond (.s 30)
            (.seq (.ops [{ dst := some 32, op := .fld 1 (.s 2) },
              { dst := some 33, op := .load 1 false (.s 32) },
              { dst := some 34, op := .bin .geq (.s 33) (.c (.int .i64 0)) },
              { dst := some 35, op := .mov (.s 34) },
              { dst := some 36, op := .fld 1 (.s 2), guard := some (35, true) },
              { dst := some 37, op := .load 1 false (.s 36), guard := some (35, true) },
              { dst := some 38, op := .bin .lss (.s 37) (.c (.int .i64 16)), guard := some (35, true) },
              { dst := some 39, op := .pick (.s 35) (.s 38) (.c (.bool false)) },
              { dst := some 4, op := .mov (.s 39) }])
            (.ret))
            (.skip)))))))
      (.seq (.seq (.ops [{ dst := some 40, op := .fld 6 (.s 2) },
        { dst := some 41, op := .load 1 false (.s 40) },
        { dst := some 42, op := .len false (.s 41) },
        { dst := some 43, op := .mov (.c (.int .i64 0)) }])
      (.block 1 (.loop [1, 41, 42, 43] F_teval_formed_L0)))
      (.seq (.ops [{ dst := some 4, op := .mov (.c (.bool true)) }])
      (.ret))))))
    [.tmp 4]
theorem tr_teval_formed : trF Try.prog [] 57 [[1, 41, 42, 43]] = some F_teval_formed := by kernel_rfl
def F_teval_operands : PF :=
  .mk
    (.seq (.ops [{ dst := some 2, op := .mov (.c (.int .i64 0)) }])
      (.seq (.block 0 (.seq (.ops [{ dst := some 4, op := .mov (.s 0) },
          { dst := some 5, op := .bin .lss (.s 4) (.c (.int .i64 1)) },
          { dst := some 6, op := .mov (.s 5) },
          { dst := some 7, op := .mov (.s 0), guard := some (6, false) },
          { dst := some 8, op := .bin .gtr (.s 7) (.c (.int .i64 11)), guard := some (6, false) },
          { dst := some 9, op := .pick (.s 6) (.c (.bool true)) (.s 8) },
          { dst := some 3, op := .mov (.s 9) }])
        (.cond (.s 3)
          (.seq (.ops [{ dst := some 2, op := .mov (.c (.int .i64 (-1))) }])
          (.ret))
          (.seq (.ops [{ dst := some 11, op := .mov (.s 0) },
            { dst := some 12, op := .bin .eql (.s 11) (.c (.int .i64 1)) },
            { dst := some 13, op := .mov (.s 12) },
            { dst := some 14, op := .mov (.s 0), guard := some (13, false) },
            { dst := some 15, op := .bin .eql (.s 14) (.c (.int .i64 2)), guard := some (13, false) },
            { dst := some 16, op := .pick (.s 13) (.c (.bool true)) (.s 15) },
            { dst := some 10, op := .mov (.s 16) }])
          (.cond (.s 10)
            (.seq (.ops [{ dst := some 2, op := .mov (.c (.int .i64 0)) }])
            (.ret))
            (.seq (.ops [{ dst := some 18, op := .mov (.s 0) },
              { dst := some 19, op := .bin .eql (.s 18) (.c (.int .i64 11)) },
              { dst := some 17, op := .mov (.s 19) }])
            (.cond (.s 17)
              (.seq (.ops [{ dst := some 2, op := .mov (.c (.int .i64 4)) }])
              (.ret))
              (.skip))))))))
      (.seq (.ops [{ dst := some 2, op := .mov (.c (.int .i64 2)) }])
      (.ret))))
    [.tmp 2]
theorem tr_teval_operands : trF Try.prog [] 69 [] = some F_teval_operands := by kernel_rfl
def F_teval_must : PF :=
  .mk
    (.seq (.ops [{ dst := some 4, op := .mov (.c (.int .i64 0)) }])
      (.seq (.seq (.ops [{ dst := some 5, op := .mov (.s 1) },
        { dst := some 6, op := .bin .neq (.s 5) (.c (.int .i64 0)) }])
      (.cond (.s 6)
        (.pan [{ dst := some 7, op := .mov (.s 1) },
          { dst := some 8, op := .bld [(.int .i64 0)] [(0, 1, (.s 7))] }] 9 96 (.s 8))
        (.skip)))
      (.seq (.ops [{ dst := some 10, op := .mov (.s 0) },
        { dst := some 4, op := .mov (.s 10) }])
      (.ret))))
    [.tmp 4]
theorem tr_teval_must : trF Try.prog [] 63 [] = some F_teval_must := by kernel_rfl
def F_money_Add : PF :=
  .mk
    (.seq (.ops [{ dst := some 4, op := .mov (.c (.int .i64 0)) },
        { dst := some 5, op := .mov (.c (.int .i64 0)) }])
      (.seq (.seq (.ops [{ dst := some 6, op := .mov (.s 0) },
        { dst := some 7, op := .mov (.s 1) },
        { dst := some 8, op := .bslc 1 [(.s 6), (.s 7)] },
        { dst := some 9, op := .call 70 [(.s 8)] },
        { dst := some 10, op := .un .not (.s 9) }])
      (.cond (.s 10)
        (.seq (.ops [{ dst := some 4, op := .mov (.c (.int .i64 0)) },
          { dst := some 5, op := .mov (.c (.int .i64 3)) }])
        (.ret))
        (.skip)))
      (.seq (.ops [{ dst := some 11, op := .mov (.s 0) },
        { dst := some 12, op := .mov (.s 1) },
        { dst := some 13, op := .bin .add (.s 11) (.s 12) },
        { dst := some 14, op := .call 71 [(.s 13)] },
        { dst := some 15, op := .ext (.s 14) 0 },
        { dst := some 16, op := .ext (.s 14) 1 },
        { dst := some 4, op := .mov (.s 15) },
        { dst := some 5, op := .mov (.s 16) }])
      (.ret))))
    [.tmp 4, .tmp 5]
theorem tr_money_Add : trF Try.prog [] 64 [] = some F_money_Add := by kernel_rfl
def F_money_Sub : PF :=
  .mk
    (.seq (.ops [{ dst := some 4, op := .mov (.c (.int .i64 0)) },
        { dst := some 5, op := .mov (.c (.int .i64 0)) }])
      (.seq (.seq (.ops [{ dst := some 6, op := .mov (.s 0) },
        { dst := some 7, op := .mov (.s 1) },
        { dst := some 8, op := .bslc 1 [(.s 6), (.s 7)] },
        { dst := some 9, op := .call 70 [(.s 8)] },
        { dst := some 10, op := .un .not (.s 9) }])
      (.cond (.s 10)
        (.seq (.ops [{ dst := some 4, op := .mov (.c (.int .i64 0)) },
          { dst := some 5, op := .mov (.c (.int .i64 3)) }])
        (.ret))
        (.skip)))
      (.seq (.ops [{ dst := some 11, op := .mov (.s 0) },
        { dst := some 12, op := .mov (.s 1) },
        { dst := some 13, op := .bin .sub (.s 11) (.s 12) },
        { dst := some 14, op := .call 71 [(.s 13)] },
        { dst := some 15, op := .ext (.s 14) 0 },
        { dst := some 16, op := .ext (.s 14) 1 },
        { dst := some 4, op := .mov (.s 15) },
        { dst := some 5, op := .mov (.s 16) }])
      (.ret))))
    [.tmp 4, .tmp 5]
theorem tr_money_Sub : trF Try.prog [] 66 [] = some F_money_Sub := by kernel_rfl
def F_money_Mul : PF :=
  .mk
    (.seq (.ops [{ dst := some 4, op := .mov (.c (.int .i64 0)) },
        { dst := some 5, op := .mov (.c (.int .i64 0)) }])
      (.seq (.seq (.ops [{ dst := some 8, op := .mov (.s 0) },
        { dst := some 9, op := .mov (.s 1) },
        { dst := some 10, op := .bslc 1 [(.s 8), (.s 9)] },
        { dst := some 11, op := .call 70 [(.s 10)] },
        { dst := some 12, op := .un .not (.s 11) }])
      (.cond (.s 12)
        (.seq (.ops [{ dst := some 4, op := .mov (.c (.int .i64 0)) },
          { dst := some 5, op := .mov (.c (.int .i64 3)) }])
        (.ret))
        (.skip)))
      (.seq (.seq (.ops [{ dst := some 14, op := .mov (.s 0) },
        { dst := some 15, op := .call 73 [(.s 14)] },
        { dst := some 16, op := .mov (.s 1) },
        { dst := some 17, op := .call 73 [(.s 16)] },
        { dst := some 18, op := .call 72 [(.s 15), (.s 17)] },
        { dst := some 13, op := .mov (.s 18) },
        { dst := some 19, op := .ext (.s 13) 0 },
        { dst := some 20, op := .ext (.s 13) 1 },
        { dst := some 6, op := .mov (.s 19) },
        { dst := some 7, op := .mov (.s 20) }])
      (.seq (.ops [{ dst := some 21, op := .mov (.s 6) },
        { dst := some 22, op := .bin .neq (.s 21) (.c (.int .u64 0)) },
        { dst := some 23, op := .mov (.s 22) },
        { dst := some 24, op := .mov (.s 7), guard := some (23, false) },
        { dst := some 25, op := .bin .gtr (.s 24) (.c (.int .u64 9007199254740992)), guard := some (23, false) },
        { dst := some 26, op := .pick (.s 23) (.c (.bool true)) (.s 25) }])
      (.cond (.s 26)
        (.seq (.ops [{ dst := some 4, op := .mov (.c (.int .i64 0)) },
          { dst := some 5, op := .mov (.c (.int .i64 3)) }])
        (.ret))
        (.skip))))
      (.seq (.ops [{ dst := some 27, op := .mov (.s 0) },
        { dst := some 28, op := .mov (.s 1) },
        { dst := some 29, op := .bin .mul (.s 27) (.s 28) },
        { dst := some 4, op := .mov (.s 29) },
        { dst := some 5, op := .mov (.c (.int .i64 0)) }])
      (.ret)))))
    [.tmp 4, .tmp 5]
theorem tr_money_Mul : trF Try.prog [] 67 [] = some F_money_Mul := by kernel_rfl
def F_money_in_L0 : PC :=
  .seq (.ops [{ dst := some 8, op := .bin .lss (.s 7) (.s 6) }])
    (.seq (.cond (.s 8)
      (.skip)
      (.exit 0))
    (.seq (.block 1 (.seq (.ops [{ dst := some 9, op := .idxS 1 (.s 5) (.s 7) },
        { dst := some 10, op := .load 1 false (.s 9) },
        { dst := some 4, op := .mov (.s 10) }])
      (.seq (.ops [{ dst := some 11, op := .mov (.s 4) },
        { dst := some 12, op := .bin .lss (.s 11) (.c (.int .i64 (-9007199254740992))) },
        { dst := some 13, op := .mov (.s 12) },
        { dst := some 14, op := .mov (.s 4), guard := some (13, false) },
        { dst := some 15, op := .bin .gtr (.s 14) (.c (.int .i64 9007199254740992)), guard := some (13, false) },
        { dst := some 16, op := .pick (.s 13) (.c (.bool true)) (.s 15) }])
      (.cond (.s 16)
        (.seq (.ops [{ dst := some 2, op := .mov (.c (.bool false)) }])
        (.ret))
        (.skip)))))
    (.ops [{ dst := some 17, op := .bin .add (.s 7) (.c (.int .i64 1)) },
      { dst := some 7, op := .mov (.s 17) }])))
def F_money_in : PF :=
  .mk
    (.seq (.ops [{ dst := some 2, op := .mov (.c (.bool false)) }])
      (.seq (.seq (.ops [{ dst := some 5, op := .mov (.s 0) },
        { dst := some 6, op := .len false (.s 5) },
        { dst := some 7, op := .mov (.c (.int .i64 0)) }])
      (.block 0 (.loop [5, 6, 7] F_money_in_L0)))
      (.seq (.ops [{ dst := some 2, op := .mov (.c (.bool true)) }])
      (.ret))))
    [.tmp 2]
theorem tr_money_in : trF Try.prog [] 70 [[5, 6, 7]] = some F_money_in := by kernel_rfl
def F_money_ranged : PF :=
  .mk
    (.seq (.ops [{ dst := some 2, op := .mov (.c (.int .i64 0)) },
        { dst := some 3, op := .mov (.c (.int .i64 0)) }])
      (.seq (.seq (.ops [{ dst := some 4, op := .mov (.s 0) },
        { dst := some 5, op := .bslc 1 [(.s 4)] },
        { dst := some 6, op := .call 70 [(.s 5)] },
        { dst := some 7, op := .un .not (.s 6) }])
      (.cond (.s 7)
        (.seq (.ops [{ dst := some 2, op := .mov (.c (.int .i64 0)) },
          { dst := some 3, op := .mov (.c (.int .i64 3)) }])
        (.ret))
        (.skip)))
      (.seq (.ops [{ dst := some 8, op := .mov (.s 0) },
        { dst := some 2, op := .mov (.s 8) },
        { dst := some 3, op := .mov (.c (.int .i64 0)) }])
      (.ret))))
    [.tmp 2, .tmp 3]
theorem tr_money_ranged : trF Try.prog [] 71 [] = some F_money_ranged := by kernel_rfl
def F_math_bits_Mul64 : PF :=
  .mk
    (.seq (.ops [{ dst := some 4, op := .mov (.c (.int .u64 0)) },
        { dst := some 5, op := .mov (.c (.int .u64 0)) }])
      (.seq (.ops [{ dst := some 14, op := .mov (.s 0) },
        { dst := some 15, op := .bin .and (.s 14) (.c (.int .u64 4294967295)) },
        { dst := some 6, op := .mov (.s 15) }])
      (.seq (.ops [{ dst := some 16, op := .mov (.s 0) },
        { dst := some 17, op := .bin .shr (.s 16) (.c (.int .u64 32)) },
        { dst := some 7, op := .mov (.s 17) }])
      (.seq (.ops [{ dst := some 18, op := .mov (.s 1) },
        { dst := some 19, op := .bin .and (.s 18) (.c (.int .u64 4294967295)) },
        { dst := some 8, op := .mov (.s 19) }])
      (.seq (.ops [{ dst := some 20, op := .mov (.s 1) },
        { dst := some 21, op := .bin .shr (.s 20) (.c (.int .u64 32)) },
        { dst := some 9, op := .mov (.s 21) }])
      (.seq (.ops [{ dst := some 22, op := .mov (.s 6) },
        { dst := some 23, op := .mov (.s 8) },
        { dst := some 24, op := .bin .mul (.s 22) (.s 23) },
        { dst := some 10, op := .mov (.s 24) }])
      (.seq (.ops [{ dst := some 25, op := .mov (.s 7) },
        { dst := some 26, op := .mov (.s 8) },
        { dst := some 27, op := .bin .mul (.s 25) (.s 26) },
        { dst := some 28, op := .mov (.s 10) },
        { dst := some 29, op := .bin .shr (.s 28) (.c (.int .u64 32)) },
        { dst := some 30, op := .bin .add (.s 27) (.s 29) },
        { dst := some 11, op := .mov (.s 30) }])
      (.seq (.ops [{ dst := some 31, op := .mov (.s 11) },
        { dst := some 32, op := .bin .and (.s 31) (.c (.int .u64 4294967295)) },
        { dst := some 12, op := .mov (.s 32) }])
      (.seq (.ops [{ dst := some 33, op := .mov (.s 11) },
        { dst := some 34, op := .bin .shr (.s 33) (.c (.int .u64 32)) },
        { dst := some 13, op := .mov (.s 34) }])
      (.seq (.ops [{ dst := some 35, op := .mov (.s 12) },
        { dst := some 36, op := .mov (.s 6) },
        { dst := some 37, op := .mov (.s 9) },
        { dst := some 38, op := .bin .mul (.s 36) (.s 37) },
        { dst := some 39, op := .bin .add (.s 35) (.s 38) },
        { dst := some 12, op := .mov (.s 39) }])
      (.seq (.ops [{ dst := some 40, op := .mov (.s 7) },
        { dst := some 41, op := .mov (.s 9) },
        { dst := some 42, op := .bin .mul (.s 40) (.s 41) },
        { dst := some 43, op := .mov (.s 13) },
        { dst := some 44, op := .bin .add (.s 42) (.s 43) },
        { dst := some 45, op := .mov (.s 12) },
        { dst := some 46, op := .bin .shr (.s 45) (.c (.int .u64 32)) },
        { dst := some 47, op := .bin .add (.s 44) (.s 46) },
        { dst := some 4, op := .mov (.s 47) }])
      (.seq (.ops [{ dst := some 48, op := .mov (.s 0) },
        { dst := some 49, op := .mov (.s 1) },
        { dst := some 50, op := .bin .mul (.s 48) (.s 49) },
        { dst := some 5, op := .mov (.s 50) }])
      (.ret)))))))))))))
    [.tmp 4, .tmp 5]
theorem tr_math_bits_Mul64 : trF Try.prog [] 72 [] = some F_math_bits_Mul64 := by kernel_rfl
def F_money_abs : PF :=
  .mk
    (.seq (.ops [{ dst := some 2, op := .mov (.c (.int .u64 0)) }])
      (.seq (.seq (.ops [{ dst := some 3, op := .mov (.s 0) },
        { dst := some 4, op := .bin .lss (.s 3) (.c (.int .i64 0)) }])
      (.cond (.s 4)
        (.seq (.ops [{ dst := some 5, op := .mov (.s 0) },
          { dst := some 6, op := .conv (.int .u64) (.s 5) },
          { dst := some 7, op := .un .neg (.s 6) },
          { dst := some 2, op := .mov (.s 7) }])
        (.ret))
        (.skip)))
      (.seq (.ops [{ dst := some 8, op := .mov (.s 0) },
        { dst := some 9, op := .conv (.int .u64) (.s 8) },
        { dst := some 2, op := .mov (.s 9) }])
      (.ret))))
    [.tmp 2]
theorem tr_money_abs : trF Try.prog [] 73 [] = some F_money_abs := by kernel_rfl
def F_money_Div : PF :=
  .mk
    (.seq (.ops [{ dst := some 6, op := .mov (.c (.int .i64 0)) },
        { dst := some 7, op := .mov (.c (.int .i64 0)) }])
      (.seq (.seq (.ops [{ dst := some 8, op := .mov (.s 2) },
        { dst := some 9, op := .bin .neq (.s 8) (.c (.int .i64 8)) },
        { dst := some 10, op := .mov (.s 9) },
        { dst := some 11, op := .mov (.s 2), guard := some (10, true) },
        { dst := some 12, op := .bin .neq (.s 11) (.c (.int .i64 9)), guard := some (10, true) },
        { dst := some 13, op := .pick (.s 10) (.s 12) (.c (.bool false)) },
        { dst := some 14, op := .mov (.s 13) },
        { dst := some 15, op := .mov (.s 2), guard := some (14, true) },
        { dst := some 16, op := .bin .neq (.s 15) (.c (.int .i64 10)), guard := some (14, true) },
        { dst := some 17, op := .pick (.s 14) (.s 16) (.c (.bool false)) }])
      (.cond (.s 17)
        (.seq (.ops [{ dst := some 6, op := .mov (.c (.int .i64 0)) },
          { dst := some 7, op := .mov (.c (.int .i64 1)) }])
        (.ret))
        (.skip)))
      (.seq (.seq (.ops [{ dst := some 18, op := .mov (.s 0) },
        { dst := some 19, op := .mov (.s 1) },
        { dst := some 20, op := .bslc 1 [(.s 18), (.s 19)] },
        { dst := some 21, op := .call 70 [(.s 20)] },
        { dst := some 22, op := .un .not (.s 21) }])
      (.cond (.s 22)
        (.seq (.ops [{ dst := some 6, op := .mov (.c (.int .i64 0)) },
          { dst := some 7, op := .mov (.c (.int .i64 3)) }])
        (.ret))
        (.skip)))
      (.seq (.seq (.ops [{ dst := some 23, op := .mov (.s 1) },
        { dst := some 24, op := .bin .leq (.s 23) (.c (.int .i64 0)) }])
      (.cond (.s 24)
        (.seq (.ops [{ dst := some 6, op := .mov (.c (.int .i64 0)) },
          { dst := some 7, op := .mov (.c (.int .i64 70)) }])
        (.ret))
        (.skip)))
      (.seq (.seq (.ops [{ dst := some 25, op := .mov (.s 2) }])
      (.block 0 (.seq (.block 3 (.seq (.block 2 (.seq (.block 1 (.seq (.seq (.seq (.ops [{ dst := some 27, op := .bin .eql (.s 25) (.c (.int .i64 10)) },
                { dst := some 26, op := .mov (.s 27) }])
              (.cond (.s 26)
                (.exit 1)
                (.skip)))
              (.seq (.ops [{ dst := some 29, op := .bin .eql (.s 25) (.c (.int .i64 8)) },
                { dst := some 28, op := .mov (.s 29) }])
              (.cond (.s 28)
                (.exit 2)
                (.skip))))
              (.exit 3)))
            (.ops [{ dst := some 30, op := .mov (.s 0) },
              { dst := some 31, op := .bin .mul (.c (.int .i64 2)) (.s 30) },
              { dst := some 32, op := .mov (.s 1) },
              { dst := some 33, op := .bin .add (.s 31) (.s 32) },
              { dst := some 34, op := .mov (.s 1) },
              { dst := some 35, op := .bin .mul (.c (.int .i64 2)) (.s 34) },
              { dst := some 0, op := .mov (.s 33) },
              { dst := some 1, op := .mov (.s 35) }])))
          (.seq (.seq (.ops [{ dst := some 36, op := .mov (.s 0) },
            { dst := some 37, op := .mov (.s 1) },
            { dst := some 38, op := .bin .rem (.s 36) (.s 37) },
            { dst := some 39, op := .bin .lss (.s 38) (.c (.int .i64 0)) }])
          (.cond (.s 39)
            (.ops [{ dst := some 40, op := .mov (.s 0) },
              { dst := some 41, op := .mov (.s 1) },
              { dst := some 42, op := .bin .sub (.s 40) (.s 41) },
              { dst := some 0, op := .mov (.s 42) }])
            (.skip)))
          (.exit 0))))
        (.seq (.seq (.ops [{ dst := some 43, op := .mov (.s 0) },
          { dst := some 44, op := .mov (.s 1) },
          { dst := some 45, op := .bin .rem (.s 43) (.s 44) },
          { dst := some 46, op := .bin .gtr (.s 45) (.c (.int .i64 0)) }])
        (.cond (.s 46)
          (.ops [{ dst := some 47, op := .mov (.s 0) },
            { dst := some 48, op := .mov (.s 1) },
            { dst := some 49, op := .bin .add (.s 47) (.s 48) },
            { dst := some 0, op := .mov (.s 49) }])
          (.skip)))
        (.exit 0)))))
      (.seq (.ops [{ dst := some 50, op := .mov (.s 0) },
        { dst := some 51, op := .mov (.s 1) },
        { dst := some 52, op := .bin .quo (.s 50) (.s 51) },
        { dst := some 6, op := .mov (.s 52) },
        { dst := some 7, op := .mov (.c (.int .i64 0)) }])
      (.ret)))))))
    [.tmp 6, .tmp 7]
theorem tr_money_Div : trF Try.prog [] 74 [] = some F_money_Div := by kernel_rfl
def F_teval_evaluator_add : PF :=
  .mk
    (.seq (.ops [{ dst := some 4, op := .mov (.c (.int .i64 0)) }])
      (.seq (.opsX [{ dst := some 5, op := .mov (.s 0) },
        { dst := some 6, op := .mov (.s 1) },
        { dst := some 7, op := .icall 65 [(.s 5), (.s 6)] },
        { dst := some 8, op := .ext (.s 7) 0 },
        { dst := some 9, op := .ext (.s 7) 1 },
        { dst := some 10, op := .call 64 [(.s 8), (.s 9)] },
        { dst := some 11, op := .ext (.s 10) 0 },
        { dst := some 12, op := .ext (.s 10) 1 },
        { dst := some 13, op := .icall 63 [(.s 11), (.s 12)] },
        { dst := some 4, op := .mov (.s 13) }])
      (.ret)))
    [.tmp 4]
theorem tr_teval_evaluator_add : trF Try.prog [32, 33, 60000033, 58, 60000058, 65, 60000065, 68, 60000068, 63, 60000063, 60000000, 80000038] 45 [] = some F_teval_evaluator_add := by kernel_rfl
def F_teval_evaluator_sub : PF :=
  .mk
    (.seq (.ops [{ dst := some 4, op := .mov (.c (.int .i64 0)) }])
      (.seq (.opsX [{ dst := some 5, op := .mov (.s 0) },
        { dst := some 6, op := .mov (.s 1) },
        { dst := some 7, op := .icall 65 [(.s 5), (.s 6)] },
        { dst := some 8, op := .ext (.s 7) 0 },
        { dst := some 9, op := .ext (.s 7) 1 },
        { dst := some 10, op := .call 66 [(.s 8), (.s 9)] },
        { dst := some 11, op := .ext (.s 10) 0 },
        { dst := some 12, op := .ext (.s 10) 1 },
        { dst := some 13, op := .icall 63 [(.s 11), (.s 12)] },
        { dst := some 4, op := .mov (.s 13) }])
      (.ret)))
    [.tmp 4]
theorem tr_teval_evaluator_sub : trF Try.prog [32, 33, 60000033, 58, 60000058, 65, 60000065, 68, 60000068, 63, 60000063, 60000000, 80000038] 46 [] = some F_teval_evaluator_sub := by kernel_rfl
def F_teval_evaluator_mul : PF :=
  .mk
    (.seq (.ops [{ dst := some 4, op := .mov (.c (.int .i64 0)) }])
      (.seq (.opsX [{ dst := some 5, op := .mov (.s 0) },
        { dst := some 6, op := .mov (.s 1) },
        { dst := some 7, op := .icall 65 [(.s 5), (.s 6)] },
        { dst := some 8, op := .ext (.s 7) 0 },
        { dst := some 9, op := .ext (.s 7) 1 },
        { dst := some 10, op := .call 67 [(.s 8), (.s 9)] },
        { dst := some 11, op := .ext (.s 10) 0 },
        { dst := some 12, op := .ext (.s 10) 1 },
        { dst := some 13, op := .icall 63 [(.s 11), (.s 12)] },
        { dst := some 4, op := .mov (.s 13) }])
      (.ret)))
    [.tmp 4]
theorem tr_teval_evaluator_mul : trF Try.prog [32, 33, 60000033, 58, 60000058, 65, 60000065, 68, 60000068, 63, 60000063, 60000000, 80000038] 47 [] = some F_teval_evaluator_mul := by kernel_rfl
def F_teval_evaluator_least : PF :=
  .mk
    (.seq (.ops [{ dst := some 4, op := .mov (.c (.int .i64 0)) }])
      (.seq (.opsX [{ dst := some 8, op := .mov (.s 0) },
        { dst := some 9, op := .mov (.s 1) },
        { dst := some 10, op := .icall 65 [(.s 8), (.s 9)] },
        { dst := some 7, op := .mov (.s 10) },
        { dst := some 11, op := .ext (.s 7) 0 },
        { dst := some 12, op := .ext (.s 7) 1 },
        { dst := some 5, op := .mov (.s 11) },
        { dst := some 6, op := .mov (.s 12) }])
      (.seq (.ops [{ dst := some 13, op := .mov (.s 5) },
        { dst := some 14, op := .mov (.s 6) },
        { dst := some 15, op := .mm false (.s 13) (.s 14) },
        { dst := some 4, op := .mov (.s 15) }])
      (.ret))))
    [.tmp 4]
theorem tr_teval_evaluator_least : trF Try.prog [32, 33, 60000033, 58, 60000058, 65, 60000065, 68, 60000068, 63, 60000063, 60000000, 80000038] 48 [] = some F_teval_evaluator_least := by kernel_rfl
def F_teval_evaluator_greatest : PF :=
  .mk
    (.seq (.ops [{ dst := some 4, op := .mov (.c (.int .i64 0)) }])
      (.seq (.opsX [{ dst := some 8, op := .mov (.s 0) },
        { dst := some 9, op := .mov (.s 1) },
        { dst := some 10, op := .icall 65 [(.s 8), (.s 9)] },
        { dst := some 7, op := .mov (.s 10) },
        { dst := some 11, op := .ext (.s 7) 0 },
        { dst := some 12, op := .ext (.s 7) 1 },
        { dst := some 5, op := .mov (.s 11) },
        { dst := some 6, op := .mov (.s 12) }])
      (.seq (.ops [{ dst := some 13, op := .mov (.s 5) },
        { dst := some 14, op := .mov (.s 6) },
        { dst := some 15, op := .mm true (.s 13) (.s 14) },
        { dst := some 4, op := .mov (.s 15) }])
      (.ret))))
    [.tmp 4]
theorem tr_teval_evaluator_greatest : trF Try.prog [32, 33, 60000033, 58, 60000058, 65, 60000065, 68, 60000068, 63, 60000063, 60000000, 80000038] 49 [] = some F_teval_evaluator_greatest := by kernel_rfl
def F_teval_evaluator_down : PF :=
  .mk
    (.seq (.ops [{ dst := some 4, op := .mov (.c (.int .i64 0)) }])
      (.seq (.opsX [{ dst := some 5, op := .mov (.s 0) },
        { dst := some 6, op := .mov (.s 1) },
        { dst := some 7, op := .icall 68 [(.s 5), (.s 6), (.c (.int .i64 8))] },
        { dst := some 4, op := .mov (.s 7) }])
      (.ret)))
    [.tmp 4]
theorem tr_teval_evaluator_down : trF Try.prog [32, 33, 60000033, 58, 60000058, 65, 60000065, 68, 60000068, 63, 60000063, 60000000, 80000038] 50 [] = some F_teval_evaluator_down := by kernel_rfl
def F_teval_evaluator_up : PF :=
  .mk
    (.seq (.ops [{ dst := some 4, op := .mov (.c (.int .i64 0)) }])
      (.seq (.opsX [{ dst := some 5, op := .mov (.s 0) },
        { dst := some 6, op := .mov (.s 1) },
        { dst := some 7, op := .icall 68 [(.s 5), (.s 6), (.c (.int .i64 9))] },
        { dst := some 4, op := .mov (.s 7) }])
      (.ret)))
    [.tmp 4]
theorem tr_teval_evaluator_up : trF Try.prog [32, 33, 60000033, 58, 60000058, 65, 60000065, 68, 60000068, 63, 60000063, 60000000, 80000038] 51 [] = some F_teval_evaluator_up := by kernel_rfl
def F_teval_evaluator_half : PF :=
  .mk
    (.seq (.ops [{ dst := some 4, op := .mov (.c (.int .i64 0)) }])
      (.seq (.opsX [{ dst := some 5, op := .mov (.s 0) },
        { dst := some 6, op := .mov (.s 1) },
        { dst := some 7, op := .icall 68 [(.s 5), (.s 6), (.c (.int .i64 10))] },
        { dst := some 4, op := .mov (.s 7) }])
      (.ret)))
    [.tmp 4]
theorem tr_teval_evaluator_half : trF Try.prog [32, 33, 60000033, 58, 60000058, 65, 60000065, 68, 60000068, 63, 60000063, 60000000, 80000038] 52 [] = some F_teval_evaluator_half := by kernel_rfl
def F_teval_evaluator_choose : PF :=
  .mk
    (.seq (.ops [{ dst := some 4, op := .mov (.c (.int .i64 0)) }])
      (.seq (.seq (.opsX [{ dst := some 8, op := .mov (.s 0) },
        { dst := some 9, op := .mov (.s 1) },
        { dst := some 10, op := .icall 65 [(.s 8), (.s 9)] },
        { dst := some 7, op := .mov (.s 10) },
        { dst := some 11, op := .ext (.s 7) 0 },
        { dst := some 12, op := .ext (.s 7) 1 },
        { dst := some 5, op := .mov (.s 11) },
        { dst := some 6, op := .mov (.s 12) }])
      (.seq (.ops [{ dst := some 13, op := .mov (.s 5) },
        { dst := some 14, op := .mov (.s 6) },
        { dst := some 15, op := .bin .lss (.s 13) (.s 14) }])
      (.cond (.s 15)
        (.seq (.opsX [{ dst := some 16, op := .mov (.s 0) },
          { dst := some 17, op := .mov (.s 1) },
          { dst := some 18, op := .idxS 7 (.s 17) (.c (.int .i64 2)) },
          { dst := some 19, op := .load 7 true (.s 18) },
          { dst := some 20, op := .icall 58 [(.s 16), (.s 19)] },
          { dst := some 4, op := .mov (.s 20) }])
        (.ret))
        (.skip))))
      (.seq (.opsX [{ dst := some 21, op := .mov (.s 0) },
        { dst := some 22, op := .mov (.s 1) },
        { dst := some 23, op := .idxS 7 (.s 22) (.c (.int .i64 3)) },
        { dst := some 24, op := .load 7 true (.s 23) },
        { dst := some 25, op := .icall 58 [(.s 21), (.s 24)] },
        { dst := some 4, op := .mov (.s 25) }])
      (.ret))))
    [.tmp 4]
theorem tr_teval_evaluator_choose : trF Try.prog [32, 33, 60000033, 58, 60000058, 65, 60000065, 68, 60000068, 63, 60000063, 60000000, 80000038] 53 [] = some F_teval_evaluator_choose := by kernel_rfl
def F_teval_evaluator_eval : PF :=
  .mk
    (.seq (.ops [{ dst := some 3, op := .box (.s 1) },
        { dst := some 4, op := .mov (.c (.int .i64 0)) }])
      (.seq (.seq (.ops [{ dst := some 5, op := .fld 0 (.s 3) },
        { dst := some 6, op := .load 1 false (.s 5) }])
      (.block 0 (.seq (.ops [{ dst := some 8, op := .bin .eql (.s 6) (.c (.int .i64 1)) },
          { dst := some 7, op := .mov (.s 8) }])
        (.cond (.s 7)
          (.seq (.ops [{ dst := some 9, op := .fld 1 (.s 3) },
            { dst := some 10, op := .load 1 false (.s 9) },
            { dst := some 4, op := .mov (.s 10) }])
          (.ret))
          (.seq (.ops [{ dst := some 12, op := .bin .eql (.s 6) (.c (.int .i64 2)) },
            { dst := some 11, op := .mov (.s 12) }])
          (.cond (.s 11)
            (.seq (.opsX [{ dst := some 13, op := .mov (.s 0) },
              { dst := some 14, op := .fld 1 (.s 3) },
              { dst := some 15, op := .load 1 false (.s 14) },
              { dst := some 16, op := .icall 33 [(.s 13), (.s 15)] },
              { dst := some 4, op := .mov (.s 16) }])
            (.ret))
            (.skip)))))))
      (.seq (.opsX [{ dst := some 17, op := .mov (.s 0) },
        { dst := some 18, op := .nilc (.s 17) },
        { dst := some 19, op := .fld 17 (.s 18) },
        { dst := some 20, op := .load 1 false (.s 19) },
        { dst := some 21, op := .fld 0 (.s 3) },
        { dst := some 22, op := .load 1 false (.s 21) },
        { dst := some 23, op := .mapget 2 [0] false .nilf (.s 20) (.s 22) },
        { dst := some 24, op := .fld 6 (.s 3) },
        { dst := some 25, op := .load 1 false (.s 24) },
        { dst := some 26, op := .callv (.s 23) [(.s 25)] },
        { dst := some 4, op := .mov (.s 26) }])
      (.ret))))
    [.tmp 4]
theorem tr_teval_evaluator_eval : trF Try.prog [32, 33, 60000033, 58, 60000058, 65, 60000065, 68, 60000068, 63, 60000063, 60000000, 80000038] 58 [] = some F_teval_evaluator_eval := by kernel_rfl
def F_teval_evaluator_both : PF :=
  .mk
    (.seq (.ops [{ dst := some 4, op := .mov (.c (.int .i64 0)) },
        { dst := some 5, op := .mov (.c (.int .i64 0)) }])
      (.seq (.opsX [{ dst := some 6, op := .mov (.s 0) },
        { dst := some 7, op := .mov (.s 1) },
        { dst := some 8, op := .idxS 7 (.s 7) (.c (.int .i64 0)) },
        { dst := some 9, op := .load 7 true (.s 8) },
        { dst := some 10, op := .icall 58 [(.s 6), (.s 9)] },
        { dst := some 4, op := .mov (.s 10) }])
      (.seq (.opsX [{ dst := some 11, op := .mov (.s 4) },
        { dst := some 12, op := .mov (.s 0) },
        { dst := some 13, op := .mov (.s 1) },
        { dst := some 14, op := .idxS 7 (.s 13) (.c (.int .i64 1)) },
        { dst := some 15, op := .load 7 true (.s 14) },
        { dst := some 16, op := .icall 58 [(.s 12), (.s 15)] },
        { dst := some 4, op := .mov (.s 11) },
        { dst := some 5, op := .mov (.s 16) }])
      (.ret))))
    [.tmp 4, .tmp 5]
theorem tr_teval_evaluator_both : trF Try.prog [32, 33, 60000033, 58, 60000058, 65, 60000065, 68, 60000068, 63, 60000063, 60000000, 80000038] 65 [] = some F_teval_evaluator_both := by kernel_rfl
def F_teval_evaluator_divide : PF :=
  .mk
    (.seq (.ops [{ dst := some 6, op := .mov (.c (.int .i64 0)) }])
      (.seq (.opsX [{ dst := some 10, op := .mov (.s 0) },
        { dst := some 11, op := .mov (.s 1) },
        { dst := some 12, op := .icall 65 [(.s 10), (.s 11)] },
        { dst := some 9, op := .mov (.s 12) },
        { dst := some 13, op := .ext (.s 9) 0 },
        { dst := some 14, op := .ext (.s 9) 1 },
        { dst := some 7, op := .mov (.s 13) },
        { dst := some 8, op := .mov (.s 14) }])
      (.seq (.opsX [{ dst := some 15, op := .mov (.s 7) },
        { dst := some 16, op := .mov (.s 8) },
        { dst := some 17, op := .mov (.s 2) },
        { dst := some 18, op := .call 74 [(.s 15), (.s 16), (.s 17)] },
        { dst := some 19, op := .ext (.s 18) 0 },
        { dst := some 20, op := .ext (.s 18) 1 },
        { dst := some 21, op := .icall 63 [(.s 19), (.s 20)] },
        { dst := some 6, op := .mov (.s 21) }])
      (.ret))))
    [.tmp 6]
theorem tr_teval_evaluator_divide : trF Try.prog [32, 33, 60000033, 58, 60000058, 65, 60000065, 68, 60000068, 63, 60000063, 60000000, 80000038] 68 [] = some F_teval_evaluator_divide := by kernel_rfl
def F_teval_Eval : PFE :=
  .mk
    (.seq (.ops [{ dst := some 2, op := .box (.s 0) },
        { dst := some 3, op := .box (.s 1) },
        { dst := some 4, op := .mov (.c (.int .i64 0)) },
        { dst := some 5, op := .box (.c (.int .i64 0)) }])
      (.seq (.ops [{ dst := some 6, op := .load 7 true (.s 2) },
        { dst := some 7, op := .call 57 [(.s 6), (.c (.int .i64 24))] },
        { dst := some 8, op := .un .not (.s 7) }])
      (.cond (.s 8)
        (.seq (.ops [{ dst := some 4, op := .mov (.c (.int .i64 0)) },
          { dst := none, op := .stor 1 (.s 5) (.c (.int .i64 1)) }])
        (.ret))
        (.skip))))
    (.mk
    []
    (.c (.clo 31 []))
    [(.s 5)]
    (.seq (.alt (.any [({ dst := some 9, op := .load 17 true (.s 3) }, false, []),
        ({ dst := some 10, op := .mcall 32 [(.s 9)] }, true, []),
        ({ dst := some 11, op := .load 7 true (.s 2) }, false, [1]),
        ({ dst := some 12, op := .icall 58 [(.s 10), (.s 11)] }, false, []),
        ({ dst := some 4, op := .mov (.s 12) }, false, []),
        ({ dst := none, op := .stor 1 (.s 5) (.c (.int .i64 0)) }, false, [])])
      (.seq (.seq (.any [({ dst := some 9, op := .load 17 true (.s 3) }, false, []),
        ({ dst := some 10, op := .mcall 32 [(.s 9)] }, true, []),
        ({ dst := some 11, op := .load 7 true (.s 2) }, false, [1])])
      (.opsX [{ dst := some 12, op := .icall 58 [(.s 10), (.s 11)] }]))
      (.fail)))
      (.ret))
    [.tmp 4, .cell 5 1 false])
theorem tr_teval_Eval : trFE Try.prog [1000032, 58, 60000058, 80000038] 38 [] = some F_teval_Eval := by kernel_rfl
end Go.Proofs.Ytgppecaeegaooaa.PI
