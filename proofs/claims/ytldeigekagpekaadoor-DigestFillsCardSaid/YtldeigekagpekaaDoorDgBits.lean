/- Plain facts on words of 32 bits: 'and', 'or', 'xor' on u32 and on i64 are Nat's own. No program in sight. -/
import Derived.WalkKit
import Derived.Test.YtldeigekagpekaaDoorWMore
set_option linter.unusedVariables false
set_option linter.unusedSimpArgs false
namespace Go.Proofs.YtldeigekagpekaaDoor.Dg
open Go.RowKit Go.Proofs.YtldeigekagpekaaDoorW.PrintWords Go.Proofs.YtldeigekagpekaaDoorW.PrintMore
theorem of32 (x : Nat) (hx : x < 4294967296) : (BitVec.ofInt IntKind.u32.bits (x : Int)).toNat = x := by
  show (BitVec.ofInt 32 (x : Int)).toNat = x
  rw [BitVec.toNat_ofInt]
  omega
theorem of64 (x : Nat) (hx : x < 4294967296) : (BitVec.ofInt IntKind.i64.bits (x : Int)).toNat = x := by
  show (BitVec.ofInt 64 (x : Int)).toNat = x
  rw [BitVec.toNat_ofInt]
  omega
theorem or_lt32 {x y : Nat} (hx : x < 4294967296) (hy : y < 4294967296) : x ||| y < 4294967296 := Nat.or_lt_two_pow (n := 32) hx hy
theorem and_lt32 {x y : Nat} (hx : x < 4294967296) : x &&& y < 4294967296 := Nat.lt_of_le_of_lt Nat.and_le_left hx
theorem xor_lt32 {x y : Nat} (hx : x < 4294967296) (hy : y < 4294967296) : x ^^^ y < 4294967296 := Nat.xor_lt_two_pow (n := 32) hx hy
theorem or_u32 {x y : Nat} (hx : x < 4294967296) (hy : y < 4294967296) : bits .or .u32 x y = ((x ||| y : Nat) : Int) := by
  have := or_lt32 hx hy
  unfold bits
  simp only [BitVec.toNat_or, of32 x hx, of32 y hy]
  rw [IntKind.wrap_u32]; omega
theorem and_u32 {x y : Nat} (hx : x < 4294967296) (hy : y < 4294967296) : bits .and .u32 x y = ((x &&& y : Nat) : Int) := by
  have := and_lt32 (y := y) hx
  unfold bits
  simp only [BitVec.toNat_and, of32 x hx, of32 y hy]
  rw [IntKind.wrap_u32]; omega
theorem xor_u32 {x y : Nat} (hx : x < 4294967296) (hy : y < 4294967296) : bits .xor .u32 x y = ((x ^^^ y : Nat) : Int) := by
  have := xor_lt32 hx hy
  unfold bits
  simp only [BitVec.toNat_xor, of32 x hx, of32 y hy]
  rw [IntKind.wrap_u32]; omega
theorem i64_id (n : Nat) (h : n < 4294967296) : IntKind.i64.wrap ((n : Nat) : Int) = n := by
  rw [IntKind.wrap_i64]; omega
theorem or_i64 {x y : Nat} (hx : x < 4294967296) (hy : y < 4294967296) : bits .or .i64 x y = ((x ||| y : Nat) : Int) := by
  have := or_lt32 hx hy
  unfold bits
  simp only [BitVec.toNat_or, of64 x hx, of64 y hy]
  exact i64_id _ this
theorem and_i64 {x y : Nat} (hx : x < 4294967296) (hy : y < 4294967296) : bits .and .i64 x y = ((x &&& y : Nat) : Int) := by
  have := and_lt32 (y := y) hx
  unfold bits
  simp only [BitVec.toNat_and, of64 x hx, of64 y hy]
  exact i64_id _ this
theorem xor_i64 {x y : Nat} (hx : x < 4294967296) (hy : y < 4294967296) : bits .xor .i64 x y = ((x ^^^ y : Nat) : Int) := by
  have := xor_lt32 hx hy
  unfold bits
  simp only [BitVec.toNat_xor, of64 x hx, of64 y hy]
  exact i64_id _ this
theorem or_add (a b k : Nat) (a1 : a < 2 ^ k) (h : 2 ^ k * b + a < 4294967296) : bits .or .u32 a ((2 ^ k * b : Nat) : Int) = ((2 ^ k * b + a : Nat) : Int) := by
  rw [or_u32 (by omega) (by omega), Nat.two_pow_add_eq_or_of_lt a1, Nat.or_comm]
theorem not_u32 (x : Nat) (hx : x < 4294967296) : bits .xor .u32 IntKind.u32.max x = ((4294967295 - x : Nat) : Int) := by
  rw [show IntKind.u32.max = ((4294967295 : Nat) : Int) by decide, xor_u32 (by omega) hx]
  congr 1
  apply Nat.eq_of_testBit_eq
  intro i
  have e1 := Nat.testBit_two_pow_sub_succ (n := 32) (x := x) (by omega) i
  rw [show 2 ^ 32 - (x + 1) = 4294967295 - x by omega] at e1
  have e2 := Nat.testBit_two_pow_sub_one 32 i
  rw [show 2 ^ 32 - 1 = 4294967295 by omega] at e2
  rw [e1, Nat.testBit_xor, e2]
  by_cases hi : i < 32
  · simp [hi]
  · have : x.testBit i = false := Nat.testBit_lt_two_pow (Nat.lt_of_lt_of_le (show x < 2 ^ 32 by omega) (Nat.pow_le_pow_right (by omega) (by omega)))
    simp [hi, this]
end Go.Proofs.YtldeigekagpekaaDoor.Dg
