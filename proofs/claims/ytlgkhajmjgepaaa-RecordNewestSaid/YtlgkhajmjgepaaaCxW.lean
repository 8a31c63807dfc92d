/- Machine words of 32 bits: what the operations yield, as the library's words. No condition. -/
import Derived.Test.YtlgkhajmjgepaaaEnA
namespace Go.Cx
set_option linter.unusedVariables false
set_option linter.unusedSimpArgs false
open Go
def encW (x : UInt32) : List Value := [.int .u32 (x.toNat : Int)]
theorem encW_len (x : UInt32) : (encW x).length = 1 := rfl
theorem wrap32 {n : Nat} : IntKind.u32.wrap (n : Int) = ((n % 4294967296 : Nat) : Int) := by
  simp only [IntKind.wrap, IntKind.signed, IntKind.bits, Bool.false_and, Bool.false_eq_true, if_false]
  omega
theorem wrap8 {n : Nat} : IntKind.u8.wrap (n : Int) = ((n % 256 : Nat) : Int) := by
  simp only [IntKind.wrap, IntKind.signed, IntKind.bits, Bool.false_and, Bool.false_eq_true, if_false]
  omega
theorem w_lt (x : UInt32) : x.toNat < 4294967296 := x.toNat_lt
theorem ofW (x : UInt32) : BitVec.ofInt IntKind.u32.bits (x.toNat : Int) = x.toBitVec := by
  show BitVec.ofInt 32 (x.toNat : Int) = x.toBitVec
  rw [BitVec.ofInt_natCast]
  exact BitVec.eq_of_toNat_eq (by rw [BitVec.toNat_ofNat]; exact Nat.mod_eq_of_lt x.toNat_lt)
theorem toW (b : UInt32) : IntKind.u32.wrap ((b.toBitVec.toNat : Nat) : Int) = (b.toNat : Int) := by
  rw [wrap32]
  have := w_lt b
  show ((b.toNat % 4294967296 : Nat) : Int) = _
  omega
theorem w_add {a b : UInt32} : IntKind.u32.wrap ((a.toNat : Int) + (b.toNat : Int)) = ((a + b).toNat : Int) := by
  rw [show (a.toNat : Int) + (b.toNat : Int) = ((a.toNat + b.toNat : Nat) : Int) by omega, wrap32, UInt32.toNat_add]
theorem w_xor {a b : UInt32} : IntKind.u32.wrap (BitVec.ofInt IntKind.u32.bits (a.toNat : Int) ^^^ BitVec.ofInt IntKind.u32.bits (b.toNat : Int)).toNat = ((a ^^^ b).toNat : Int) := by
  rw [ofW, ofW]; exact toW (a ^^^ b)
theorem w_and {a b : UInt32} : IntKind.u32.wrap (BitVec.ofInt IntKind.u32.bits (a.toNat : Int) &&& BitVec.ofInt IntKind.u32.bits (b.toNat : Int)).toNat = ((a &&& b).toNat : Int) := by
  rw [ofW, ofW]; exact toW (a &&& b)
theorem w_or {a b : UInt32} : IntKind.u32.wrap (BitVec.ofInt IntKind.u32.bits (a.toNat : Int) ||| BitVec.ofInt IntKind.u32.bits (b.toNat : Int)).toNat = ((a ||| b).toNat : Int) := by
  rw [ofW, ofW]; exact toW (a ||| b)
theorem w_com {a : UInt32} : IntKind.u32.wrap (BitVec.ofInt IntKind.u32.bits IntKind.u32.max ^^^ BitVec.ofInt IntKind.u32.bits (a.toNat : Int)).toNat = ((~~~a).toNat : Int) := by
  rw [ofW, ← toW]
  congr 1
theorem w_neg {a : UInt32} : IntKind.u32.wrap (0 - (a.toNat : Int)) = ((-a).toNat : Int) := by
  rw [UInt32.toNat_neg]
  have := w_lt a
  simp only [IntKind.wrap, IntKind.signed, IntKind.bits, Bool.false_and, Bool.false_eq_true, if_false, UInt32.size]
  omega
theorem fdivN (a k : Nat) : ((a : Int).fdiv (2 ^ k)) = ((a >>> k : Nat) : Int) := by
  rw [Int.fdiv_eq_ediv_of_nonneg _ (Int.pow_nonneg (by decide)), Nat.shiftRight_eq_div_pow]
  norm_cast
/-- x >> j, j below 32 -/
theorem w_shr {a : UInt32} {j : Int} (s : UInt32) (hj : j = (s.toNat : Int)) (hs : s.toNat < 32) : (a.toNat : Int).fdiv (2 ^ (min j.toNat IntKind.u32.bits)) = ((a >>> s).toNat : Int) := by
  subst hj
  rw [show min (s.toNat : Int).toNat IntKind.u32.bits = s.toNat by show min _ 32 = _; omega, fdivN, UInt32.toNat_shiftRight, Nat.mod_eq_of_lt hs]
/-- x << j, j below 32 -/
theorem w_shl {a : UInt32} {j : Int} (s : UInt32) (hj : j = (s.toNat : Int)) (hs : s.toNat < 32) : IntKind.u32.wrap ((a.toNat : Int) * 2 ^ (min j.toNat IntKind.u32.bits)) = ((a <<< s).toNat : Int) := by
  subst hj
  rw [show min (s.toNat : Int).toNat IntKind.u32.bits = s.toNat by show min _ 32 = _; omega, UInt32.toNat_shiftLeft, Nat.mod_eq_of_lt hs, Nat.shiftLeft_eq,
    show (a.toNat : Int) * 2 ^ s.toNat = ((a.toNat * 2 ^ s.toNat : Nat) : Int) by norm_cast, wrap32]
theorem w_u8 {a : UInt32} : IntKind.u8.wrap (a.toNat : Int) = (a.toUInt8.toNat : Int) := by
  rw [wrap8, UInt32.toNat_toUInt8]
theorem w_of8 {b : UInt8} : IntKind.u32.wrap (b.toNat : Int) = (b.toUInt32.toNat : Int) := by
  rw [wrap32, UInt8.toNat_toUInt32]
  have := b.toNat_lt
  omega
theorem w_eq {a b : UInt32} : decide ((a.toNat : Int) = (b.toNat : Int)) = decide (a = b) := by
  by_cases h : a = b
  · simp [h]
  · have : a.toNat ≠ b.toNat := fun e => h (UInt32.toNat_inj.1 e)
    rw [decide_eq_false h, decide_eq_false (by omega)]
/-- a constant word -/
theorem cW {S : List (Nat × Value)} {m : Int} (n : UInt32) (h : m = (n.toNat : Int)) : ev S (.const (.int .u32 m)) = some (.int .u32 (n.toNat : Int)) := by rw [h]; rfl
theorem w_ofN {n : Nat} (h : n < 4294967296) : IntKind.u32.wrap (n : Int) = ((UInt32.ofNat n).toNat : Int) := by
  rw [wrap32, UInt32.toNat_ofNat']
end Go.Cx
