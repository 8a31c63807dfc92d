/- Glue for records. No condition. -/
import Derived.Test.YtlgkhajmjgepaaaCxX
import Derived.Test.YtlgkhajmjgepaaaPlS
namespace Go.Pl
theorem ruint4 (h : List UInt8) (s : RS) : 0 ≤ (ruint h s 4).2 ∧ (ruint h s 4).2 < 4294967296 := by
  unfold ruint
  split
  · exact num4 _ (by rw [List.length_take]; show min 4 _ ≤ 4; omega)
  · simp
theorem rlength_at {bs : List UInt8} {s : RS} (h : s.at_ ≤ bs.length) : (rlength bs s).1.at_ ≤ bs.length := by
  unfold rlength
  split
  · rw [fail_at]; exact ruint_at h
  · exact ruint_at h
theorem rexpect_at {bs ds : List UInt8} {s : RS} {c : Int} (h : s.at_ ≤ bs.length) : (rexpect bs s ds c).1.at_ ≤ bs.length := by
  unfold rexpect
  split
  · exact h
  · split
    · rw [fail_at]; exact h
    · exact rtake_at h
def rc0 : Rc := ⟨0, 0, 0, 0, []⟩
def rsame (a b : Rc) : Bool := decide (a.sq = b.sq) && decide (a.id = b.id) && decide (a.cu = b.cu) && decide (a.of = b.of) && decide (a.bs = b.bs)
theorem rsame_refl (a : Rc) : rsame a a = true := by simp [rsame]
end Go.Pl
namespace Go.Cx
set_option linter.unusedVariables false
set_option linter.unusedSimpArgs false
open Go
def rcV (r : Pl.Rc) (p : Option Addr) (n cap : Nat) : List Value := [.int .u64 r.sq, .int .u64 r.id, .int .i64 r.cu, .int .i64 r.of, .slice p n cap]
/-- a record of the program's, its data -/
structure RcV where
  sq : Int
  id : Int
  cu : Int
  of : Int
  d : SB
def RcV.rc (x : RcV) : Pl.Rc := ⟨x.sq, x.id, x.cu, x.of, x.d.bs⟩
def encR (x : RcV) : List Value := [.int .u64 x.sq, .int .u64 x.id, .int .i64 x.cu, .int .i64 x.of, .slice x.d.p x.d.bs.length x.d.cap]
theorem encR_len (x : RcV) : (encR x).length = 5 := rfl
theorem encR_rc (x : RcV) : encR x = rcV x.rc x.d.p x.d.bs.length x.d.cap := rfl
def okR (W : World) (x : RcV) : Prop := Pl.okRc x.rc ∧ x.d.ok W
/-! ### One bit of a byte -/
theorem ofB8 (x : UInt8) : BitVec.ofInt IntKind.u8.bits (x.toNat : Int) = x.toBitVec := by
  show BitVec.ofInt 8 (x.toNat : Int) = x.toBitVec
  rw [BitVec.ofInt_natCast]
  exact BitVec.eq_of_toNat_eq (by rw [BitVec.toNat_ofNat]; exact Nat.mod_eq_of_lt x.toNat_lt)
theorem toB8 (b : UInt8) : IntKind.u8.wrap ((b.toBitVec.toNat : Nat) : Int) = (b.toNat : Int) := by
  rw [wrap8]
  have := b.toNat_lt
  show ((b.toNat % 256 : Nat) : Int) = _
  omega
theorem b_xor {a b : UInt8} : IntKind.u8.wrap (BitVec.ofInt IntKind.u8.bits (a.toNat : Int) ^^^ BitVec.ofInt IntKind.u8.bits (b.toNat : Int)).toNat = ((a ^^^ b).toNat : Int) := by
  rw [ofB8, ofB8]; exact toB8 (a ^^^ b)
theorem b_bit {j : Nat} (h : j < 8) : IntKind.u8.wrap ((1 : Int) * 2 ^ (min (j : Int).toNat IntKind.u8.bits)) = ((UInt8.ofNat (2 ^ j)).toNat : Int) := by
  match j, h with
  | 0, _ => rfl
  | 1, _ => rfl
  | 2, _ => rfl
  | 3, _ => rfl
  | 4, _ => rfl
  | 5, _ => rfl
  | 6, _ => rfl
  | 7, _ => rfl
theorem b_flip {d : UInt8} {j : Nat} (h : j < 8) : d ^^^ UInt8.ofNat (2 ^ j) ≠ d := fun e => by
  have h1 : UInt8.ofNat (2 ^ j) = 0 := by
    have := congrArg (d ^^^ ·) e
    simp only [← UInt8.xor_assoc, UInt8.xor_self, UInt8.zero_xor] at this
    exact this
  match j, h with
  | 0, _ => revert h1; decide
  | 1, _ => revert h1; decide
  | 2, _ => revert h1; decide
  | 3, _ => revert h1; decide
  | 4, _ => revert h1; decide
  | 5, _ => revert h1; decide
  | 6, _ => revert h1; decide
  | 7, _ => revert h1; decide
end Go.Cx
