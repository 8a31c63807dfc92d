/- The program logic of these proofs, part E: small laws that the printed walks name. No condition. -/
import Derived.Test.YtlgkhajmjgepaaaCxD
namespace Go.Cx
set_option linter.unusedVariables false
set_option linter.unusedSimpArgs false
open Go

section
variable {S : List (Nat × Value)} {x : Operand} {v : Value} {xs : List Operand} {vs : List Value}
theorem gvT {c b : Bool} (h : c = b) (v : Value) : gv c b v = v := by simp [gv, h]
theorem gx {c b : Bool} (hc : c = b) (h : ev S x = some (gv c b v)) : ev S x = some v := by rw [h, gvT hc]
theorem g_out {c b d b' : Bool} (h : (c == b && d == b') = true) : c = b := by simp at h; exact h.1
theorem gxo {c b d b' : Bool} (hc : (c == b && d == b') = true) (h : ev S x = some (gv c b v)) : ev S x = some v := gx (g_out hc) h
theorem gvn {c b d b' : Bool} (hc : c = b) (h : ev S x = some (gv (c == b && d == b') true v)) : ev S x = some (gv d b' v) := by
  rw [h]; subst hc; simp [gv]
theorem evs_n : evs S [] = some [] := rfl
theorem evs_c (hx : ev S x = some v) (hr : evs S xs = some vs) : evs S (x :: xs) = some (v :: vs) := by simp [evs, hx, hr]
end

section
variable {P : Program} {md : Md} {w : World} {n : Nat} {D : List Deferred} {S : List (Nat × Value)} {o : Oper}
theorem y_as {b c : Bool} (hy : ∀ a, Fr a n D S → Yl P md w a o (.bool b)) (h : b = c) : ∀ a, Fr a n D S → Yl P md w a o (.bool c) := h ▸ hy
theorem y_v {u v : Value} (hy : ∀ a, Fr a n D S → Yl P md w a o u) (h : u = v) : ∀ a, Fr a n D S → Yl P md w a o v := h ▸ hy
variable {dst : Option Tmp} {ty : TypeId} {pos : String} {af : Array Edge} {g : Option (Nat × Bool)}
theorem y_pickT {c x y : Operand} {v : Value} (hc : ev S c = some (.bool true)) (hx : ev S x = some v) : ∀ a, Fr a n D S → Yl P md w a ⟨dst, .pick c x y, ty, pos, af, g⟩ v := fun a hf u _ => by
  simp [execOp, hf.eval hc, hf.eval hx, asBool]
theorem y_pickF {c x y : Operand} {v : Value} (hc : ev S c = some (.bool false)) (hy : ev S y = some v) : ∀ a, Fr a n D S → Yl P md w a ⟨dst, .pick c x y, ty, pos, af, g⟩ v := fun a hf u _ => by
  simp [execOp, hf.eval hc, hf.eval hy, asBool]
theorem y_seql {t yt : TypeId} {x y : Operand} {a b : ByteArray} (hx : ev S x = some (.string a)) (hy : ev S y = some (.string b)) :
    ∀ c, Fr c n D S → Yl P md w c ⟨dst, .binOp .eql t x y yt, ty, pos, af, g⟩ (.bool (a.toList == b.toList)) := y_bin hx hy fun u => by
  simp [eqGuard, binOp, Op.stringOp]
theorem y_sneq {t yt : TypeId} {x y : Operand} {a b : ByteArray} (hx : ev S x = some (.string a)) (hy : ev S y = some (.string b)) :
    ∀ c, Fr c n D S → Yl P md w c ⟨dst, .binOp .neq t x y yt, ty, pos, af, g⟩ (.bool (!(a.toList == b.toList))) := y_bin hx hy fun u => by
  simp [eqGuard, binOp, Op.stringOp]
theorem run_eqB {P : Program} {d : Nat} {t : TypeId} {a b : Bool} (hu : P.underlying t = some .bool) (u : World) : (Op.equalIn (d + 1) t (.bool a) (.bool b)).run P u = .ok (a == b) u := by
  simp [Op.equalIn, run_und hu]
theorem run_eqB' {P : Program} {t : TypeId} {a b : Bool} (hu : P.underlying t = some .bool) (u : World) : (Op.equal t (.bool a) (.bool b)).run P u = .ok (a == b) u := run_eqB (d := 9999) hu u
theorem eqGuard_bool {P : Program} {op : BinOp} {t : TypeId} {x y : Operand} {a b : Bool} {u : World} : (eqGuard op t x y (.bool a) (.bool b)).run P u = .ok () u := by
  unfold eqGuard
  cases op <;> simp
theorem y_beql {t yt : TypeId} {x y : Operand} {a b : Bool} (hx : ev S x = some (.bool a)) (hy : ev S y = some (.bool b)) (hu : P.underlying t = some .bool) :
    ∀ c, Fr c n D S → Yl P md w c ⟨dst, .binOp .eql t x y yt, ty, pos, af, g⟩ (.bool (a == b)) := y_bin hx hy fun u => by
  simp [eqGuard_bool, binOp, run_eqB' hu]
theorem y_bneq {t yt : TypeId} {x y : Operand} {a b : Bool} (hx : ev S x = some (.bool a)) (hy : ev S y = some (.bool b)) (hu : P.underlying t = some .bool) :
    ∀ c, Fr c n D S → Yl P md w c ⟨dst, .binOp .neq t x y yt, ty, pos, af, g⟩ (.bool (!(a == b))) := y_bin hx hy fun u => by
  simp [eqGuard_bool, binOp, run_eqB' hu]
end

section
variable {P : Program} {r : Option Nat} {k : Ks} {ops : Array Oper} {md : Md} {n : Nat} {D : List Deferred} {S : List (Nat × Value)} {w : World} {i j l : Nat} {t u v : Tr}
/-- from here on in the order of the text -/
theorem a_cut (h : HR P r k ops none n D S t w) : HR P r k ops md n D S (.cut t) w := fun a hf => h a hf
theorem a_two (h1 : HR P r k ops md n D S (.act i t) w) (h2 : HR P r k ops md n D S (.act j u) w) : HR P r k ops md n D S (.act2 i t j u) w := fun a hf => ⟨h1 a hf, h2 a hf⟩
theorem a_three (h1 : HR P r k ops md n D S (.act i t) w) (h2 : HR P r k ops md n D S (.act j u) w) (h3 : HR P r k ops md n D S (.act l v) w) : HR P r k ops md n D S (.act3 i t j u l v) w := fun a hf => ⟨h1 a hf, h2 a hf, h3 a hf⟩
end

theorem nowT {Q : World → Prop} {w : World} (h : Q w) : ∀ u, Near none w u → Q u := fun u hu => by cases hu; exact h
theorem i64w {x : Int} (h1 : -9223372036854775808 ≤ x) (h2 : x ≤ 9223372036854775807) : IntKind.i64.wrap x = x := by
  have e : IntKind.i64.wrap x = if (x % 18446744073709551616) ≥ 9223372036854775808 then x % 18446744073709551616 - 18446744073709551616 else x % 18446744073709551616 := by
    simp [IntKind.wrap, IntKind.signed, IntKind.bits]
  rw [e]
  split <;> omega
theorem u64w {x : Int} (h1 : 0 ≤ x) (h2 : x ≤ 18446744073709551615) : IntKind.u64.wrap x = x := by
  have e : IntKind.u64.wrap x = x % 18446744073709551616 := by simp [IntKind.wrap, IntKind.signed, IntKind.bits]
  rw [e]; omega
theorem u32w {x : Int} (h1 : 0 ≤ x) (h2 : x ≤ 4294967295) : IntKind.u32.wrap x = x := by
  have e : IntKind.u32.wrap x = x % 4294967296 := by simp [IntKind.wrap, IntKind.signed, IntKind.bits]
  rw [e]; omega
theorem u8w {x : Int} (h1 : 0 ≤ x) (h2 : x ≤ 255) : IntKind.u8.wrap x = x := by
  have e : IntKind.u8.wrap x = x % 256 := by simp [IntKind.wrap, IntKind.signed, IntKind.bits]
  rw [e]; omega
end Go.Cx
