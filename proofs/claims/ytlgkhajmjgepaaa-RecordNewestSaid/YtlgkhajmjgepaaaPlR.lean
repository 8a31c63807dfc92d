/- Plain law of checksums: bit by bit, nibble by nibble; one flipped bit. No condition. -/
import Derived.Test.YtlgkhajmjgepaaaEnA
namespace Go.Pl
set_option linter.unusedVariables false
set_option linter.unusedSimpArgs false
def poly : UInt32 := 3988292384
def crcBit (x : UInt32) : UInt32 := (x >>> 1) ^^^ (poly &&& -(x &&& 1))
theorem and1 (x : UInt32) : (x &&& 1).toNat = x.toNat % 2 := by
  rw [UInt32.toNat_and]
  exact Nat.and_one_is_mod _
theorem and1_cases (x : UInt32) : (x &&& 1 = 0 ∧ x.toNat % 2 = 0) ∨ (x &&& 1 = 1 ∧ x.toNat % 2 = 1) := by
  have h := and1 x
  rcases Nat.mod_two_eq_zero_or_one x.toNat with h0 | h0
  · exact .inl ⟨UInt32.toNat_inj.1 (by rw [h, h0]; rfl), h0⟩
  · exact .inr ⟨UInt32.toNat_inj.1 (by rw [h, h0]; rfl), h0⟩
theorem crcBit_eq (x : UInt32) : crcBit x = if x.toNat % 2 = 1 then (x >>> 1) ^^^ poly else x >>> 1 := by
  unfold crcBit
  rcases and1_cases x with ⟨h, h0⟩ | ⟨h, h0⟩
  · rw [h, if_neg (by omega), show poly &&& -(0 : UInt32) = 0 by decide]
    exact UInt32.xor_zero
  · rw [h, if_pos h0, show poly &&& -(1 : UInt32) = poly by decide]
theorem shr1 (x : UInt32) : (x >>> 1).toNat = x.toNat / 2 := by
  rw [UInt32.toNat_shiftRight]
  show x.toNat >>> (1 % 32) = _
  rw [Nat.shiftRight_eq_div_pow]
theorem bitEq {a b : UInt32} (h : ∀ i, i < 32 → a.toNat.testBit i = b.toNat.testBit i) : a = b := by
  apply UInt32.toNat_inj.1
  apply Nat.eq_of_testBit_eq
  intro i
  by_cases hi : i < 32
  · exact h i hi
  · have e : ∀ n : Nat, n < 4294967296 → n.testBit i = false := fun n hn => Nat.testBit_lt_two_pow (Nat.lt_of_lt_of_le hn (by
      have : 2 ^ 32 ≤ 2 ^ i := Nat.pow_le_pow_right (by decide) (by omega)
      simpa using this))
    rw [e _ a.toNat_lt, e _ b.toNat_lt]
theorem crcBit_xor (x y : UInt32) : crcBit (x ^^^ y) = crcBit x ^^^ crcBit y := by
  have hs : (x ^^^ y) >>> 1 = (x >>> 1) ^^^ (y >>> 1) := bitEq fun i hi => by
    simp only [shr1, UInt32.toNat_xor, Nat.testBit_xor, ← Nat.testBit_succ]
  have hp : (x ^^^ y).toNat % 2 = (x.toNat % 2 + y.toNat % 2) % 2 := by
    rw [UInt32.toNat_xor]
    have := Nat.testBit_xor x.toNat y.toNat 0
    simp only [Nat.testBit_zero] at this
    have h1 := Nat.mod_two_eq_zero_or_one x.toNat
    have h2 := Nat.mod_two_eq_zero_or_one y.toNat
    have h3 := Nat.mod_two_eq_zero_or_one (x.toNat ^^^ y.toNat)
    rcases h1 with h1 | h1 <;> rcases h2 with h2 | h2 <;> rcases h3 with h3 | h3 <;> simp_all
  rw [crcBit_eq, crcBit_eq, crcBit_eq, hp, hs]
  have h1 := Nat.mod_two_eq_zero_or_one x.toNat
  have h2 := Nat.mod_two_eq_zero_or_one y.toNat
  generalize x >>> 1 = a
  generalize y >>> 1 = b
  have key : ∀ p q r : Bool, ((p ^^ q) = (p ^^ q)) ∧ (((p ^^ q) ^^ r) = (p ^^ (q ^^ r))) ∧ (((p ^^ q) ^^ r) = ((p ^^ r) ^^ q)) ∧ ((p ^^ q) = ((p ^^ r) ^^ (q ^^ r))) := by decide
  rcases h1 with h1 | h1 <;> rcases h2 with h2 | h2 <;> rw [h1, h2] <;> refine bitEq fun i hi => ?_ <;> simp only [Nat.reduceAdd, Nat.reduceMod, Nat.zero_ne_one, if_true, if_false, UInt32.toNat_xor, Nat.testBit_xor]
  · exact (key _ _ (poly.toNat.testBit i)).2.1
  · exact (key _ _ (poly.toNat.testBit i)).2.2.1
  · exact (key _ _ (poly.toNat.testBit i)).2.2.2
theorem crcBit_even {x : UInt32} (h : x.toNat % 2 = 0) : (crcBit x).toNat = x.toNat / 2 := by
  rw [crcBit_eq, if_neg (by omega), shr1]
def crc4 (x : UInt32) : UInt32 := crcBit (crcBit (crcBit (crcBit x)))
theorem crc4_xor (x y : UInt32) : crc4 (x ^^^ y) = crc4 x ^^^ crc4 y := by
  unfold crc4; simp only [crcBit_xor]
theorem crc4_low {x : UInt32} (h : x.toNat % 16 = 0) : (crc4 x).toNat = x.toNat / 16 := by
  have h1 := crcBit_even (x := x) (by omega)
  have h2 := crcBit_even (x := crcBit x) (by omega)
  have h3 := crcBit_even (x := crcBit (crcBit x)) (by omega)
  have h4 := crcBit_even (x := crcBit (crcBit (crcBit x))) (by omega)
  unfold crc4
  omega
theorem and15 (x : UInt32) : (x &&& 15).toNat = x.toNat % 16 := by
  rw [UInt32.toNat_and]
  exact Nat.and_two_pow_sub_one_eq_mod x.toNat 4
theorem shr4 (x : UInt32) : (x >>> 4).toNat = x.toNat / 16 := by
  rw [UInt32.toNat_shiftRight]
  show x.toNat >>> (4 % 32) = _
  rw [Nat.shiftRight_eq_div_pow]
/-- four steps at once -/
theorem crc4_nib (x : UInt32) : (x >>> 4) ^^^ crc4 (x &&& 15) = crc4 x := by
  obtain ⟨y, hy⟩ : ∃ y : UInt32, y.toNat = x.toNat / 16 * 16 := ⟨UInt32.ofNat (x.toNat / 16 * 16), by
    rw [UInt32.toNat_ofNat']; have := x.toNat_lt; exact Nat.mod_eq_of_lt (by show _ < 4294967296; omega)⟩
  have hx : x = y ^^^ (x &&& 15) := bitEq fun i hi => by
    rw [UInt32.toNat_xor, Nat.testBit_xor, and15, hy]
    have e1 : (x.toNat / 16 * 16).testBit i = (decide (4 ≤ i) && x.toNat.testBit i) := by
      have h2 : x.toNat / 16 * 16 = (x.toNat >>> 4) <<< 4 := by rw [Nat.shiftRight_eq_div_pow, Nat.shiftLeft_eq]
      rw [h2, Nat.testBit_shiftLeft]
      by_cases h4 : 4 ≤ i
      · simp [h4, Nat.testBit_shiftRight, show 4 + (i - 4) = i by omega]
      · simp [h4]
    have e2 : (x.toNat % 16).testBit i = (decide (i < 4) && x.toNat.testBit i) := Nat.testBit_mod_two_pow x.toNat 4 i
    rw [e1, e2]
    by_cases h4 : 4 ≤ i
    · simp [h4, show ¬ i < 4 by omega]
    · simp [h4, show i < 4 by omega]
  have h1 : crc4 y = x >>> 4 := UInt32.toNat_inj.1 (by rw [crc4_low (by omega), hy, shr4]; omega)
  conv => rhs; rw [hx, crc4_xor, h1]
def crc8 (x : UInt32) : UInt32 := crc4 (crc4 x)
def crcByte (r : UInt32) (c : UInt8) : UInt32 := crc8 (r ^^^ c.toUInt32)
def crcReg (r : UInt32) (bs : List UInt8) : UInt32 := bs.foldl crcByte r
def crc (bs : List UInt8) : UInt32 := ~~~ (crcReg (~~~ 0) bs)
theorem crcReg_app (r : UInt32) (a b : List UInt8) : crcReg r (a ++ b) = crcReg (crcReg r a) b := List.foldl_append
/-! ### Injectivity -/
theorem crcBit_inj {x y : UInt32} (h : crcBit x = crcBit y) : x = y := by
  have top : ∀ z : UInt32, (crcBit z).toNat.testBit 31 = decide (z.toNat % 2 = 1) := fun z => by
    have h1 : (z >>> 1).toNat.testBit 31 = false := Nat.testBit_lt_two_pow (by rw [shr1]; have := z.toNat_lt; show _ < 2147483648; omega)
    rw [crcBit_eq]
    split
    · rename_i h2
      rw [UInt32.toNat_xor, Nat.testBit_xor, h1, decide_eq_true h2, show poly.toNat.testBit 31 = true by decide]; rfl
    · rename_i h2
      rw [h1, decide_eq_false h2]
  have hp : decide (x.toNat % 2 = 1) = decide (y.toNat % 2 = 1) := by rw [← top x, ← top y, h]
  have hs : (x >>> 1) = (y >>> 1) := by
    rw [crcBit_eq, crcBit_eq] at h
    by_cases hx : x.toNat % 2 = 1
    · have hy : y.toNat % 2 = 1 := by simpa [hx] using hp
      rw [if_pos hx, if_pos hy] at h
      have := congrArg (· ^^^ poly) h
      simpa [UInt32.xor_assoc] using this
    · have hy : ¬ y.toNat % 2 = 1 := by simpa [hx] using hp
      rw [if_neg hx, if_neg hy] at h
      exact h
  have h3 := congrArg UInt32.toNat hs
  rw [shr1, shr1] at h3
  have h4 : x.toNat % 2 = y.toNat % 2 := by
    rcases Nat.mod_two_eq_zero_or_one x.toNat with h1 | h1 <;> rcases Nat.mod_two_eq_zero_or_one y.toNat with h2 | h2 <;> simp_all
  exact UInt32.toNat_inj.1 (by omega)
theorem crc8_inj {x y : UInt32} (h : crc8 x = crc8 y) : x = y :=
  crcBit_inj (crcBit_inj (crcBit_inj (crcBit_inj (crcBit_inj (crcBit_inj (crcBit_inj (crcBit_inj h)))))))
theorem xor_can {a b c : UInt32} (h : a ^^^ c = b ^^^ c) : a = b := by
  have := congrArg (· ^^^ c) h
  simpa [UInt32.xor_assoc] using this
theorem xor_can' {a b c : UInt32} (h : c ^^^ a = c ^^^ b) : a = b := by
  rw [UInt32.xor_comm c a, UInt32.xor_comm c b] at h
  exact xor_can h
theorem crcReg_inj : ∀ {bs : List UInt8} {r s : UInt32}, crcReg r bs = crcReg s bs → r = s
  | [], _, _, h => h
  | c :: l, r, s, h => by
    have h1 : crcByte r c = crcByte s c := crcReg_inj (bs := l) h
    exact xor_can (crc8_inj h1)
/-- two messages that differ in one byte have different checksums -/
theorem crc_ne {a b : List UInt8} {c d : UInt8} (h : c ≠ d) : crc (a ++ c :: b) ≠ crc (a ++ d :: b) := fun e => by
  unfold crc at e
  have e1 : crcReg (~~~ 0) (a ++ c :: b) = crcReg (~~~ 0) (a ++ d :: b) := by
    have := congrArg (~~~ ·) e
    simpa using this
  rw [crcReg_app, crcReg_app] at e1
  have e2 : crcByte (crcReg (~~~ 0) a) c = crcByte (crcReg (~~~ 0) a) d := crcReg_inj (bs := b) e1
  have e3 := xor_can' (crc8_inj e2)
  refine h (UInt8.toNat_inj.1 ?_)
  have := congrArg UInt32.toNat e3
  simpa using this
def leS (s : UInt32) : List UInt8 := [s.toUInt8, (s >>> 8).toUInt8, (s >>> 16).toUInt8, (s >>> 24).toUInt8]
theorem leS_inj {s t : UInt32} (h : leS s = leS t) : s = t := by
  unfold leS at h
  simp only [List.cons.injEq, and_true] at h
  obtain ⟨h0, h1, h2, h3⟩ := h
  have g : ∀ x : UInt32, x.toUInt8.toNat = x.toNat % 256 := fun x => by rw [UInt32.toNat_toUInt8]
  have k8 : ∀ x : UInt32, (x >>> 8).toNat = x.toNat / 256 := fun x => by rw [UInt32.toNat_shiftRight]; show x.toNat >>> (8 % 32) = _; rw [Nat.shiftRight_eq_div_pow]
  have k16 : ∀ x : UInt32, (x >>> 16).toNat = x.toNat / 65536 := fun x => by rw [UInt32.toNat_shiftRight]; show x.toNat >>> (16 % 32) = _; rw [Nat.shiftRight_eq_div_pow]
  have k24 : ∀ x : UInt32, (x >>> 24).toNat = x.toNat / 16777216 := fun x => by rw [UInt32.toNat_shiftRight]; show x.toNat >>> (24 % 32) = _; rw [Nat.shiftRight_eq_div_pow]
  have q0 := congrArg UInt8.toNat h0
  have q1 := congrArg UInt8.toNat h1
  have q2 := congrArg UInt8.toNat h2
  have q3 := congrArg UInt8.toNat h3
  rw [g, g] at q0
  rw [g, g, k8, k8] at q1
  rw [g, g, k16, k16] at q2
  rw [g, g, k24, k24] at q3
  have hs := s.toNat_lt
  have ht := t.toNat_lt
  exact UInt32.toNat_inj.1 (by omega)
end Go.Pl
