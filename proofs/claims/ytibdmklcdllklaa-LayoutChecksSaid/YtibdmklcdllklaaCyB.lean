/- Glue for digests: words in rows, slices that begin within a row, hashes. No condition. -/
import Derived.Test.YtibdmklcdllklaaCxW
import Derived.Test.YtibdmklcdllklaaCxZ
import Derived.Test.YtibdmklcdllklaaPlU
namespace Go.Cx
set_option linter.unusedVariables false
set_option linter.unusedSimpArgs false
open Go
def W32 (x : UInt32) : Value := .int .u32 (x.toNat : Int)
def encU (x : Nat) : List Value := [.int .u64 (x : Int)]
theorem encU_len (x : Nat) : (encU x).length = 1 := rfl
theorem addK {a : Nat} (b : Nat) (h : a + b ≤ 9223372036854775807) : IntKind.i64.wrap ((a : Int) + (b : Int)) = ((a + b : Nat) : Int) := by
  have e : (a : Int) + (b : Int) = ((a + b : Nat) : Int) := by norm_cast
  rw [e]; exact i64w (by omega) (by omega)
theorem mulK (a : Nat) {b : Nat} (h : a * b ≤ 9223372036854775807) : IntKind.i64.wrap ((a : Int) * (b : Int)) = ((a * b : Nat) : Int) := by
  have e : (a : Int) * (b : Int) = ((a * b : Nat) : Int) := by norm_cast
  rw [e]; exact i64w (by omega) (by omega)
theorem subK {a : Nat} (b : Nat) (h : b ≤ a) (h2 : a ≤ 9223372036854775807) : IntKind.i64.wrap ((a : Int) - (b : Int)) = ((a - b : Nat) : Int) := by
  have e : (a : Int) - (b : Int) = ((a - b : Nat) : Int) := by omega
  rw [e]; exact i64w (by omega) (by omega)
theorem u64N {n : Nat} : IntKind.u64.wrap (n : Int) = ((n % 18446744073709551616 : Nat) : Int) := by
  simp only [IntKind.wrap, IntKind.signed, IntKind.bits, Bool.false_and, Bool.false_eq_true, if_false]
  omega
theorem i64N {n : Nat} (h : n ≤ 9223372036854775807) : IntKind.i64.wrap (n : Int) = (n : Int) := i64w (by omega) (by omega)
theorem ofI64 (n : Nat) (h : n < 18446744073709551616) : (BitVec.ofInt 64 (n : Int)).toNat = n := by
  rw [BitVec.ofInt_natCast, BitVec.toNat_ofNat]; exact Nat.mod_eq_of_lt h
theorem i_and15 {n : Nat} (h : n < 9223372036854775808) : IntKind.i64.wrap ((BitVec.ofInt IntKind.i64.bits (n : Int) &&& BitVec.ofInt IntKind.i64.bits (15 : Int)).toNat : Int) = ((n % 16 : Nat) : Int) := by
  have e : (BitVec.ofInt IntKind.i64.bits (n : Int) &&& BitVec.ofInt IntKind.i64.bits (15 : Int)).toNat = n % 16 := by
    show (BitVec.ofInt 64 (n : Int) &&& BitVec.ofInt 64 (((15 : Nat)) : Int)).toNat = n % 16
    rw [BitVec.toNat_and, ofI64 n (by omega), ofI64 15 (by decide)]
    exact Nat.and_two_pow_sub_one_eq_mod n 4
  rw [e]; exact i64N (by omega)
theorem u_and {k n : Nat} (h : n < 18446744073709551616) (m : Nat) (hm : m + 1 = 2 ^ k) (hk : k ≤ 32) : IntKind.u64.wrap ((BitVec.ofInt IntKind.u64.bits (n : Int) &&& BitVec.ofInt IntKind.u64.bits (m : Int)).toNat : Int) = ((n % 2 ^ k : Nat) : Int) := by
  have hp : 2 ^ k ≤ 2 ^ 32 := Nat.pow_le_pow_right (by decide) hk
  have hml : m < 18446744073709551616 := by
    have : (2 : Nat) ^ 32 = 4294967296 := rfl
    omega
  have e : (BitVec.ofInt IntKind.u64.bits (n : Int) &&& BitVec.ofInt IntKind.u64.bits (m : Int)).toNat = n % 2 ^ k := by
    show (BitVec.ofInt 64 (n : Int) &&& BitVec.ofInt 64 (m : Int)).toNat = _
    rw [BitVec.toNat_and, ofI64 n h, ofI64 m hml, show m = 2 ^ k - 1 by omega]
    exact Nat.and_two_pow_sub_one_eq_mod n k
  rw [e, u64N]
  have := Nat.mod_le n (2 ^ k)
  congr 1
  exact Nat.mod_eq_of_lt (by omega)
theorem u_shr {n k : Nat} {j : Int} (hj : j = (k : Int)) (hk : k ≤ 64) : (n : Int).fdiv (2 ^ (min j.toNat IntKind.u64.bits)) = ((n / 2 ^ k : Nat) : Int) := by
  subst hj
  rw [show min (k : Int).toNat IntKind.u64.bits = k by show min _ 64 = _; omega, fdivN, Nat.shiftRight_eq_div_pow]
theorem u_add {a b : Nat} (h : a + b < 18446744073709551616) : IntKind.u64.wrap ((a : Int) + (b : Int)) = ((a + b : Nat) : Int) := by
  have e : (a : Int) + (b : Int) = ((a + b : Nat) : Int) := by norm_cast
  rw [e, u64N, Nat.mod_eq_of_lt h]
theorem u_mul {a b : Nat} (h : a * b < 18446744073709551616) : IntKind.u64.wrap ((a : Int) * (b : Int)) = ((a * b : Nat) : Int) := by
  have e : (a : Int) * (b : Int) = ((a * b : Nat) : Int) := by norm_cast
  rw [e, u64N, Nat.mod_eq_of_lt h]
theorem u_sub {a b : Nat} (h : b ≤ a) (h2 : a < 18446744073709551616) : IntKind.u64.wrap ((a : Int) - (b : Int)) = ((a - b : Nat) : Int) := by
  have e : (a : Int) - (b : Int) = ((a - b : Nat) : Int) := by omega
  rw [e, u64N, Nat.mod_eq_of_lt (by omega)]
theorem u_shl {a k : Nat} {j : Int} (hj : j = (k : Int)) (hk : k ≤ 64) (h : a * 2 ^ k < 18446744073709551616) : IntKind.u64.wrap ((a : Int) * 2 ^ (min j.toNat IntKind.u64.bits)) = ((a * 2 ^ k : Nat) : Int) := by
  subst hj
  rw [show min (k : Int).toNat IntKind.u64.bits = k by show min _ 64 = _; omega]
  have e : (a : Int) * 2 ^ k = ((a * 2 ^ k : Nat) : Int) := by norm_cast
  rw [e, u64N, Nat.mod_eq_of_lt h]
/-! ### One-cell elements in a row -/
theorem set1 {α : Type} {enc : α → List Value} (f : α → Value) (he : ∀ x, enc x = [f x]) : ∀ (xs : List α) (i : Nat) (y : α), upds (xs.flatMap enc) (0 + i * 1) [f y] = (xs.set i y).flatMap enc
  | [], i, y => by simp [upds, upd]
  | x :: r, 0, y => by simp [upds, he, upd]
  | x :: r, i + 1, y => by
    have := set1 f he r i y
    simp only [Nat.zero_add, Nat.mul_one, upds] at this ⊢
    simp only [List.flatMap_cons, he, List.cons_append, List.nil_append, upd, List.set_cons_succ, this]
theorem get1 {α : Type} {enc : α → List Value} (f : α → Value) (he : ∀ x, enc x = [f x]) {xs : List α} {i : Nat} {y : α} (h : xs[i]? = some y) : nth (xs.flatMap enc) (0 + i * 1) = some (f y) := by
  rw [nth_eq, Nat.zero_add]
  have := fm_get (enc := enc) (es := 1) (fun x => by rw [he]; rfl) xs i 0 y h (by decide)
  rw [Nat.add_zero] at this
  rw [this, he]; rfl
theorem setW (xs : List UInt32) (i : Nat) (y : UInt32) : upds (xs.flatMap encW) (0 + i * 1) [.int .u32 (y.toNat : Int)] = (xs.set i y).flatMap encW := set1 (fun x : UInt32 => .int .u32 (x.toNat : Int)) (fun _ => rfl) xs i y
theorem getW {xs : List UInt32} {i : Nat} {y : UInt32} (h : xs[i]? = some y) : nth (xs.flatMap encW) (0 + i * 1) = some (.int .u32 (y.toNat : Int)) := get1 (fun x : UInt32 => .int .u32 (x.toNat : Int)) (fun _ => rfl) h
theorem setU (xs : List Nat) (i : Nat) (y : Nat) : upds (xs.flatMap encU) (0 + i * 1) [.int .u64 (y : Int)] = (xs.set i y).flatMap encU := set1 (fun x : Nat => .int .u64 (x : Int)) (fun _ => rfl) xs i y
theorem getU {xs : List Nat} {i : Nat} {y : Nat} (h : xs[i]? = some y) : nth (xs.flatMap encU) (0 + i * 1) = some (.int .u64 (y : Int)) := get1 (fun x : Nat => .int .u64 (x : Int)) (fun _ => rfl) h
theorem setB0 (xs : List UInt8) (i : Nat) (y : UInt8) : upds (xs.flatMap encB) (0 + i * 1) [.int .u8 (y.toNat : Int)] = (xs.set i y).flatMap encB := set1 (fun x : UInt8 => .int .u8 (x.toNat : Int)) (fun _ => rfl) xs i y
theorem getB0 {xs : List UInt8} {i : Nat} {y : UInt8} (h : xs[i]? = some y) : nth (xs.flatMap encB) (0 + i * 1) = some (.int .u8 (y.toNat : Int)) := get1 (fun x : UInt8 => .int .u8 (x.toNat : Int)) (fun _ => rfl) h
theorem oneW : ∀ xs : List UInt32, (xs.flatMap encW).all (·.oneCell') = true
  | [] => rfl
  | x :: r => by rw [List.flatMap_cons, List.all_append, oneW r]; rfl
theorem lenW (xs : List UInt32) : (xs.flatMap encW).length = xs.length * 1 := fm_length encW_len xs
theorem oneU : ∀ xs : List Nat, (xs.flatMap encU).all (·.oneCell') = true
  | [] => rfl
  | x :: r => by rw [List.flatMap_cons, List.all_append, oneU r]; rfl
theorem lenU (xs : List Nat) : (xs.flatMap encU).length = xs.length * 1 := fm_length encU_len xs
theorem lenB0 (xs : List UInt8) : (xs.flatMap encB).length = xs.length := by rw [lenB, Nat.mul_one]
/-- filling from the front -/
theorem fill_next {α : Type} {xs : List α} {z y : α} {i n : Nat} (hl : xs.length = i) (hi : i < n) : (xs ++ List.replicate (n - i) z).set i y = (xs ++ [y]) ++ List.replicate (n - (i + 1)) z := by
  rw [List.set_append_right _ _ (by omega), hl, Nat.sub_self, show n - i = (n - (i + 1)) + 1 by omega, List.replicate_succ, List.set_cons_zero, List.append_assoc]
  rfl
theorem takeP {l : List Value} {m : Nat} : ∀ (j : Nat) v, (l.take m)[j]? = some v → l[0 + 0 * 1 + j]? = some v := fun j v hj => by
  rw [List.getElem?_take] at hj
  split at hj
  · simpa using hj
  · cases hj
/-! ### Operations -/
section
variable {P : Program} {md : Md} {w : World} {n : Nat} {D : List Deferred} {S : List (Nat × Value)} {dst : Option Tmp} {ty : TypeId} {pos : String} {af : Array Edge} {g : Option (Nat × Bool)}
/-- an element of an array value, one cell -/
theorem y_indexV {T an e : Nat} {x y : Operand} {cs : List Value} {k' : IntKind} {j : Nat} {v : Value} (hx : ev S x = some (.agg ⟨cs⟩)) (hy : ev S y = some (.int k' (j : Int))) (hT : arrO P T = some (an, e, 1)) (hs : scal P e = true) (h1 : j < an) (hv : nth cs (0 + j * 1) = some v) :
    ∀ a, Fr a n D S → Yl P md w a ⟨dst, .index T x y, ty, pos, af, g⟩ v := fun a hf u _ => by
  obtain ⟨hu, i, hi, hsz⟩ := arrO_spec hT
  have hsz' : (sizeOf e).run P u = .ok 1 u := by simp [sizeOf, typeInfo, hi, hsz]
  have hag := run_isAgg_f (w := u) hs
  have h1' : (j : Int) < an := by omega
  rw [nth_eq, Nat.zero_add, Nat.mul_one] at hv
  simp [execOp, hf.eval hx, hf.eval hy, Instr.index, asIntOf, run_und hu, h1', hsz', part, hag, hv]
  exact fun h => absurd h (by omega)
/-- a byte of a string -/
theorem y_indexS {T : Nat} {x y : Operand} {bs : List UInt8} {k' : IntKind} {j : Nat} {c : UInt8} (hx : ev S x = some (.string (bstr bs))) (hy : ev S y = some (.int k' (j : Int))) (hT : P.underlying T = some .string) (hv : bs[j]? = some c) :
    ∀ a, Fr a n D S → Yl P md w a ⟨dst, .index T x y, ty, pos, af, g⟩ (.int .u8 (c.toNat : Int)) := fun a hf u _ => by
  have hlt : j < bs.length := (List.getElem?_eq_some_iff.1 hv).1
  have hb : (bstr bs)[j]? = some c := by
    rw [getElem?_pos (bstr bs) j (show j < (bstr bs).size from hlt)]
    congr 1
    show bs.toArray[j] = c
    simpa using (List.getElem?_eq_some_iff.1 hv).2
  simp [execOp, hf.eval hx, hf.eval hy, Instr.index, asIntOf, run_und hT, hb]
/-- a part of an array at an address -/
theorem y_sliceP {T an e es : Nat} {x : Operand} {lo hi : Option Operand} {m off ln hn : Nat} (hx : ev S x = some (.pointer (some ⟨m, off, none⟩))) (hT : arrO P T = some (an, e, es))
    (hlo : (match lo with | none => ln = 0 | some y => ∃ k', ev S y = some (.int k' ln)) ) (hhi : (match hi with | none => hn = an | some y => ∃ k', ev S y = some (.int k' hn))) (h1 : ln ≤ hn) (h2 : hn ≤ an) (h3 : ln < an) :
    ∀ a, Fr a n D S → Yl P md w a ⟨dst, .slice T x lo hi none, ty, pos, af, g⟩ (.slice (some ⟨m, off + ln * es, none⟩) (hn - ln) (an - ln)) := fun a hf u _ => by
  obtain ⟨hu, i, hi', hs⟩ := arrO_spec hT
  have hsz : (sizeOf e).run P u = .ok es u := by simp [sizeOf, typeInfo, hi', hs]
  have hb : (Instr.sliceBounds false an an (lo.map a.eval) (hi.map a.eval) none).run P u = .ok (ln, hn, an) u := by
    have e1 : ∀ (k' : IntKind) (m y : Nat) (cd : BoundsCode), m ≤ y → (Instr.sliceBound (.int k' m) y cd).run P u = .ok m u := fun k' m y cd h => by
      have h' : (m : Int) ≤ y := by omega
      simp [Instr.sliceBound, asIntOf, h']
    unfold Instr.sliceBounds
    cases lo with
    | none =>
      subst hlo
      cases hi with
      | none => subst hhi; simp
      | some y => obtain ⟨k', hy⟩ := hhi; simp [hf.eval hy, e1 k' hn an _ h2]
    | some z =>
      obtain ⟨k2, hz⟩ := hlo
      cases hi with
      | none => subst hhi; simp [hf.eval hz, e1 k2 ln _ _ h1]
      | some y => obtain ⟨k', hy⟩ := hhi; simp [hf.eval hy, hf.eval hz, e1 k' hn an _ h2, e1 k2 ln _ _ h1]
  have hp : (if an = ln then (⟨m, off, none⟩ : Addr) else (⟨m, off, none⟩ : Addr).add (ln * es)) = ⟨m, off + ln * es, none⟩ := by
    rw [if_neg (by omega)]
    unfold Addr.add; split
    · rename_i h; rw [h]; simp
    · simp
  simp only [execOp, hf.eval hx, Option.map_none, Instr.sliceAt, Sem.run_bind, run_und hu, Result.andThen_ok, Instr.sureAddr, hb, hsz, Sem.run_pure, hp]
/-- a part of a string -/
theorem y_sliceS {T : Nat} {x : Operand} {lo hi : Option Operand} {bs : List UInt8} {ln hn : Nat} (hx : ev S x = some (.string (bstr bs))) (hT : P.underlying T = some .string)
    (hlo : (match lo with | none => ln = 0 | some y => ∃ k', ev S y = some (.int k' ln)) ) (hhi : (match hi with | none => hn = bs.length | some y => ∃ k', ev S y = some (.int k' hn))) (h1 : ln ≤ hn) (h2 : hn ≤ bs.length) :
    ∀ a, Fr a n D S → Yl P md w a ⟨dst, .slice T x lo hi none, ty, pos, af, g⟩ (.string (bstr ((bs.drop ln).take (hn - ln)))) := fun a hf u _ => by
  have hb : (Instr.sliceBounds false (bstr bs).size (bstr bs).size (lo.map a.eval) (hi.map a.eval) none).run P u = .ok (ln, hn, (bstr bs).size) u := by
    have e1 : ∀ (k' : IntKind) (m y : Nat) (cd : BoundsCode), m ≤ y → (Instr.sliceBound (.int k' m) y cd).run P u = .ok m u := fun k' m y cd h => by
      have h' : (m : Int) ≤ y := by omega
      simp [Instr.sliceBound, asIntOf, h']
    have hs : (bstr bs).size = bs.length := rfl
    unfold Instr.sliceBounds
    cases lo with
    | none =>
      subst hlo
      cases hi with
      | none => subst hhi; simp [hs]
      | some y => obtain ⟨k', hy⟩ := hhi; simp [hf.eval hy, e1 k' hn _ _ (hs ▸ h2)]
    | some z =>
      obtain ⟨k2, hz⟩ := hlo
      cases hi with
      | none => subst hhi; simp [hf.eval hz, e1 k2 ln _ _ h1, hs]
      | some y => obtain ⟨k', hy⟩ := hhi; simp [hf.eval hy, hf.eval hz, e1 k' hn _ _ (hs ▸ h2), e1 k2 ln _ _ h1]
  have he : (bstr bs).extract ln hn = bstr ((bs.drop ln).take (hn - ln)) := by
    apply ByteArray.ext
    show ((bstr bs).extract ln hn).data = ((bs.drop ln).take (hn - ln)).toArray
    rw [ByteArray.data_extract]
    apply Array.ext'
    simp [bstr, List.extract_eq_take_drop]
  simp only [execOp, hf.eval hx, Option.map_none, Instr.sliceAt, Sem.run_bind, run_und hT, Result.andThen_ok, Instr.slice, Option.isSome_none, Bool.false_eq_true, if_false, hb, Sem.run_pure, he]
end
section
variable {P : Program} {r : Option Nat} {k : Ks} {ops : Array Oper} {md : Md} {n : Nat} {D : List Deferred} {S : List (Nat × Value)} {w : World} {i : Nat} {t : Tr}
variable {ty : TypeId} {pos : String} {af : Array Edge} {g : Option (Nat × Bool)} {dst : Option Tmp} {d : Nat} {w0 : World} {X : Bs} {L : List (Nat × Blk)}
/-- copy into a row of the call's own, whatever type it was made with -/
theorem run_copyE {T e e2 es bs : Nat} {ts : Array TypeId} {ty : TypeId} {g o dl dc sl sc : Nat} {q : Option Addr} {l src : List Value} (hT : slcO P T = some (e, es, bs)) (hts : ts[0]? = some T) (hg : w.heap[g]? = some (Blk.row e2 l).toObj) (hfit : o + dl * es ≤ l.length) (hq : Rd w q src) (hs : src.length = min sl dl * es) (h1 : src.all (·.oneCell') = true) :
    (Builtin.copy_ ts ty #[.slice (some ⟨g, o, none⟩) dl dc, .slice q sl sc]).run P w = .ok (.int .i64 (min sl dl : Nat)) (w.setRow g ⟨upds l o src⟩) := by
  obtain ⟨hu, i, hi, hsz, hby⟩ := slcO_spec hT
  have hsize : ∀ u : World, (sizeOf e).run P u = .ok es u := fun u => by simp [sizeOf, typeInfo, hi, hsz]
  have hf := run_firstRd (P := P) (len := sl) (cap := sc) hq hs
  have hmin : Nat.min sl dl = min sl dl := rfl
  have hle : o + src.length ≤ l.length := by
    rw [hs]
    have : min sl dl * es ≤ dl * es := Nat.mul_le_mul_right _ (Nat.min_le_right _ _)
    omega
  have hst := run_storeCells_at P g o e2 src 0 ⟨l⟩ w hg (by simpa using hle) (by simpa using h1)
  simp only [Nat.add_zero] at hst
  rw [← upds_eq src l o hle] at hst
  unfold Builtin.copy_
  simp only [hts, List.getElem?_toArray, List.getElem?_cons_zero, List.getElem?_cons_succ, Sem.run_bind, run_und hu, Result.andThen_ok, hsize, Sem.run_pure, Builtin.lenOf, hf, hst, hmin]
  rfl
/-- copy into an own row -/
theorem a_copyR {T e e2 es bs : Nat} {x y : Operand} {ts : Array TypeId} {q : Option Addr} {o dl dc sl sc gg : Nat} {l src : List Value}
    (ho : opu ops S i = some (⟨dst, .call ⟨.builtin .copy, #[x, y], ts⟩, ty, pos, af, g⟩, d)) (hd : Nat.blt d n = true) (hx : ev S x = some (.slice (some ⟨gg, o, none⟩) dl dc)) (hy : ev S y = some (.slice q sl sc)) (hts : ts[0]? = some T)
    (hT : slcO P T = some (e, es, bs)) (hm : Mem w0 w X L) (j : Nat) (hj : blk L j = some (gg, .row e2 l)) (hfit : o + dl * es ≤ l.length) (hq : Rd w q src) (hs : src.length = min sl dl * es) (h1 : src.all (·.oneCell') = true)
    (h : ∀ w', Mem w0 w' X (setB L j (.row e2 (upds l o src))) → HR P r k ops none n D ((d, .int .i64 (min sl dl : Nat)) :: S) t w') : HR P r k ops none n D S (.act i t) w := by
  have hrun := run_copyE (P := P) (ty := ty) (dc := dc) (sc := sc) hT hts (hm.get hj) hfit hq hs h1
  refine a_val ho hd rfl (fun a hf => ?_) trivial (h _ (setRow_mem hm hj))
  simp only [execOp, resolve, List.map_toArray, List.map_cons, List.map_nil, hf.eval hx, hf.eval hy, Sem.run_bind, Sem.run_pure, Result.andThen_ok, invoke, builtin, hrun]
end
/-! ### A slice of one's own that may begin within its row -/
structure Acco (e es : Nat) (p : Option Addr) (n cap : Nat) (cells : List Value) (g : Nat) (b : Blk) : Prop where
  len : cells.length = n * es
  cases' : (n = 0 ∧ cap = 0) ∨ (∃ l o, p = some ⟨g, o, none⟩ ∧ b = .row e l ∧ n ≤ cap ∧ o + cap * es ≤ l.length ∧ (l.drop o).take (n * es) = cells)
theorem Acc.o {e es n cap g : Nat} {b : Blk} {p : Option Addr} {cells : List Value} (h : Acc e es p n cap cells g b) : Acco e es p n cap cells g b :=
  ⟨h.len, h.cases'.elim (fun h => .inl ⟨h.1, h.2.1⟩) fun ⟨l, h1, h2, h3, h4, h5⟩ => .inr ⟨l, 0, h1, h2, h3, by omega, by simpa using h5⟩⟩
theorem Acco.le {e es n cap g : Nat} {b : Blk} {p : Option Addr} {cells : List Value} (h : Acco e es p n cap cells g b) : n ≤ cap := by
  rcases h.cases' with ⟨h1, h2⟩ | ⟨l, o, h1, h2, h3, h4, h5⟩ <;> omega
theorem Acco.spot {e es n cap g : Nat} {b : Blk} {p : Option Addr} {cells : List Value} (h : Acco e es p n cap cells g b) (hc : cap ≠ 0) : ∀ ad, p = some ad → ad.spot = none := fun ad e => by
  rcases h.cases' with ⟨h1, h2⟩ | ⟨l, o, h1, h2, h3, h4, h5⟩
  · omega
  · rw [h1] at e; cases e; rfl
theorem Acco.rdM {e es n cap g : Nat} {b : Blk} {p : Option Addr} {cells : List Value} {w0 w : World} {X : Bs} {L : List (Nat × Blk)} (h : Acco e es p n cap cells g b) (hm : Mem w0 w X L) (hin : (g, b) ∈ L) : Rd w p cells := by
  rcases h.cases' with ⟨h1, _⟩ | ⟨l, o, rfl, rfl, _, h4, h5⟩
  · have hl := h.len
    rw [h1, Nat.zero_mul] at hl
    have : cells = [] := List.length_eq_zero_iff.1 hl
    subst this
    cases p with
    | none => rfl
    | some a => exact ⟨fun h => absurd rfl h, by simp⟩
  · exact Rd.row (hm.own _ hin rfl) fun j v hj => by
      rw [← h5, List.getElem?_take] at hj
      split at hj
      · simpa using hj
      · cases hj
theorem Acco.to {e es n cap g : Nat} {b : Blk} {p : Option Addr} {cs ds : List Value} (h : Acco e es p n cap cs g b) (he : cs = ds) : Acco e es p n cap ds g b := he ▸ h
/-- the rest of it -/
theorem Acco.cut {e es n cap g m : Nat} {b : Blk} {p : Option Addr} {cells : List Value} (h : Acco e es p n cap cells g b) (hm : m ≤ n) : Acco e es (slp p cap m es) (n - m) (cap - m) (cells.drop (m * es)) g b := by
  have hl := h.len
  refine ⟨by rw [List.length_drop, hl, Nat.sub_mul], ?_⟩
  rcases h.cases' with ⟨h1, h2⟩ | ⟨l, o, rfl, rfl, h3, h4, h5⟩
  · exact .inl ⟨by omega, by omega⟩
  · by_cases hc : cap = m
    · exact .inl ⟨by omega, by omega⟩
    · refine .inr ⟨l, o + m * es, by unfold slp; rw [if_neg hc]; rfl, rfl, by omega, ?_, ?_⟩
      · have : m * es + (cap - m) * es = cap * es := by rw [← Nat.add_mul]; congr 1; omega
        omega
      · rw [← h5, List.drop_take, List.drop_drop, Nat.sub_mul]
theorem Acco.append {T e es bs : Nat} {ts : Array TypeId} {ty : TypeId} {p q : Option Addr} {n cap m c g : Nat} {b : Blk} {cells new z : List Value} {w0 w : World} {X : Bs} {L : List (Nat × Blk)} {P : Program} (hT : slcO P T = some (e, es, bs)) (hts : ts[0]? = some T) {T2 : TypeId} {x2 : TypeId × Nat × Nat} (hts2 : ts[1]? = some T2) (hT2 : slcO P T2 = some x2)
    (hz : zer P e = some z) (hzl : z.length = es) (h1 : new.all (·.oneCell') = true) (hq : Rd w q new) (hnew : new.length = m * es) (ha : Acco e es p n cap cells g b) (hm : Mem w0 w X L) (j : Nat) (hj : blk L j = some (g, b)) (hb : (n + m) * bs ≤ 140737488355328) (h63 : n + m < 2 ^ 63) :
    ∃ p' cap' g' b' w', (Builtin.append_ ts ty #[.slice p n cap, .slice q m c]).run P w = .ok (.slice p' (n + m) cap') w' ∧ Acco e es p' (n + m) cap' (cells ++ new) g' b' ∧ Mem w0 w' X (setE L j (g', b')) := by
  have hrd := ha.rdM hm (blk_mem hj)
  obtain ⟨hfit, hgrow⟩ := run_append (w := w) (cap := cap) (c := c) (ty := ty) hT hts hts2 hT2 hz hq hnew hrd ha.len hb h63
  have hlen : (cells ++ new).length = (n + m) * es := by rw [List.length_append, ha.len, hnew, Nat.add_mul]
  have hself : ∀ (L : List (Nat × Blk)) (k : Nat) (q : Nat × Blk), blk L k = some q → setE L k q = L := fun L => by
    induction L with
    | nil => intro k q h; simp [blk] at h
    | cons x r ih =>
      intro k q h
      cases k with
      | zero => simp only [blk, Option.some.injEq] at h; subst h; rfl
      | succ k => simp only [setE]; rw [ih k q h]
  by_cases hle : n + m ≤ cap
  · have hrun := hfit hle
    rcases ha.cases' with ⟨h2, h3⟩ | ⟨l, o, rfl, rfl, hnc, hl, htk⟩
    · have hm0 : m = 0 := by omega
      subst h2 h3 hm0
      have hnil : new = [] := List.length_eq_zero_iff.1 (by rw [hnew]; simp)
      have hcnil : cells = [] := List.length_eq_zero_iff.1 (by rw [ha.len]; simp)
      subst hnil hcnil
      refine ⟨p, 0, g, b, w, ?_, ⟨by simp, .inl ⟨rfl, rfl⟩⟩, by rw [hself L j _ hj]; exact hm⟩
      rw [hrun]
      cases p <;> simp [storeCells]
    · have hg := hm.get hj
      have hnm : n * es + new.length ≤ cap * es := by rw [hnew, ← Nat.add_mul]; exact Nat.mul_le_mul_right _ hle
      have hst := run_storeCells_at P g (o + n * es) e new 0 ⟨l⟩ w hg (by simp only [Nat.add_zero, List.size_toArray]; omega) (by simpa using h1)
      simp only [Nat.add_zero] at hst
      have hadd : (⟨g, o, none⟩ : Addr).add (n * es) = ⟨g, o + n * es, none⟩ := by
        unfold Addr.add; split
        · rename_i h0; rw [h0]; simp
        · simp
      refine ⟨some ⟨g, o, none⟩, cap, g, .row e (l.take (o + n * es) ++ new ++ l.drop (o + n * es + new.length)), _, by rw [hrun]; simp only [hadd, hst]; rfl, ⟨hlen, .inr ⟨_, o, rfl, rfl, hle, ?_, ?_⟩⟩, ?_⟩
      · simp only [List.length_append, List.length_take, List.length_drop]
        omega
      · have hcl := ha.len
        rw [List.append_assoc, List.drop_append_of_le_length (by rw [List.length_take]; omega), List.drop_take, Nat.add_sub_cancel_left, htk, ← List.append_assoc, ← hlen]
        exact List.take_left
      · have := setRow_mem (l' := l.take (o + n * es) ++ new ++ l.drop (o + n * es + new.length)) hm hj
        rw [setB_eq L j g _ _ hj] at this
        exact this
  · have hlt : cap < n + m := by omega
    have hrun := hgrow hlt
    refine ⟨_, _, w.heap.size, .row e (cells ++ new ++ (Builtin.zeroCells ⟨z⟩ (newCap w (n + m) cap e - (n + m))).toList), _, hrun, ⟨hlen, .inr ⟨_, 0, rfl, rfl, newCap_ge _ _ _ _, ?_, ?_⟩⟩, ?_⟩
    · have : (Builtin.zeroCells ⟨z⟩ (newCap w (n + m) cap e - (n + m))).toList.length = (newCap w (n + m) cap e - (n + m)) * es := by
        rw [← hzl]; simp [Builtin.zeroCells]
      rw [List.length_append, hlen, this, ← Nat.add_mul, Nat.zero_add]
      refine Nat.mul_le_mul_right _ ?_
      have := newCap_ge w (n + m) cap e
      omega
    · rw [← hlen, List.drop_zero]; exact List.take_left
    · exact ((hm.ext (drew_ext w)).alloc (Blk.row e (cells ++ new ++ (Builtin.zeroCells ⟨z⟩ (newCap w (n + m) cap e - (n + m))).toList))).lay j hj
section
variable {P : Program} {r : Option Nat} {k : Ks} {ops : Array Oper} {md : Md} {n : Nat} {D : List Deferred} {S : List (Nat × Value)} {w : World} {i : Nat} {t : Tr}
variable {ty : TypeId} {pos : String} {af : Array Edge} {g : Option (Nat × Bool)} {dst : Option Tmp} {d : Nat} {w0 : World} {X : Bs} {L : List (Nat × Blk)}
theorem a_appendO {T e es bs : Nat} {s x : Operand} {ts : Array TypeId} {p q : Option Addr} {na cap m c gg : Nat} {b : Blk} {cells new z : List Value} {T2 : TypeId} {x2 : TypeId × Nat × Nat}
    (ho : opu ops S i = some (⟨dst, .call ⟨.builtin .append, #[s, x], ts⟩, ty, pos, af, g⟩, d)) (hd : Nat.blt d n = true) (hs : ev S s = some (.slice p na cap)) (hx : ev S x = some (.slice q m c)) (hts : ts[0]? = some T) (hts2 : ts[1]? = some T2)
    (hT : slcO P T = some (e, es, bs)) (hT2 : slcO P T2 = some x2) (hz : zer P e = some z) (hzl : z.length = es) (h1 : new.all (·.oneCell') = true) (hq : Rd w q new) (hnew : new.length = m * es) (ha : Acco e es p na cap cells gg b)
    (hm : Mem w0 w X L) (j : Nat) (hj : blk L j = some (gg, b)) (hb : (na + m) * bs ≤ 140737488355328) (h63 : na + m < 2 ^ 63)
    (h : ∀ p' cap' g' b' w', Acco e es p' (na + m) cap' (cells ++ new) g' b' → Mem w0 w' X (setE L j (g', b')) → HR P r k ops none n D ((d, .slice p' (na + m) cap') :: S) t w') : HR P r k ops none n D S (.act i t) w := by
  obtain ⟨p', cap', g', b', w', hrun, ha', hm'⟩ := ha.append (c := c) (ty := ty) hT hts hts2 hT2 hz hzl h1 hq hnew hm j hj hb h63
  refine a_val ho hd rfl (fun a hf => ?_) trivial (h p' cap' g' b' w' ha' hm')
  simp only [execOp, resolve, List.map_toArray, List.map_cons, List.map_nil, hf.eval hs, hf.eval hx, Sem.run_bind, Sem.run_pure, Result.andThen_ok, invoke, builtin, hrun]
end
/-! ### Arrays of bytes -/
theorem lenB32 {xs : List UInt8} {n : Nat} (h : xs.length = n) : (xs.flatMap encB).length = n := by rw [lenB0, h]
theorem nths_self (l : List Value) : nths l 0 l.length = some l := nths_all l []
theorem nthsB {xs : List UInt8} {n : Nat} (h : xs.length = n) : nths (xs.flatMap encB) 0 n = some (xs.flatMap encB) := by
  have := nths_self (xs.flatMap encB)
  rwa [lenB0, h] at this
theorem upds_all {l us : List Value} (h : us.length = l.length) : upds l 0 us = us := by
  rw [upds_eq us l 0 (by omega), List.take_zero, List.nil_append, Nat.zero_add, h, List.drop_length, List.append_nil]
theorem upds_z32 {xs : List UInt8} (h : xs.length = 32) : upds [.int .u8 0, .int .u8 0, .int .u8 0, .int .u8 0, .int .u8 0, .int .u8 0, .int .u8 0, .int .u8 0, .int .u8 0, .int .u8 0, .int .u8 0, .int .u8 0, .int .u8 0, .int .u8 0, .int .u8 0, .int .u8 0, .int .u8 0, .int .u8 0, .int .u8 0, .int .u8 0, .int .u8 0, .int .u8 0, .int .u8 0, .int .u8 0, .int .u8 0, .int .u8 0, .int .u8 0, .int .u8 0, .int .u8 0, .int .u8 0, .int .u8 0, .int .u8 0] 0 (xs.flatMap encB) = xs.flatMap encB := upds_all (lenB32 h)
theorem fitB : ∀ {xs : List UInt8} {n : Nat}, xs.length = n → fitL (List.replicate n (.num .u8)) (xs.flatMap encB) = true
  | [], _, h => by subst h; rfl
  | x :: r, _, h => by subst h; rw [List.flatMap_cons, List.length_cons, List.replicate_succ]; exact fitB (xs := r) rfl
theorem eqLB : ∀ (xs ys : List UInt8), eqL (xs.flatMap encB) (ys.flatMap encB) = decide (xs = ys)
  | [], [] => rfl
  | [], y :: r => rfl
  | x :: r, [] => rfl
  | x :: r, y :: s => by
    simp only [List.flatMap_cons, encB, List.cons_append, List.nil_append, eqL, lfEq, eqLB r s, List.cons.injEq, Bool.decide_and]
    congr 1
    by_cases h : x = y
    · simp [h]
    · have : (x.toNat : Int) ≠ (y.toNat : Int) := fun e => h (UInt8.toNat_inj.1 (by omega))
      rw [decide_eq_false h, decide_eq_false this]
theorem lenU4 {xs : List Nat} {n : Nat} (h : xs.length = n) : (xs.flatMap encU).length = n := by rw [lenU, h, Nat.mul_one]
theorem nthsU {xs : List Nat} {n : Nat} (h : xs.length = n) : nths (xs.flatMap encU) 0 n = some (xs.flatMap encU) := by
  have := nths_self (xs.flatMap encU)
  rwa [lenU, h, Nat.mul_one] at this
theorem upds_z4 {xs : List Nat} (h : xs.length = 4) : upds [.int .u64 0, .int .u64 0, .int .u64 0, .int .u64 0] 0 (xs.flatMap encU) = xs.flatMap encU := upds_all (lenU4 h)
theorem upds_U {xs ys : List Nat} (h : xs.length = 4) (h2 : ys.length = 4) : upds (ys.flatMap encU) 0 (xs.flatMap encU) = xs.flatMap encU := upds_all (by rw [lenU4 h, lenU4 h2])
theorem W32N (n : Nat) : IntKind.u32.wrap (n : Int) = ((UInt32.ofNat n).toNat : Int) := by rw [wrap32, UInt32.toNat_ofNat']
/-! ### Hashes -/
def s8V (s : Pl.S8) : List Value := [.int .u32 (s.a.toNat : Int), .int .u32 (s.b.toNat : Int), .int .u32 (s.c.toNat : Int), .int .u32 (s.d.toNat : Int), .int .u32 (s.e.toNat : Int), .int .u32 (s.f.toNat : Int), .int .u32 (s.g.toNat : Int), .int .u32 (s.h.toNat : Int)]
theorem s8V_l (s : Pl.S8) : s8V s = s.l.flatMap encW := rfl
/-- the cells of a state -/
def stV (s : Pl.S8) (rv : Value) (n : Int) : List Value := [.int .u32 (s.a.toNat : Int), .int .u32 (s.b.toNat : Int), .int .u32 (s.c.toNat : Int), .int .u32 (s.d.toNat : Int), .int .u32 (s.e.toNat : Int), .int .u32 (s.f.toNat : Int), .int .u32 (s.g.toNat : Int), .int .u32 (s.h.toNat : Int), rv, .int .i64 n]
/-- .. its words given as a list -/
def stL (ws : List UInt32) (rv : Value) (n : Int) : List Value := ws.flatMap encW ++ [rv, .int .i64 n]
theorem stV_l (s : Pl.S8) (rv : Value) (n : Int) : stV s rv n = stL s.l rv n := rfl
theorem upds_left {l r : List Value} {o : Nat} {v : Value} (h : o < l.length) : upds (l ++ r) o [v] = upds l o [v] ++ r := by
  simp only [upds, upd_eq]
  exact List.set_append_left _ _ h
theorem stL_set {ws : List UInt32} {rv : Value} {n : Int} {i : Nat} {y : UInt32} (h : i < ws.length) : upds (stL ws rv n) (0 + i * 1) [.int .u32 (y.toNat : Int)] = stL (ws.set i y) rv n := by
  unfold stL
  rw [upds_left (by rw [lenW]; omega), setW]
theorem stL_get {ws : List UInt32} {rv : Value} {n : Int} {i : Nat} {y : UInt32} (h : ws[i]? = some y) : nth (stL ws rv n) (0 + i * 1) = some (.int .u32 (y.toNat : Int)) := by
  have hl := (List.getElem?_eq_some_iff.1 h).1
  have := getW h
  rw [nth_eq] at this ⊢
  unfold stL
  rw [List.getElem?_append_left (by rw [lenW]; omega), this]
/-- the words, the first i of them added to -/
def addTo (s v : Pl.S8) (i : Nat) : List UInt32 := (s.add v).l.take i ++ s.l.drop i
theorem addTo_len (s v : Pl.S8) {i : Nat} (h : i ≤ 8) : (addTo s v i).length = 8 := by
  simp only [addTo, List.length_append, List.length_take, List.length_drop, Pl.S8.l, List.length_cons, List.length_nil]
  omega
theorem addTo_get (s v : Pl.S8) {i : Nat} (h : i < 8) : (addTo s v i)[i]? = some (s.l.getD i 0) := by
  match i, h with
  | 0, _ | 1, _ | 2, _ | 3, _ | 4, _ | 5, _ | 6, _ | 7, _ => rfl
theorem addTo_set (s v : Pl.S8) {i : Nat} (h : i < 8) : (addTo s v i).set i (s.l.getD i 0 + v.l.getD i 0) = addTo s v (i + 1) := by
  match i, h with
  | 0, _ | 1, _ | 2, _ | 3, _ | 4, _ | 5, _ | 6, _ | 7, _ => rfl
theorem addTo_end (s v : Pl.S8) : addTo s v 8 = (s.add v).l := rfl
theorem S8get {v : Pl.S8} {i : Nat} (h : i < 8) : nth (s8V v) (0 + i * 1) = some (.int .u32 ((v.l.getD i 0).toNat : Int)) := by
  match i, h with
  | 0, _ | 1, _ | 2, _ | 3, _ | 4, _ | 5, _ | 6, _ | 7, _ => rfl
/-- a hash of the program's that has taken m -/
def HashZ (TT U8 : Nat) (msg : List UInt8) (m : Nat) (Z : List (Nat × Blk)) : Prop :=
  ∃ p cap g b, Z = [(m, .row TT (stV (Pl.shSt msg) (.slice p (Pl.shRest msg).length cap) (msg.length : Int))), (g, b)] ∧ Acco U8 1 p (Pl.shRest msg).length cap ((Pl.shRest msg).flatMap encB) g b
theorem stV_get {s : Pl.S8} {rv : Value} {n : Int} {i : Nat} (h : i < 8) : nth (stV s rv n) (0 + i * 1) = some (.int .u32 ((s.l.getD i 0).toNat : Int)) := by
  match i, h with
  | 0, _ | 1, _ | 2, _ | 3, _ | 4, _ | 5, _ | 6, _ | 7, _ => rfl
theorem Rd.take0 {w : World} {p : Option Addr} {xs : List UInt8} {cap m : Nat} (h : Rd w p (xs.flatMap encB)) (hcap : xs.length ≤ cap) : Rd w (Cx.slp p cap 0 1) ((xs.take m).flatMap encB) := by
  have := h.sub (l := 0) (m := m) hcap
  rwa [List.drop_zero] at this
/-- the slice lies apart from another block -/
theorem Acco.apart {w0 w : World} {X : Bs} {L : List (Nat × Blk)} {e es n cap g m : Nat} {b c : Blk} {p : Option Addr} {cells : List Value} (h : Acco e es p n cap cells g b) (hm : Mem w0 w X L) (j k : Nat) (hj : blk L j = some (g, b)) (hk : blk L k = some (m, c)) (hjk : Nat.beq j k = false) (hc : c.real = true) (hn : cells ≠ []) :
    ∀ ad, p = some ad → ¬ (ad.block = m) := fun ad e => by
  rcases h.cases' with ⟨h1, _⟩ | ⟨l, o, rfl, rfl, _⟩
  · have := h.len
    rw [h1, Nat.zero_mul] at this
    exact absurd (List.length_eq_zero_iff.1 this) hn
  · cases e
    exact hm.ne j k hj hk hjk rfl hc
theorem Acco.apart0 {w0 w : World} {X : Bs} {L : List (Nat × Blk)} {e n cap g m : Nat} {b c : Blk} {p : Option Addr} {xs : List UInt8} (h : Acco e 1 p n cap (xs.flatMap encB) g b) (hm : Mem w0 w X L) (j k : Nat) (hj : blk L j = some (g, b)) (hk : blk L k = some (m, c)) (hjk : Nat.beq j k = false) (q : Nat) (hc : c.real = true) :
    (xs.take q).flatMap encB ≠ [] → ∀ ad, slp p cap 0 1 = some ad → ¬ (ad.block = m) := fun hn ad e => by
  obtain ⟨a2, e2, e3⟩ := slp_block e
  rw [← e3]
  refine h.apart hm j k hj hk hjk hc (fun e4 => hn ?_) a2 e2
  rw [nilB e4]; simp
theorem Acc.at9 {e es n cap g : Nat} {b : Blk} {p : Option Addr} {cells : List Value} (h : Acc e es p n cap cells g b) (hn : cells ≠ []) : p = some ⟨g, 0, none⟩ ∧ b.real = true := by
  rcases h.cases' with ⟨h1, _, _⟩ | ⟨l, h1, rfl, _⟩
  · have := h.len
    rw [h1, Nat.zero_mul] at this
    exact absurd (List.length_eq_zero_iff.1 this) hn
  · exact ⟨h1, rfl⟩
theorem dropB (xs : List UInt8) (m : Nat) : (xs.flatMap encB).drop (m * 1) = (xs.drop m).flatMap encB := by
  rw [fmB', fmB', Nat.mul_one, List.map_drop]
theorem Rd.heap9 {w w' : World} {p : Option Addr} {cs : List Value} (h : Rd w p cs) (e : w'.heap = w.heap) : Rd w' p cs := by
  cases p with
  | none => exact h
  | some a => exact ⟨h.1, fun j v hj => by have := h.2 j v hj; unfold World.cell? at this ⊢; rw [e]; exact this⟩
theorem Rd.to8 {w : World} {p : Option Addr} {cs ds : List Value} (h : Rd w p cs) (e : cs = ds) : Rd w p ds := e ▸ h
theorem Mem.callD2 {w0 w w' : World} {X : Bs} {A Z1 Z2 : List (Nat × Blk)} (h : Mem w0 w X (A ++ Z1)) (hc : Mem w w' No Z2) : Mem w0 w' X (A ++ (Z1 ++ Z2)) := by
  rw [← List.append_assoc]; exact h.callTZ hc
theorem quoK (a b : Nat) (h : a ≤ 9223372036854775807) (hb : 0 < b) : IntKind.i64.wrap ((a : Int).tdiv (b : Int)) = ((a / b : Nat) : Int) := by
  have e : (a : Int).tdiv (b : Int) = ((a / b : Nat) : Int) := by
    rw [Int.tdiv_eq_ediv_of_nonneg (by omega)]; norm_cast
  have := Nat.div_le_self a b
  rw [e]
  generalize a / b = c at this ⊢
  exact i64w (by omega) (by omega)
theorem tdivN (a b : Nat) : (a : Int).tdiv (b : Int) = ((a / b : Nat) : Int) := by
  rw [Int.tdiv_eq_ediv_of_nonneg (by omega)]; norm_cast
theorem remK (a b : Nat) : (a : Int).tmod (b : Int) = ((a % b : Nat) : Int) := by
  rw [Int.tmod_eq_emod_of_nonneg (by omega)]; norm_cast
theorem u8N (n : Nat) : IntKind.u8.wrap (n : Int) = ((UInt8.ofNat n).toNat : Int) := by
  rw [wrap8, UInt8.toNat_ofNat']
/-- byte number 7 - y of a number -/
theorem be_shift {v y : Nat} {j : Int} (hy : y < 8) (hj : j = 8 * (7 - (y : Int))) : IntKind.u8.wrap ((v : Int).fdiv (2 ^ (min j.toNat IntKind.u64.bits))) = ((UInt8.ofNat (v / 256 ^ (8 - 1 - y))).toNat : Int) := by
  rw [u_shr (k := 8 * (7 - y)) (by omega) (by omega), u8N, Nat.pow_mul]
/-- what lies apart from the blocks that were handed over lies apart from what they have become -/
theorem Mem.apartX {w0 w : World} {X : Bs} {L : List (Nat × Blk)} {p : Option Addr} {cs : List Value} (hm : Mem w0 w X L) (hR : Rd w0 p cs) (hX : cs ≠ [] → ∀ ad, p = some ad → ¬ X ad.block) : cs ≠ [] → ∀ ad, p = some ad → ¬ Mn (reals L) ad.block := fun h ad e hn => by
  have h1 := hR.lt h ad e
  obtain ⟨b, hb, hr⟩ := mem_reals.1 hn
  rcases hm.fresh _ hb hr with h2 | h2
  · exact hX h ad e h2
  · simp only at h2; omega
theorem Mem.notR {w0 w : World} {X : Bs} {A Z : List (Nat × Blk)} {cs : List Value} {p : Option Addr} {g : Nat} {b : Blk} {e es n cap : Nat} (hm : Mem w0 w X (A ++ Z)) (ha : Acc e es p n cap cs g b) (k : Nat) (hk : blk A k = some (g, b)) : cs ≠ [] → ∀ ad, p = some ad → ¬ Mn (reals Z) ad.block := fun hn ad e h9 => by
  have q9 := ha.at9 hn
  rw [q9.1] at e
  cases e
  exact Mem.notT (A := A) hm hk q9.2 h9
theorem Mem.notS {w0 w : World} {X : Bs} {A Z : List (Nat × Blk)} {cs : List Value} {m o : Nat} {b : Blk} (hm : Mem w0 w X (A ++ Z)) (k : Nat) (hk : blk A k = some (m, b)) (hb : b.real = true := by rfl) : cs ≠ [] → ∀ ad, (some ⟨m, o, none⟩ : Option Addr) = some ad → ¬ Mn (reals Z) ad.block := fun _ ad e h9 => by
  cases e
  exact Mem.notT (A := A) hm hk hb h9
theorem Mem.notSw {w0 w : World} {X : Bs} {A Z Z2 : List (Nat × Blk)} {cs : List Value} {m o : Nat} {b : Blk} (hm : Mem w0 w X (A ++ (Z ++ Z2))) (k : Nat) (hk : blk A k = some (m, b)) (hb : b.real = true := by rfl) : cs ≠ [] → ∀ ad, (some ⟨m, o, none⟩ : Option Addr) = some ad → ¬ Mn (reals Z) ad.block := fun h ad e h9 => hm.notS (A := A) k hk hb h ad e (Mn_left h9)
theorem Mem.notSr {w0 w : World} {X : Bs} {A Z Z2 : List (Nat × Blk)} {cs : List Value} {m o : Nat} {b : Blk} (hm : Mem w0 w X (A ++ (Z ++ Z2))) (k : Nat) (hk : blk A k = some (m, b)) (hb : b.real = true := by rfl) : cs ≠ [] → ∀ ad, (some ⟨m, o, none⟩ : Option Addr) = some ad → ¬ Mn (reals Z2) ad.block := fun h ad e h9 => hm.notS (A := A) k hk hb h ad e (Mn_right h9)
theorem flat200 {ps : List SB} {k : Nat} (h : ∀ (j : Nat) z, j < k → ps[j]? = some z → z.bs.length ≤ 200) (hk : k ≤ ps.length) : ((ps.take k).flatMap (·.bs)).length ≤ 200 * k := by
  induction k with
  | zero => simp
  | succ k ih =>
    obtain ⟨s, hs⟩ : ∃ s, ps[k]? = some s := ⟨_, List.getElem?_eq_getElem (by omega)⟩
    have h1 := ih (fun j z hj hz => h j z (by omega) hz) (by omega)
    have h2 := h k s (by omega) hs
    rw [Pl.take_snoc hs, List.flatMap_append, List.flatMap_singleton, List.length_append]
    omega
theorem flat_take {ps : List SB} {i : Nat} {s : SB} (h : ps[i]? = some s) : (ps.take (i + 1)).flatMap (·.bs) = (ps.take i).flatMap (·.bs) ++ s.bs := by
  rw [Pl.take_snoc h, List.flatMap_append, List.flatMap_singleton]
theorem flat_le (ps : List SB) (i : Nat) : ((ps.take i).flatMap (·.bs)).length ≤ (ps.flatMap (·.bs)).length := by
  conv => rhs; rw [← List.take_append_drop i ps, List.flatMap_append, List.length_append]
  omega
theorem HashZ.row {TT U8 m : Nat} {msg : List UInt8} {Z : List (Nat × Blk)} {w : World} (h : HashZ TT U8 msg m Z) (hZ : OwnZ w Z) : ∃ rv, w.heap[m]? = some (Blk.row TT (stV (Pl.shSt msg) rv (msg.length : Int))).toObj := by
  obtain ⟨p, cap, g, b, rfl, ha⟩ := h
  exact ⟨_, hZ.get (k := 0) rfl⟩
/-! ### Bytes as numbers -/
theorem b_shr4 (c : UInt8) : (c.toNat : Int).fdiv (2 ^ (min (4 : Int).toNat IntKind.u8.bits)) = ((c.toNat / 16 : Nat) : Int) := by
  show (c.toNat : Int).fdiv (2 ^ 4) = _
  rw [fdivN, Nat.shiftRight_eq_div_pow]
theorem b_and15 (c : UInt8) : IntKind.u8.wrap (BitVec.ofInt IntKind.u8.bits (c.toNat : Int) &&& BitVec.ofInt IntKind.u8.bits (15 : Int)).toNat = ((c.toNat % 16 : Nat) : Int) := by
  have hc := c.toNat_lt
  have e : (BitVec.ofInt IntKind.u8.bits (c.toNat : Int) &&& BitVec.ofInt IntKind.u8.bits (15 : Int)).toNat = c.toNat % 16 := by
    show (BitVec.ofInt 8 (c.toNat : Int) &&& BitVec.ofInt 8 (((15 : Nat)) : Int)).toNat = _
    rw [BitVec.toNat_and, BitVec.ofInt_natCast, BitVec.ofInt_natCast, BitVec.toNat_ofNat, BitVec.toNat_ofNat, Nat.mod_eq_of_lt hc]
    exact Nat.and_two_pow_sub_one_eq_mod c.toNat 4
  rw [e, wrap8]
  omega
theorem b_quo16 (c : UInt8) : IntKind.u8.wrap ((c.toNat : Int).tdiv (16 : Int)) = ((c.toNat / 16 : Nat) : Int) := by
  have e := tdivN c.toNat 16
  have hc := c.toNat_lt
  refine (congrArg IntKind.u8.wrap e).trans ?_
  rw [wrap8]
  omega
theorem b_add1 {n : Nat} (h : n < 255) : IntKind.u8.wrap ((n : Int) + 1) = ((n + 1 : Nat) : Int) := by
  rw [show (n : Int) + 1 = ((n + 1 : Nat) : Int) by omega, wrap8]
  omega
theorem b_shl4 (c : UInt8) : IntKind.u8.wrap ((c.toNat : Int) * 2 ^ (min (4 : Int).toNat IntKind.u8.bits)) = ((c <<< 4).toNat : Int) := by
  show IntKind.u8.wrap ((c.toNat : Int) * 2 ^ 4) = _
  rw [show (c.toNat : Int) * 2 ^ 4 = ((c.toNat * 16 : Nat) : Int) by norm_cast, wrap8, UInt8.toNat_shiftLeft]
  show _ = (((c.toNat <<< 4) % 256 : Nat) : Int)
  rw [Nat.shiftLeft_eq]
theorem ofB8' (x : UInt8) : BitVec.ofInt IntKind.u8.bits (x.toNat : Int) = x.toBitVec := by
  show BitVec.ofInt 8 (x.toNat : Int) = x.toBitVec
  rw [BitVec.ofInt_natCast]
  exact BitVec.eq_of_toNat_eq (by rw [BitVec.toNat_ofNat]; exact Nat.mod_eq_of_lt x.toNat_lt)
theorem b_or {a b : UInt8} : IntKind.u8.wrap (BitVec.ofInt IntKind.u8.bits (a.toNat : Int) ||| BitVec.ofInt IntKind.u8.bits (b.toNat : Int)).toNat = ((a ||| b).toNat : Int) := by
  rw [ofB8', ofB8', wrap8]
  have := (a ||| b).toNat_lt
  show (((a ||| b).toNat % 256 : Nat) : Int) = _
  omega
theorem b_hval {c : UInt8} (h : 0 ≤ Pl.hxI c) : IntKind.u8.wrap (Pl.hxI c) = ((Pl.hval c).toNat : Int) := by
  have := u8N (Pl.hxI c).toNat
  rw [show (((Pl.hxI c).toNat : Nat) : Int) = Pl.hxI c by omega] at this
  exact this
theorem take1 {l : List UInt8} {n : Nat} {c : UInt8} (h : l[n]? = some c) (m : Nat) (hm : m = 1) : (l.drop n).take m = [c] := by
  subst hm
  rw [List.drop_eq_getElem_cons (List.getElem?_eq_some_iff.1 h).1]
  simp [(List.getElem?_eq_some_iff.1 h).2]
theorem fmt_next {bs : List UInt8} {i : Nat} {c : UInt8} (h : bs[i]? = some c) : Pl.fmt (bs.take (i + 1)) = Pl.fmt (bs.take i) ++ [Pl.hx (c.toNat / 16), Pl.hx (c.toNat % 16)] := by
  unfold Pl.fmt
  rw [Pl.take_snoc h, List.flatMap_append, List.flatMap_singleton]
/-! ### Rotations -/
theorem rot_k {j : Nat} (h1 : 1 ≤ j) (h2 : j < 32) : IntKind.u64.wrap (BitVec.ofInt IntKind.u64.bits (IntKind.u64.wrap (-(j : Int))) &&& BitVec.ofInt IntKind.u64.bits (31 : Int)).toNat = ((32 - j : Nat) : Int) := by
  have e1 : IntKind.u64.wrap (-(j : Int)) = ((18446744073709551616 - j : Nat) : Int) := by
    simp only [IntKind.wrap, IntKind.signed, IntKind.bits, Bool.false_and, Bool.false_eq_true, if_false]
    omega
  have h := u_and (k := 5) (n := 18446744073709551616 - j) (by omega) 31 rfl (by decide)
  rw [e1]
  refine Eq.trans h ?_
  congr 1
  show (18446744073709551616 - j) % 32 = _
  omega
theorem rot_eq (x : UInt32) {j : Nat} (h1 : 1 ≤ j) (h2 : j < 32) : (x <<< UInt32.ofNat (32 - j)) ||| (x >>> UInt32.ofNat j) = Pl.rotr x (UInt32.ofNat j) := by
  unfold Pl.rotr
  rw [UInt32.or_comm]
  congr 2
  apply UInt32.toNat_inj.1
  rw [UInt32.toNat_sub_of_le _ _ (by rw [UInt32.le_iff_toNat_le, UInt32.toNat_ofNat']; show j % 4294967296 ≤ 32; omega), UInt32.toNat_ofNat', UInt32.toNat_ofNat']
  show (32 - j) % 4294967296 = 32 - j % 4294967296
  omega
theorem oN {j : Nat} (h : j < 32) : (UInt32.ofNat j).toNat = j := by rw [UInt32.toNat_ofNat']; exact Nat.mod_eq_of_lt (by omega)
end Go.Cx
