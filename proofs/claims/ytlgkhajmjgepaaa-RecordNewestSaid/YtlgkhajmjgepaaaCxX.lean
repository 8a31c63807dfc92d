/- Glue for checksums and records. No condition. -/
import Derived.Test.YtlgkhajmjgepaaaCxW
import Derived.Test.YtlgkhajmjgepaaaPlR
namespace Go.Cx
set_option linter.unusedVariables false
set_option linter.unusedSimpArgs false
open Go
/-- the table of the checksum, its first i elements filled in -/
def tabW (i k : Nat) : UInt32 := if k < i then Pl.crc4 (UInt32.ofNat k) else 0
def tabL (i : Nat) : List Value := (List.range 16).map fun k => .int .u32 ((tabW i k).toNat : Int)
theorem tab_len (i : Nat) : (tabL i).length = 16 := by simp [tabL]
theorem tab_set {i : Nat} (hi : i < 16) : upds (tabL i) (0 + ((i : Nat) : Int).toNat * 1) [.int .u32 ((Pl.crc4 (UInt32.ofNat i)).toNat : Int)] = tabL (i + 1) := by
  simp only [Int.toNat_natCast, Nat.zero_add, Nat.mul_one, upds, upd_eq]
  apply List.ext_getElem?
  intro j
  rw [List.getElem?_set]
  unfold tabL
  by_cases hj : j < 16
  · simp only [List.length_map, List.length_range, List.getElem?_map, List.getElem?_range hj, Option.map_some]
    split
    · rename_i e
      subst e
      simp [hi, tabW]
    · rename_i e
      congr 3
      unfold tabW
      by_cases h1 : j < i
      · simp [h1, show j < i + 1 by omega]
      · simp [h1, show ¬ j < i + 1 by omega]
  · rw [List.getElem?_eq_none (by simp; omega), List.getElem?_eq_none (by simp; omega)]
    split
    · omega
    · rfl
theorem tab_get (x : UInt32) (h : x.toNat < 16) : nth (tabL 16) (0 + ((x.toNat : Nat) : Int).toNat * 1) = some (.int .u32 ((Pl.crc4 x).toNat : Int)) := by
  rw [nth_eq, Int.toNat_natCast, Nat.zero_add, Nat.mul_one]
  unfold tabL
  rw [List.getElem?_map, List.getElem?_range h]
  simp only [Option.map_some, tabW, if_pos h]
  rw [UInt32.ofNat_toNat]
def crcN : Nat → UInt32 → UInt32
  | 0, x => x
  | n + 1, x => Pl.crcBit (crcN n x)
theorem crcReg_next {bs : List UInt8} {i : Nat} {c : UInt8} (h : bs[i]? = some c) (r : UInt32) : Pl.crcReg r (bs.take (i + 1)) = Pl.crcByte (Pl.crcReg r (bs.take i)) c := by
  rw [List.take_add_one, h, Pl.crcReg_app]; rfl
theorem crc_byte (r : UInt32) (c : UInt8) : ((((r ^^^ c.toUInt32) >>> 4) ^^^ Pl.crc4 ((r ^^^ c.toUInt32) &&& 15)) >>> 4) ^^^ Pl.crc4 ((((r ^^^ c.toUInt32) >>> 4) ^^^ Pl.crc4 ((r ^^^ c.toUInt32) &&& 15)) &&& 15) = Pl.crcByte r c := by
  rw [Pl.crc4_nib, Pl.crc4_nib]; rfl
theorem bit_ref (x : UInt32) : (if x &&& 1 = 1 then (x >>> 1) ^^^ Pl.poly else x >>> 1) = Pl.crcBit x := by
  rw [Pl.crcBit_eq]
  rcases Pl.and1_cases x with ⟨h, h0⟩ | ⟨h, h0⟩
  · rw [h, if_neg (by decide), if_neg (by omega)]
  · rw [h, if_pos rfl, if_pos h0]
/-- the j-th byte of a checksum -/
theorem leS_get {s : UInt32} {j : Nat} (h : j < 4) : (Pl.leS s)[j]? = some (s >>> UInt32.ofNat (8 * j)).toUInt8 := by
  match j, h with
  | 0, _ => simp [Pl.leS]
  | 1, _ => rfl
  | 2, _ => rfl
  | 3, _ => rfl
theorem Rd.dropB {w : World} {p : Option Addr} {xs : List UInt8} {cap l : Nat} (h : Rd w p (xs.flatMap encB)) (hcap : xs.length ≤ cap) : Rd w (Cx.slp p cap l 1) ((xs.drop l).flatMap encB) := by
  have := h.sub (l := l) (m := xs.length) hcap
  rwa [List.take_of_length_le (by rw [List.length_drop]; omega)] at this
theorem Rd.takeS {w : World} {p : Option Addr} {xs : List UInt8} {cap m : Nat} (h : Rd w p (xs.flatMap encB)) (hcap : xs.length ≤ cap) : Rd w (Cx.slp p cap 0 1) ((xs.take m).flatMap encB) := by
  have := h.sub (l := 0) (m := m) hcap
  rwa [List.drop_zero] at this
theorem slp_spot0 {p : Option Addr} {cap : Nat} (h : cap ≠ 0 → ∀ ad, p = some ad → ad.spot = none) (hc : cap ≠ 0) {ad : Addr} (e : slp p cap 0 1 = some ad) : ad.spot = none := by
  rw [slp_zero (fun a ha => h hc a ha)] at e
  exact h hc ad e
section
variable {P : Program} {md : Md} {w : World} {n : Nat} {D : List Deferred} {S : List (Nat × Value)} {dst : Option Tmp} {ty : TypeId} {pos : String} {af : Array Edge} {g : Option (Nat × Bool)}
/-- x[:h:m] -/
theorem y_slice3 {T e es bs : Nat} {x y z : Operand} {p : Option Addr} {l c hn mn : Nat} {k1 k2 : IntKind} (hx : ev S x = some (.slice p l c)) (hT : slcO P T = some (e, es, bs))
    (hy : ev S y = some (.int k1 hn)) (hz : ev S z = some (.int k2 mn)) (h1 : hn ≤ mn) (h2 : mn ≤ c) : ∀ a, Fr a n D S → Yl P md w a ⟨dst, .slice T x none (some y) (some z), ty, pos, af, g⟩ (.slice p hn mn) := fun a hf u _ => by
  obtain ⟨hu, i, hi', hs, _⟩ := slcO_spec hT
  have hsz : (sizeOf e).run P u = .ok es u := by simp [sizeOf, typeInfo, hi', hs]
  have e1 : ∀ (k' : IntKind) (m y : Nat) (cd : BoundsCode), m ≤ y → (Instr.sliceBound (.int k' m) y cd).run P u = .ok m u := fun k' m y cd h => by
    have h' : (m : Int) ≤ y := by omega
    simp [Instr.sliceBound, asIntOf, h']
  have hb : (Instr.sliceBounds true l c none (some (a.eval y)) (some (a.eval z))).run P u = .ok (0, hn, mn) u := by
    unfold Instr.sliceBounds
    simp [hf.eval hy, hf.eval hz, e1 k2 mn c _ h2, e1 k1 hn mn _ h1]
  have hp : (if mn = 0 then p else p.map (·.add (0 * es))) = p := by
    split
    · rfl
    · cases p with
      | none => rfl
      | some ad => simp [Addr.add]
  simp only [execOp, Option.map_none, Option.map_some, Instr.sliceAt, Instr.slice, hf.eval hx, Sem.run_bind, run_und hu, Result.andThen_ok, hb, hsz, Sem.run_pure, hp, Nat.sub_zero]
end
section
variable {P : Program} {r : Option Nat} {k : Ks} {ops : Array Oper} {md : Md} {n : Nat} {D : List Deferred} {S : List (Nat × Value)} {w : World} {i : Nat} {t : Tr}
variable {ty : TypeId} {pos : String} {af : Array Edge} {g : Option (Nat × Bool)} {dst : Option Tmp} {d : Nat} {w0 : World} {X : Bs} {L : List (Nat × Blk)}
/-- append to a slice that is full: the elements move into a new row -/
theorem a_appendF {T e es bs : Nat} {s x : Operand} {ts : Array TypeId} {p q : Option Addr} {na cap m c : Nat} {cells new z : List Value} {T2 : TypeId} {x2 : TypeId × Nat × Nat}
    (ho : opu ops S i = some (⟨dst, .call ⟨.builtin .append, #[s, x], ts⟩, ty, pos, af, g⟩, d)) (hd : Nat.blt d n = true) (hs : ev S s = some (.slice p na cap)) (hx : ev S x = some (.slice q m c)) (hts : ts[0]? = some T) (hts2 : ts[1]? = some T2)
    (hT : slcO P T = some (e, es, bs)) (hT2 : slcO P T2 = some x2) (hz : zer P e = some z) (hzl : z.length = es) (hq : Rd w q new) (hnew : new.length = m * es) (hp : Rd w p cells) (hc : cells.length = na * es)
    (hcap : cap < na + m) (hm : Mem w0 w X L) (hb : (na + m) * bs ≤ 140737488355328) (h63 : na + m < 2 ^ 63)
    (h : ∀ cap' g' b' w', Acc e es (some ⟨g', 0, none⟩) (na + m) cap' (cells ++ new) g' b' → Mem w0 w' X ((g', b') :: L) → HR P r k ops none n D ((d, .slice (some ⟨g', 0, none⟩) (na + m) cap') :: S) t w') : HR P r k ops none n D S (.act i t) w := by
  have hrun := (run_append (P := P) (w := w) (ty := ty) (c := c) (cap := cap) hT hts hts2 hT2 hz hq hnew hp hc hb h63).2 hcap
  have hzc : (Builtin.zeroCells ⟨z⟩ (newCap w (na + m) cap e - (na + m))).toList.length = (newCap w (na + m) cap e - (na + m)) * es := by
    rw [← hzl]; simp [Builtin.zeroCells]
  have hge := newCap_ge w (na + m) cap e
  have hlen : (cells ++ new).length = (na + m) * es := by rw [List.length_append, hc, hnew, Nat.add_mul]
  have hm2 := (hm.ext (drew_ext w)).alloc (Blk.row e (cells ++ new ++ (Builtin.zeroCells ⟨z⟩ (newCap w (na + m) cap e - (na + m))).toList))
  refine a_val ho hd rfl (fun a hf => ?_) trivial (h (newCap w (na + m) cap e) w.drew.heap.size _ _ ⟨hlen, .inr ⟨_, rfl, rfl, hge, ?_, ?_⟩⟩ hm2)
  · simp only [execOp, resolve, List.map_toArray, List.map_cons, List.map_nil, hf.eval hs, hf.eval hx, Sem.run_bind, Sem.run_pure, Result.andThen_ok, invoke, builtin, hrun]
    rfl
  · rw [List.length_append, hlen, hzc, ← Nat.add_mul]
    congr 1; omega
  · rw [← hlen]; exact List.take_left
end
end Go.Cx
