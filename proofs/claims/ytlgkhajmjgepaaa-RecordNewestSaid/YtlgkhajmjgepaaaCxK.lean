/- The program logic of these proofs, part K: bytes as strings; own slices as states of loops. No condition. -/
import Derived.Test.YtlgkhajmjgepaaaCxJ
import Derived.Laws.IdiomStrings
namespace Go.Cx
set_option linter.unusedVariables false
set_option linter.unusedSimpArgs false
open Go

def bstr (l : List UInt8) : ByteArray := ⟨l.toArray⟩
theorem bstr_toList (l : List UInt8) : (bstr l).toList = l := by rw [ByteArray.toList_eq]; rfl
theorem bstr_inj {a b : List UInt8} (h : bstr a = bstr b) : a = b := by rw [← bstr_toList a, ← bstr_toList b, h]
theorem bstr_size (l : List UInt8) : (bstr l).size = l.length := rfl
theorem encB_get : ∀ (ys : List UInt8) (i : Nat), (ys.flatMap encB)[i]? = ys[i]?.map (fun x => Value.int .u8 x.toNat)
  | [], i => by simp
  | y :: r, 0 => rfl
  | y :: r, i + 1 => by simp only [List.flatMap_cons, encB, List.cons_append, List.nil_append, List.getElem?_cons_succ]; exact encB_get r i
/-- slice type s of bytes, string type t -/
def bts (P : Program) (s t : TypeId) : Bool := match P.underlying s, P.underlying t with | some (.slice e), some .string => (match P.underlying e with | some (.int .u8) => true | _ => false) | _, _ => false
theorem bts_spec {P : Program} {s t : TypeId} (h : bts P s t = true) : ∃ e, P.underlying s = some (.slice e) ∧ P.underlying e = some (.int .u8) ∧ P.underlying t = some .string := by
  unfold bts at h
  split at h
  · rename_i e hs ht
    split at h
    · rename_i he; exact ⟨e, hs, he, ht⟩
    · cases h
  · cases h
theorem run_cvs {P : Program} {s t : TypeId} {p : Option Addr} {cap : Nat} {xs : List UInt8} {u : World} (h : bts P s t = true) (hr : Rd u p (xs.flatMap encB)) : (convert s t (.slice p xs.length cap)).run P u = .ok (.string (bstr xs)) u := by
  obtain ⟨e, hs, he, ht⟩ := bts_spec h
  cases p with
  | none =>
    have hr : xs.flatMap encB = [] := hr
    obtain rfl := nilB hr
    rw [run_convert_bytes_string u s t e none _ cap hs he ht]; rfl
  | some a =>
    by_cases hne : xs = []
    · subst hne
      exact run_convert_bytes_back u s t e a cap [] hs he ht (fun j hj => absurd hj (by simp))
    · refine run_convert_bytes_back u s t e a cap xs hs he ht fun j hj => ?_
      obtain ⟨b, o, sp⟩ := a
      have hsp : sp = none := hr.1 fun e => hne (nilB e)
      subst hsp
      have := hr.2 j (.int .u8 xs[j].toNat) (by rw [encB_get, List.getElem?_eq_getElem hj]; rfl)
      by_cases hj0 : j = 0
      · subst hj0; simpa [Addr.add] using this
      · simpa [Addr.add, hj0] using this
section
variable {P : Program} {md : Md} {w : World} {n : Nat} {D : List Deferred} {S : List (Nat × Value)} {dst : Option Tmp} {ty : TypeId} {pos : String} {af : Array Edge} {g : Option (Nat × Bool)}
theorem y_cvs {s t : TypeId} {x : Operand} {p : Option Addr} {cap m : Nat} {xs : List UInt8} (hx : ev S x = some (.slice p m cap)) (h : bts P s t = true) (hR : ∀ u, Near md w u → Rd u p (xs.flatMap encB)) (hm : m = xs.length) :
    ∀ a, Fr a n D S → Yl P md w a ⟨dst, .convert s t x, ty, pos, af, g⟩ (.string (bstr xs)) := fun a hf u hu => by
  subst hm
  simp [execOp, hf.eval hx, run_cvs h (hR u hu)]
theorem y_seqB {t yt : TypeId} {x y : Operand} {a b : List UInt8} (hx : ev S x = some (.string (bstr a))) (hy : ev S y = some (.string (bstr b))) :
    ∀ c, Fr c n D S → Yl P md w c ⟨dst, .binOp .eql t x y yt, ty, pos, af, g⟩ (.bool (decide (a = b))) := by
  have := y_seql (P := P) (md := md) (w := w) (n := n) (D := D) (dst := dst) (ty := ty) (pos := pos) (af := af) (g := g) (t := t) (yt := yt) hx hy
  rw [bstr_toList, bstr_toList] at this
  have e : (a == b) = decide (a = b) := by rw [Bool.eq_iff_iff]; simp
  rw [e] at this
  exact this
theorem y_snqB {t yt : TypeId} {x y : Operand} {a b : List UInt8} (hx : ev S x = some (.string (bstr a))) (hy : ev S y = some (.string (bstr b))) :
    ∀ c, Fr c n D S → Yl P md w c ⟨dst, .binOp .neq t x y yt, ty, pos, af, g⟩ (.bool (decide (a ≠ b))) := by
  have := y_sneq (P := P) (md := md) (w := w) (n := n) (D := D) (dst := dst) (ty := ty) (pos := pos) (af := af) (g := g) (t := t) (yt := yt) hx hy
  rw [bstr_toList, bstr_toList] at this
  have e : (!(a == b)) = decide (a ≠ b) := by rw [Bool.eq_iff_iff]; simp
  rw [e] at this
  exact this
theorem y_cat {t yt : TypeId} {x y : Operand} {a b : List UInt8} (hx : ev S x = some (.string (bstr a))) (hy : ev S y = some (.string (bstr b))) (hl : a.length + b.length ≤ 9223372036854775807) :
    ∀ c, Fr c n D S → Yl P md w c ⟨dst, .binOp .add t x y yt, ty, pos, af, g⟩ (.string (bstr (a ++ b))) := y_bin hx hy fun u => by
  have e : bstr a ++ bstr b = bstr (a ++ b) := by
    apply ByteArray.ext
    simp [bstr, ByteArray.data_append]
  have h1 : ((bstr a).size : Int) + (bstr b).size ≤ 9223372036854775807 := by rw [bstr_size, bstr_size]; omega
  simp [eqGuard, binOp, Op.stringOp, e]
  omega
end
/-- the state of an own slice -/
structure Ow where
  p : Option Addr
  n : Nat
  cap : Nat
  g : Nat
  b : Blk
theorem Acc.lenB {e n cap g : Nat} {b : Blk} {p : Option Addr} {bs : List UInt8} (h : Acc e 1 p n cap (bs.flatMap encB) g b) : n = bs.length := by
  have := h.len
  rw [Cx.lenB] at this
  omega
theorem Acc.to {e es n cap g : Nat} {b : Blk} {p : Option Addr} {cs ds : List Value} (h : Acc e es p n cap cs g b) (he : cs = ds) : Acc e es p n cap ds g b := he ▸ h
theorem pickL_mem : ∀ (L : List (Nat × Blk)) (ks : List Nat) (q : Nat × Blk), q ∈ pickL L ks → ∃ k, k ∈ ks ∧ blk L k = some q
  | _, [], _, h => by simp [pickL] at h
  | L, k :: r, q, h => by
    simp only [pickL] at h
    split at h
    · rename_i x hx
      rcases List.mem_cons.1 h with rfl | h
      · exact ⟨k, by simp, hx⟩
      · obtain ⟨j, h1, h2⟩ := pickL_mem L r q h; exact ⟨j, by simp [h1], h2⟩
    · obtain ⟨j, h1, h2⟩ := pickL_mem L r q h; exact ⟨j, by simp [h1], h2⟩
def freeL : List Nat → Bool
  | [] => true
  | k :: r => r.all (fun j => !Nat.beq k j) && freeL r
/-- some of the own blocks, in another order -/
theorem Mem.pick {w0 w : World} {X : Bs} {L : List (Nat × Blk)} (h : Mem w0 w X L) (ks : List Nat) (hk : freeL ks = true) : Mem w0 w X (pickL L ks) := by
  have hin : ∀ q, q ∈ pickL L ks → q ∈ L := fun q hq => by obtain ⟨k, _, h1⟩ := pickL_mem L ks q hq; exact blk_mem h1
  refine ⟨h.os, h.tape, h.output, h.size, h.same, fun p hp => h.own p (hin p hp), fun p hp => h.fresh p (hin p hp), ?_⟩
  have hn := h.nodup
  clear hin h
  induction ks with
  | nil => simp [pickL, reals]
  | cons k r ih =>
    simp only [freeL, Bool.and_eq_true, List.all_eq_true, Bool.not_eq_true'] at hk
    simp only [pickL]
    split
    · rename_i q hq
      rw [reals_cons]
      split
      · rename_i hr
        refine List.nodup_cons.2 ⟨fun hm => ?_, ih hk.2⟩
        obtain ⟨b, hb, hbr⟩ := mem_reals.1 hm
        obtain ⟨j, hj, hjb⟩ := pickL_mem L r _ hb
        have hne := hk.1 j hj
        obtain ⟨q1, q2⟩ := q
        rcases Nat.lt_trichotomy k j with hlt | heq | hgt
        · exact reals_ne L k j q1 q1 q2 b hn hq hjb hr hbr hlt rfl
        · subst heq; simp at hne
        · exact reals_ne L j k q1 q1 b q2 hn hjb hq hbr hr hgt rfl
      · exact ih hk.2
    · exact ih hk.2
theorem slp_zero' {p : Option Addr} {cap es : Nat} (hp : cap ≠ 0 → ∀ a, p = some a → a.spot = none) : slp p cap 0 es = p := by
  by_cases h : cap = 0
  · unfold slp; rw [if_pos h]
  · exact slp_zero (hp h)
theorem slp_spot {p : Option Addr} {cap l es : Nat} (h : cap ≠ l → ∀ a, p = some a → a.spot = none) {ad : Addr} (hs : cap ≠ l) (e : slp p cap l es = some ad) : ad.spot = none := by
  unfold slp at e
  rw [if_neg hs] at e
  cases p with
  | none => cases e
  | some a => simp at e; rw [← e]
theorem Rd.takeB {w : World} {p : Option Addr} {bs : List UInt8} (h : Rd w p (bs.flatMap encB)) (m : Nat) : Rd w p ((bs.take m).flatMap encB) :=
  Rd.pre h (fun j v hj => by rw [encB_get, List.getElem?_take] at hj; rw [encB_get]; split at hj; exact hj; cases hj) (fun e => by subst e; rw [nilB (show bs.flatMap encB = [] from h)]; simp)
theorem arrO_spec {P : Program} {T n e es : Nat} (h : arrO P T = some (n, e, es)) : P.underlying T = some (.array n e) ∧ ∃ i, P.info? e = some i ∧ i.size = es := by
  unfold arrO at h
  cases hu : P.underlying T with
  | none => simp [hu] at h
  | some d =>
    cases d <;> simp [hu] at h
    rename_i n' e'
    cases hi : P.info? e' with
    | none => simp [hi] at h
    | some i =>
      simp [hi] at h
      obtain ⟨rfl, rfl, h2⟩ := h
      exact ⟨rfl, i, hi, h2⟩
section
variable {P : Program} {md : Md} {w : World} {n : Nat} {D : List Deferred} {S : List (Nat × Value)} {dst : Option Tmp} {ty : TypeId} {pos : String} {af : Array Edge} {g : Option (Nat × Bool)}
/-- an element's address in an array at an address -/
theorem y_indexP {T an e es : Nat} {x y : Operand} {m off : Nat} {k' : IntKind} {j : Int} (hx : ev S x = some (.pointer (some ⟨m, off, none⟩))) (hy : ev S y = some (.int k' j)) (hT : arrO P T = some (an, e, es)) (h0 : 0 ≤ j) (h1 : j < an) :
    ∀ a, Fr a n D S → Yl P md w a ⟨dst, .indexAddr T x y, ty, pos, af, g⟩ (.pointer (some ⟨m, off + j.toNat * es, none⟩)) := fun a hf u _ => by
  obtain ⟨hu, i, hi, hs⟩ := arrO_spec hT
  have hsz : (sizeOf e).run P u = .ok es u := by simp [sizeOf, typeInfo, hi, hs]
  have hadd : (⟨m, off, none⟩ : Addr).add (j.toNat * es) = ⟨m, off + j.toNat * es, none⟩ := by
    unfold Addr.add; split
    · rename_i h; rw [h]; simp
    · simp
  simp [execOp, hf.eval hx, hf.eval hy, Instr.indexAt, asIntOf, run_und hu, Instr.sureAddr, h0, h1, hsz, hadd]
end
theorem Acc.ptr {e es n cap g : Nat} {b : Blk} {p : Option Addr} {cells : List Value} (h : Acc e es p n cap cells g b) (hn : 0 < n) : p = some ⟨g, 0, none⟩ := by
  rcases h.cases' with ⟨h1, _, _⟩ | ⟨l, h2, _⟩
  · omega
  · exact h2
theorem setB_eq : ∀ (L : List (Nat × Blk)) (k n : Nat) (b x : Blk), blk L k = some (n, b) → setB L k x = setE L k (n, x)
  | [], _, _, _, _, _ => rfl
  | (m, d) :: r, 0, n, b, x, h => by simp only [blk, Option.some.injEq, Prod.mk.injEq] at h; obtain ⟨rfl, _⟩ := h; rfl
  | (m, d) :: r, k + 1, n, b, x, h => by simp only [blk] at h; simp only [setB, setE, setB_eq r k n b x h]
/-- a store into an own slice -/
theorem Acc.store {e es g n cap i : Nat} {b : Blk} {p : Option Addr} {cells vs : List Value} {w0 w : World} {X : Bs} {L : List (Nat × Blk)} {P : Program} {T : TypeId} {v : Value} (ha : Acc e es p n cap cells g b) (hm : Mem w0 w X L) (j : Nat) (hj : blk L j = some (g, b)) (hi : i < n)
    (hc : v.cells = ⟨vs⟩) (hs : szO P T = some vs.length) (hl : vs.length = es) (h1 : vs.all (·.oneCell') = true) :
    ∃ b' w', (storeVar T ⟨g, 0 + i * es, none⟩ v).run P w = .ok () w' ∧ Acc e es p n cap (upds cells (i * es) vs) g b' ∧ Mem w0 w' X (setE L j (g, b')) ∧ b'.real = b.real ∧ Ext (fun k => k = g) w w' := by
  rcases ha.cases' with ⟨h2, _, _⟩ | ⟨l, rfl, rfl, hnc, hll, htk⟩
  · omega
  · have hle : (i + 1) * es ≤ n * es := Nat.mul_le_mul_right _ hi
    have hle2 : n * es ≤ cap * es := Nat.mul_le_mul_right _ hnc
    rw [Nat.succ_mul] at hle
    have hcl := ha.len
    refine ⟨.row e (upds l (i * es) vs), _, run_storeVar_mid (off := 0 + i * es) hc hs h1 (by simp only [Nat.ble_eq]; omega) (hm.get hj), ⟨by rw [upds_length, hcl], .inr ⟨_, rfl, rfl, hnc, by rw [upds_length, hll], ?_⟩⟩, ?_, rfl, ?_⟩
    · rw [upds_eq vs l _ (by omega), upds_eq vs cells _ (by omega), ← htk, List.take_append, List.take_append]
      simp only [List.length_take, List.length_append, List.take_take, List.drop_take]
      have e1 : min (n * es) (i * es) = i * es := by omega
      have e2 : min (i * es) (n * es) = i * es := by omega
      have e3 : min (i * es) l.length = i * es := by omega
      rw [e1, e2, e3, List.take_of_length_le (l := vs) (by omega)]
    · rw [Nat.zero_add, ← setB_eq L j g _ _ hj]
      exact setRow_mem hm hj
    · rw [Nat.zero_add]
      refine ⟨rfl, rfl, rfl, by simp [World.setRow], fun k hk hne => ?_⟩
      simp only [World.setRow, Array.getElem?_modify]
      rw [if_neg (by intro e; exact hne e.symm)]
section
variable {P : Program} {r : Option Nat} {k : Ks} {ops : Array Oper} {md : Md} {n : Nat} {D : List Deferred} {S : List (Nat × Value)} {w : World} {i : Nat} {t : Tr}
variable {ty : TypeId} {pos : String} {af : Array Edge} {g : Option (Nat × Bool)} {dst : Option Tmp} {d : Nat} {w0 : World} {X : Bs} {L : List (Nat × Blk)}
theorem a_storeE {T e es gg na cap ix : Nat} {x y : Operand} {vs cells : List Value} {v : Value} {b : Blk} {p : Option Addr} (ho : opn ops S i = some ⟨dst, .store T x y, ty, pos, af, g⟩) (hx : ev S x = some (.pointer (some ⟨gg, 0 + ix * es, none⟩))) (hy : ev S y = some v)
    (hc : v.cells = ⟨vs⟩) (hs : szO P T = some vs.length) (h1 : vs.all (·.oneCell') = true) (hl : vs.length = es) (ha : Acc e es p na cap cells gg b) (hix : ix < na) (hm : Mem w0 w X L) (j : Nat) (hj : blk L j = some (gg, b))
    (h : ∀ b' w', Acc e es p na cap (upds cells (ix * es) vs) gg b' → Mem w0 w' X (setE L j (gg, b')) → HR P r k ops none n D S t w') : HR P r k ops none n D S (.act i t) w := by
  obtain ⟨b', w', hrun, ha', hm', _⟩ := ha.store (P := P) (T := T) hm j hj hix hc hs hl h1
  refine a_skp (w' := w') ho rfl (fun a hf => ?_) trivial (h b' w' ha' hm')
  rw [Nat.zero_add] at hrun
  simp [execOp, hf.eval hx, hf.eval hy, Instr.storeAt, Instr.sureAddr, hrun]
end
theorem updB : ∀ (xs : List UInt8) (i : Nat) (y : UInt8), upds (xs.flatMap encB) (i * 1) [.int .u8 y.toNat] = (xs.set i y).flatMap encB
  | [], i, y => by simp [upds, upd]
  | x :: r, 0, y => rfl
  | x :: r, i + 1, y => by
    have := updB r i y
    simp only [Nat.mul_one, upds] at this ⊢
    simp only [List.flatMap_cons, encB, List.cons_append, List.nil_append, upd, List.set_cons_succ, this]
theorem u8inc (x : UInt8) : IntKind.u8.wrap ((x.toNat : Int) + 1) = ((x + 1).toNat : Int) := by
  have e : IntKind.u8.wrap ((x.toNat : Int) + 1) = ((x.toNat : Int) + 1) % 256 := by simp [IntKind.wrap, IntKind.signed, IntKind.bits]
  rw [e, UInt8.toNat_add]
  have h1 : (1 : UInt8).toNat = 1 := rfl
  rw [h1]
  omega
theorem Rd.lt {w : World} {p : Option Addr} {cs : List Value} (h : Rd w p cs) (hne : cs ≠ []) : ∀ ad, p = some ad → ad.block < w.heap.size := fun ad e => by
  subst e
  obtain ⟨v, r, rfl⟩ := List.exists_cons_of_ne_nil hne
  exact cell_lt (a := ⟨ad.block, ad.off + 0, none⟩) (h.2 0 v rfl)
/-- what came in lies apart from what is new -/
theorem Mem.apartR {w0 w : World} {L : List (Nat × Blk)} {p : Option Addr} {cs : List Value} {m : Nat} {b : Blk} (hm : Mem w0 w No L) (hR : Rd w0 p cs) (k : Nat) (hk : blk L k = some (m, b)) (hb : b.real = true := by rfl) : cs ≠ [] → ∀ ad, p = some ad → ad.block ≠ m := fun h ad e heq => by
  have h1 := hR.lt h ad e
  have h2 := (hm.fresh _ (blk_mem hk) hb).resolve_left id
  simp only at h2
  omega
theorem Hold.turn {b w w' : World} {Y Z : Bs} (h : Hold (some (b, Y)) w) (hx : Ext Z w w') (hz : ∀ k, Z k → Y k) : Hold (some (b, Y)) w' := Ext.trans h (hx.mono hz)
end Go.Cx
