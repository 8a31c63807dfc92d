/- The program logic of these proofs, part K: bytes as strings; own slices as states of loops. No condition. -/
import Derived.Test.YtoemhcpmdeinfaaCxJ
import Derived.Laws.IdiomStrings
namespace Go.Cx
set_option linter.unusedVariables false
set_option linter.unusedSimpArgs false
open Go

def bstr (l : List UInt8) : ByteArray := ⟨l.toArray⟩
theorem bstr_toList (l : List UInt8) : (bstr l).toList = l := by rw [ByteArray.toList_eq]; rfl
theorem bstr_inj {a b : List UInt8} (h : bstr a = bstr b) : a = b := by rw [← bstr_toList a, ← bstr_toList b, h]
theorem bstr_size (l : List UInt8) : (bstr l).size = l.length := rfl
theorem encB_get : ∀ (ys : List UInt8) (i : Nat), (ys.flatMap encB)[i]? = ys[i]?.map (fun x => Value.int .u8 x.toNat)
  | [], i => by simp
  | y :: r, 0 => rfl
  | y :: r, i + 1 => by simp only [List.flatMap_cons, encB, List.cons_append, List.nil_append, List.getElem?_cons_succ]; exact encB_get r i
/-- slice type s of bytes, string type t -/
def bts (P : Program) (s t : TypeId) : Bool := match P.underlying s, P.underlying t with | some (.slice e), some .string => (match P.underlying e with | some (.int .u8) => true | _ => false) | _, _ => false
theorem bts_spec {P : Program} {s t : TypeId} (h : bts P s t = true) : ∃ e, P.underlying s = some (.slice e) ∧ P.underlying e = some (.int .u8) ∧ P.underlying t = some .string := by
  unfold bts at h
  split at h
  · rename_i e hs ht
    split at h
    · rename_i he; exact ⟨e, hs, he, ht⟩
    · cases h
  · cases h
theorem run_cvs {P : Program} {s t : TypeId} {p : Option Addr} {cap : Nat} {xs : List UInt8} {u : World} (h : bts P s t = true) (hr : Rd u p (xs.flatMap encB)) : (convert s t (.slice p xs.length cap)).run P u = .ok (.string (bstr xs)) u := by
  obtain ⟨e, hs, he, ht⟩ := bts_spec h
  cases p with
  | none =>
    have hr : xs.flatMap encB = [] := hr
    obtain rfl := nilB hr
    rw [run_convert_bytes_string u s t e none _ cap hs he ht]; rfl
  | some a =>
    by_cases hne : xs = []
    · subst hne
      exact run_convert_bytes_back u s t e a cap [] hs he ht (fun j hj => absurd hj (by simp))
    · refine run_convert_bytes_back u s t e a cap xs hs he ht fun j hj => ?_
      obtain ⟨b, o, sp⟩ := a
      have hsp : sp = none := hr.1 fun e => hne (nilB e)
      subst hsp
      have := hr.2 j (.int .u8 xs[j].toNat) (by rw [encB_get, List.getElem?_eq_getElem hj]; rfl)
      by_cases hj0 : j = 0
      · subst hj0; simpa [Addr.add] using this
      · simpa [Addr.add, hj0] using this
section
variable {P : Program} {md : Md} {w : World} {n : Nat} {D : List Deferred} {S : List (Nat × Value)} {dst : Option Tmp} {ty : TypeId} {pos : String} {af : Array Edge} {g : Option (Nat × Bool)}
theorem y_cvs {s t : TypeId} {x : Operand} {p : Option Addr} {cap m : Nat} {xs : List UInt8} (hx : ev S x = some (.slice p m cap)) (h : bts P s t = true) (hR : ∀ u, Near md w u → Rd u p (xs.flatMap encB)) (hm : m = xs.length) :
    ∀ a, Fr a n D S → Yl P md w a ⟨dst, .convert s t x, ty, pos, af, g⟩ (.string (bstr xs)) := fun a hf u hu => by
  subst hm
  simp [execOp, hf.eval hx, run_cvs h (hR u hu)]
theorem y_seqB {t yt : TypeId} {x y : Operand} {a b : List UInt8} (hx : ev S x = some (.string (bstr a))) (hy : ev S y = some (.string (bstr b))) :
    ∀ c, Fr c n D S → Yl P md w c ⟨dst, .binOp .eql t x y yt, ty, pos, af, g⟩ (.bool (decide (a = b))) := by
  have := y_seql (P := P) (md := md) (w := w) (n := n) (D := D) (dst := dst) (ty := ty) (pos := pos) (af := af) (g := g) (t := t) (yt := yt) hx hy
  rw [bstr_toList, bstr_toList] at this
  have e : (a == b) = decide (a = b) := by rw [Bool.eq_iff_iff]; simp
  rw [e] at this
  exact this
theorem y_snqB {t yt : TypeId} {x y : Operand} {a b : List UInt8} (hx : ev S x = some (.string (bstr a))) (hy : ev S y = some (.string (bstr b))) :
    ∀ c, Fr c n D S → Yl P md w c ⟨dst, .binOp .neq t x y yt, ty, pos, af, g⟩ (.bool (decide (a ≠ b))) := by
  have := y_sneq (P := P) (md := md) (w := w) (n := n) (D := D) (dst := dst) (ty := ty) (pos := pos) (af := af) (g := g) (t := t) (yt := yt) hx hy
  rw [bstr_toList, bstr_toList] at this
  have e : (!(a == b)) = decide (a ≠ b) := by rw [Bool.eq_iff_iff]; simp
  rw [e] at this
  exact this
theorem y_cat {t yt : TypeId} {x y : Operand} {a b : List UInt8} (hx : ev S x = some (.string (bstr a))) (hy : ev S y = some (.string (bstr b))) (hl : a.length + b.length ≤ 9223372036854775807) :
    ∀ c, Fr c n D S → Yl P md w c ⟨dst, .binOp .add t x y yt, ty, pos, af, g⟩ (.string (bstr (a ++ b))) := y_bin hx hy fun u => by
  have e : bstr a ++ bstr b = bstr (a ++ b) := by
    apply ByteArray.ext
    simp [bstr, ByteArray.data_append]
  have h1 : ((bstr a).size : Int) + (bstr b).size ≤ 9223372036854775807 := by rw [bstr_size, bstr_size]; omega
  simp [eqGuard, binOp, Op.stringOp, e]
  omega
end
/-- the state of an own slice -/
structure Ow where
  p : Option Addr
  n : Nat
  cap : Nat
  g : Nat
  b : Blk
theorem Acc.lenB {e n cap g : Nat} {b : Blk} {p : Option Addr} {bs : List UInt8} (h : Acc e 1 p n cap (bs.flatMap encB) g b) : n = bs.length := by
  have := h.len
  rw [Cx.lenB] at this
  omega
theorem Acc.to {e es n cap g : Nat} {b : Blk} {p : Option Addr} {cs ds : List Value} (h : Acc e es p n cap cs g b) (he : cs = ds) : Acc e es p n cap ds g b := he ▸ h
theorem pickL_mem : ∀ (L : List (Nat × Blk)) (ks : List Nat) (q : Nat × Blk), q ∈ pickL L ks → ∃ k, k ∈ ks ∧ blk L k = some q
  | _, [], _, h => by simp [pickL] at h
  | L, k :: r, q, h => by
    simp only [pickL] at h
    split at h
    · rename_i x hx
      rcases List.mem_cons.1 h with rfl | h
      · exact ⟨k, by simp, hx⟩
      · obtain ⟨j, h1, h2⟩ := pickL_mem L r q h; exact ⟨j, by simp [h1], h2⟩
    · obtain ⟨j, h1, h2⟩ := pickL_mem L r q h; exact ⟨j, by simp [h1], h2⟩
def freeL : List Nat → Bool
  | [] => true
  | k :: r => r.all (fun j => !Nat.beq k j) && freeL r
/-- some of the own blocks, in another order -/
theorem Mem.pick {w0 w : World} {X : Bs} {L : List (Nat × Blk)} (h : Mem w0 w X L) (ks : List Nat) (hk : freeL ks = true) : Mem w0 w X (pickL L ks) := by
  have hin : ∀ q, q ∈ pickL L ks → q ∈ L := fun q hq => by obtain ⟨k, _, h1⟩ := pickL_mem L ks q hq; exact blk_mem h1
  refine ⟨h.os, h.tape, h.output, h.size, h.same, fun p hp => h.own p (hin p hp), fun p hp => h.fresh p (hin p hp), ?_⟩
  have hn := h.nodup
  clear hin h
  induction ks with
  | nil => simp [pickL, reals]
  | cons k r ih =>
    simp only [freeL, Bool.and_eq_true, List.all_eq_true, Bool.not_eq_true'] at hk
    simp only [pickL]
    split
    · rename_i q hq
      rw [reals_cons]
      split
      · rename_i hr
        refine List.nodup_cons.2 ⟨fun hm => ?_, ih hk.2⟩
        obtain ⟨b, hb, hbr⟩ := mem_reals.1 hm
        obtain ⟨j, hj, hjb⟩ := pickL_mem L r _ hb
        have hne := hk.1 j hj
        obtain ⟨q1, q2⟩ := q
        rcases Nat.lt_trichotomy k j with hlt | heq | hgt
        · exact reals_ne L k j q1 q1 q2 b hn hq hjb hr hbr hlt rfl
        · subst heq; simp at hne
        · exact reals_ne L j k q1 q1 b q2 hn hjb hq hbr hr hgt rfl
      · exact ih hk.2
    · exact ih hk.2
theorem slp_zero' {p : Option Addr} {cap es : Nat} (hp : cap ≠ 0 → ∀ a, p = some a → a.spot = none) : slp p cap 0 es = p := by
  by_cases h : cap = 0
  · unfold slp; rw [if_pos h]
  · exact slp_zero (hp h)
theorem slp_spot {p : Option Addr} {cap l es : Nat} (h : cap ≠ l → ∀ a, p = some a → a.spot = none) {ad : Addr} (hs : cap ≠ l) (e : slp p cap l es = some ad) : ad.spot = none := by
  unfold slp at e
  rw [if_neg hs] at e
  cases p with
  | none => cases e
  | some a => simp at e; rw [← e]
theorem Rd.takeB {w : World} {p : Option Addr} {bs : List UInt8} (h : Rd w p (bs.flatMap encB)) (m : Nat) : Rd w p ((bs.take m).flatMap encB) :=
  Rd.pre h (fun j v hj => by rw [encB_get, List.getElem?_take] at hj; rw [encB_get]; split at hj; exact hj; cases hj) (fun e => by subst e; rw [nilB (show bs.flatMap encB = [] from h)]; simp)
end Go.Cx
