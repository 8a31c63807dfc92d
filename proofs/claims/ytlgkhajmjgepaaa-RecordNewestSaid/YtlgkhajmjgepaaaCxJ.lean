/- The program logic of these proofs, part J: comparing with nil; blocks handed over by the caller; bytes. No condition. -/
import Derived.Test.YtlgkhajmjgepaaaCxI
namespace Go.Cx
set_option linter.unusedVariables false
set_option linter.unusedSimpArgs false
open Go

def ptrB (P : Program) (t : TypeId) : Bool := match P.underlying t with | some (.pointer _) => true | _ => false
def slcB (P : Program) (t : TypeId) : Bool := match P.underlying t with | some (.slice _) => true | _ => false
def mapB (P : Program) (t : TypeId) : Bool := match P.underlying t with | some (.map _ _) => true | _ => false
theorem run_pnil {P : Program} {d : Nat} {t e : TypeId} {p : Option Addr} (he : P.underlying t = some (.pointer e)) (u : World) : (Op.equalIn (d + 1) t (.pointer p) (.pointer none)).run P u = .ok p.isNone u := by
  cases p <;> simp [Op.equalIn, run_und he]
theorem run_snil {P : Program} {d : Nat} {t e : TypeId} {p : Option Addr} {l c : Nat} (he : P.underlying t = some (.slice e)) (u : World) : (Op.equalIn (d + 1) t (.slice p l c) (.slice none 0 0)).run P u = .ok p.isNone u := by
  cases p <;> simp [Op.equalIn, run_und he]
section
variable {P : Program} {md : Md} {w : World} {n : Nat} {D : List Deferred} {S : List (Nat × Value)} {dst : Option Tmp} {ty : TypeId} {pos : String} {af : Array Edge} {g : Option (Nat × Bool)}
theorem y_pnil {t yt : TypeId} {x y : Operand} {p : Option Addr} (hx : ev S x = some (.pointer p)) (hy : ev S y = some (.pointer none)) (h : ptrB P t = true) :
    ∀ a, Fr a n D S → Yl P md w a ⟨dst, .binOp .eql t x y yt, ty, pos, af, g⟩ (.bool p.isNone) := y_bin hx hy fun u => by
  unfold ptrB at h
  split at h
  · rename_i e he
    have hq : (Op.equal t (.pointer p) (.pointer none)).run P u = .ok p.isNone u := run_pnil (d := 9999) he u
    simp [eqGuard, binOp, hq]
  · cases h
theorem y_pnnil {t yt : TypeId} {x y : Operand} {p : Option Addr} (hx : ev S x = some (.pointer p)) (hy : ev S y = some (.pointer none)) (h : ptrB P t = true) :
    ∀ a, Fr a n D S → Yl P md w a ⟨dst, .binOp .neq t x y yt, ty, pos, af, g⟩ (.bool (!p.isNone)) := y_bin hx hy fun u => by
  unfold ptrB at h
  split at h
  · rename_i e he
    have hq : (Op.equal t (.pointer p) (.pointer none)).run P u = .ok p.isNone u := run_pnil (d := 9999) he u
    simp [eqGuard, binOp, hq]
  · cases h
theorem y_snil {t yt : TypeId} {x y : Operand} {p : Option Addr} {l c : Nat} (hx : ev S x = some (.slice p l c)) (hy : ev S y = some (.slice none 0 0)) (h : slcB P t = true) :
    ∀ a, Fr a n D S → Yl P md w a ⟨dst, .binOp .eql t x y yt, ty, pos, af, g⟩ (.bool p.isNone) := y_bin hx hy fun u => by
  unfold slcB at h
  split at h
  · rename_i e he
    have hq : (Op.equal t (.slice p l c) (.slice none 0 0)).run P u = .ok p.isNone u := run_snil (d := 9999) he u
    simp [eqGuard, binOp, hq]
  · cases h
theorem y_snnil {t yt : TypeId} {x y : Operand} {p : Option Addr} {l c : Nat} (hx : ev S x = some (.slice p l c)) (hy : ev S y = some (.slice none 0 0)) (h : slcB P t = true) :
    ∀ a, Fr a n D S → Yl P md w a ⟨dst, .binOp .neq t x y yt, ty, pos, af, g⟩ (.bool (!p.isNone)) := y_bin hx hy fun u => by
  unfold slcB at h
  split at h
  · rename_i e he
    have hq : (Op.equal t (.slice p l c) (.slice none 0 0)).run P u = .ok p.isNone u := run_snil (d := 9999) he u
    simp [eqGuard, binOp, hq]
  · cases h
end

/-- one block handed over by the caller -/
theorem Mem.start1 {w : World} {r : Nat} {b : Blk} (h : w.heap[r]? = some b.toObj) : Mem w w (fun k => k = r) [(r, b)] :=
  ⟨rfl, rfl, rfl, Nat.le_refl _, fun _ _ _ => rfl, by simp [h], by simp, by cases hb : b.real <;> simp [reals, hb]⟩
theorem Mem.start2 {w : World} {r s : Nat} {b c : Blk} (h : w.heap[r]? = some b.toObj) (h' : w.heap[s]? = some c.toObj) (hne : r ≠ s) : Mem w w (fun k => k = r ∨ k = s) [(r, b), (s, c)] :=
  ⟨rfl, rfl, rfl, Nat.le_refl _, fun _ _ _ => rfl, by simp [h, h'], by simp, by cases hb : b.real <;> cases hc : c.real <;> simp [reals, hb, hc, hne]⟩
theorem Acc.spot {e es n cap g : Nat} {b : Blk} {p : Option Addr} {cells : List Value} (h : Acc e es p n cap cells g b) (hc : cap ≠ 0) : ∀ ad, p = some ad → ad.spot = none := by
  rcases h.cases' with ⟨_, h2, _⟩ | ⟨l, h2, _⟩
  · exact absurd h2 hc
  · intro ad e; rw [h2] at e; cases e; rfl
theorem Acc.le {e es n cap g : Nat} {b : Blk} {p : Option Addr} {cells : List Value} (h : Acc e es p n cap cells g b) : n ≤ cap := by
  rcases h.cases' with ⟨h1, h2, _⟩ | ⟨l, _, _, h2, _⟩ <;> omega
/-- the slice's block is another one -/
theorem Acc.apart {w0 w : World} {X : Bs} {L : List (Nat × Blk)} {e es n cap g r : Nat} {b c : Blk} {p : Option Addr} {cells : List Value} (h : Acc e es p n cap cells g b) (hm : Mem w0 w X L) (j k : Nat) (hj : blk L j = some (g, b)) (hk : blk L k = some (r, c)) (hjk : Nat.beq j k = false) (hc : c.real = true := by rfl) :
    cells ≠ [] → ∀ ad, p = some ad → ad.block ≠ r := by
  rcases h.cases' with ⟨h1, _, _⟩ | ⟨l, h2, h3, _⟩
  · intro hne
    have := h.len
    rw [h1, Nat.zero_mul] at this
    exact absurd (List.length_eq_zero_iff.1 this) hne
  · intro _ ad e
    rw [h2] at e
    cases e
    subst h3
    exact hm.ne j k hj hk hjk rfl hc
theorem Rd.extN {w w' : World} {p : Option Addr} {cs : List Value} {Y : Bs} (h : Rd w p cs) (hx : Ext Y w w') (hY : cs ≠ [] → ∀ a, p = some a → ¬ Y a.block) : Rd w' p cs := by
  by_cases hc : cs = []
  · subst hc
    cases p with
    | none => rfl
    | some a => exact ⟨fun h => absurd rfl h, by simp⟩
  · exact h.ext hx (hY hc)

def encB (x : UInt8) : List Value := [.int .u8 x.toNat]
theorem encB_len (x : UInt8) : (encB x).length = 1 := rfl
theorem oneB : ∀ xs : List UInt8, (xs.flatMap encB).all (·.oneCell') = true
  | [] => rfl
  | x :: r => by simp only [List.flatMap_cons, List.all_append, oneB r, Bool.and_true]; rfl
theorem lenB (xs : List UInt8) : (xs.flatMap encB).length = xs.length * 1 := fm_length encB_len xs
theorem nilB {xs : List UInt8} (h : xs.flatMap encB = []) : xs = [] := by
  have := lenB xs
  rw [h] at this
  exact List.length_eq_zero_iff.1 (by simpa using this.symm)
theorem Rd.sub {w : World} {p : Option Addr} {xs : List UInt8} {cap l m : Nat} (h : Rd w p (xs.flatMap encB)) (hcap : xs.length ≤ cap) : Rd w (Cx.slp p cap l 1) (((xs.drop l).take m).flatMap encB) := by
  refine Rd.slp h (fun j v hj => ?_) (fun e => ?_)
  · have hg : ∀ (ys : List UInt8) (i : Nat), (ys.flatMap encB)[i]? = ys[i]?.map (fun x => Value.int .u8 x.toNat) := fun ys => by
      induction ys with
      | nil => intro i; simp
      | cons y r ih =>
        intro i
        cases i with
        | zero => rfl
        | succ i => simp only [List.flatMap_cons, encB, List.cons_append, List.nil_append, List.getElem?_cons_succ]; exact ih i
    rw [hg] at hj ⊢
    rw [List.getElem?_take] at hj
    split at hj
    · rw [List.getElem?_drop] at hj; rw [Nat.mul_one]; exact hj
    · cases hj
  · have : xs.drop l = [] := List.drop_eq_nil_of_le (by omega)
    rw [this]; simp
theorem slp_block {p : Option Addr} {cap l es : Nat} {a : Addr} (h : slp p cap l es = some a) : ∃ ad, p = some ad ∧ ad.block = a.block := by
  unfold slp at h
  split at h
  · exact ⟨a, h, rfl⟩
  · cases p with
    | none => simp at h
    | some ad => simp at h; exact ⟨ad, rfl, by rw [← h]⟩
end Go.Cx
