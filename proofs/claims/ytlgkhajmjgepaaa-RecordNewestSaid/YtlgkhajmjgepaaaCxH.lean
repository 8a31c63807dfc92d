/- The program logic of these proofs, part H: reading the elements of slices; structs of two integers compared. No condition. -/
import Derived.Test.YtlgkhajmjgepaaaCxG
import Derived.Laws.StructEq
namespace Go.Cx
set_option linter.unusedVariables false
set_option linter.unusedSimpArgs false
open Go

theorem fm_get {α : Type} {enc : α → List Value} {es : Nat} (he : ∀ x, (enc x).length = es) : ∀ (xs : List α) (i j : Nat) (x : α), xs[i]? = some x → j < es → (xs.flatMap enc)[i * es + j]? = (enc x)[j]?
  | [], i, j, x, h, _ => by simp at h
  | y :: r, 0, j, x, h, hj => by
    simp at h; subst h
    simp only [List.flatMap_cons, Nat.zero_mul, Nat.zero_add]
    rw [List.getElem?_append_left (by rw [he]; exact hj)]
  | y :: r, i + 1, j, x, h, hj => by
    simp at h
    simp only [List.flatMap_cons]
    rw [List.getElem?_append_right (by rw [he, Nat.succ_mul]; omega), he, show (i + 1) * es + j - es = i * es + j by rw [Nat.succ_mul]; omega]
    exact fm_get he r i j x h hj
theorem fm_length {α : Type} {enc : α → List Value} {es : Nat} (he : ∀ x, (enc x).length = es) : ∀ (xs : List α), (xs.flatMap enc).length = xs.length * es
  | [] => by simp
  | y :: r => by simp only [List.flatMap_cons, List.length_append, he, fm_length he r, List.length_cons, Nat.succ_mul]; omega

theorem Rd.nt {w : World} {p : Option Addr} {cs : List Value} (h : Rd w p cs) : ∀ u, Near none w u → Rd u p cs := fun u hu => by cases hu; exact h
theorem Rd.nd {w b : World} {p : Option Addr} {cs : List Value} (h : Rd b p cs) : ∀ u, Near (some (b, No)) w u → Rd u p cs := fun _ hu => h.ext0 hu
theorem Rd.at0 {w : World} {p : Option Addr} {cs : List Value} (h : Rd w p cs) (hne : cs ≠ []) : ∃ b o, p = some ⟨b, o, none⟩ := by
  cases p with
  | none => exact absurd h hne
  | some a => obtain ⟨b, o, s⟩ := a; have : s = none := h.1 hne; subst this; exact ⟨b, o, rfl⟩
theorem Rd.atI {α : Type} {w : World} {p : Option Addr} {enc : α → List Value} {xs : List α} {es i : Nat} {x : α} (h : Rd w p (xs.flatMap enc)) (he : ∀ x, (enc x).length = es) (h0 : 0 < es) (hi : xs[i]? = some x) : ∃ b o, p = some ⟨b, o, none⟩ :=
  h.at0 fun e => by
    have := fm_get he xs i 0 x hi h0
    rw [e] at this
    have hx := he x
    cases hc : enc x with
    | nil => rw [hc] at hx; simp at hx; omega
    | cons v r => rw [hc] at this; simp at this

section
variable {P : Program} {md : Md} {w : World} {n : Nat} {D : List Deferred} {S : List (Nat × Value)} {dst : Option Tmp} {ty : TypeId} {pos : String} {af : Array Edge} {g : Option (Nat × Bool)}

theorem y_elA {α : Type} {enc : α → List Value} {xs : List α} {t : TypeId} {x : Operand} {b o i es : Nat} {el : α} (hx : ev S x = some (.pointer (some ⟨b, o + i * es, none⟩))) (hs : aggS P t = some es) (hR : ∀ u, Near md w u → Rd u (some ⟨b, o, none⟩) (xs.flatMap enc))
    (he : ∀ x, (enc x).length = es) (hi : xs[i]? = some el) : ∀ a, Fr a n D S → Yl P md w a ⟨dst, .load t x, ty, pos, af, g⟩ (.agg ⟨enc el⟩) :=
  y_loadCA hx hs (he el) fun u hu j v hj => by
    have hlt : j < es := by rw [← he el]; exact (List.getElem?_eq_some_iff.1 hj).1
    have := (hR u hu).2 (i * es + j) v (by rw [fm_get he xs i j el hi hlt]; exact hj)
    rw [← Nat.add_assoc] at this
    exact this
theorem y_elS {α : Type} {enc : α → List Value} {xs : List α} {t : TypeId} {x : Operand} {b o i es fo : Nat} {el : α} {v : Value} (hx : ev S x = some (.pointer (some ⟨b, o + i * es + fo, none⟩))) (hs : scal P t = true) (hR : ∀ u, Near md w u → Rd u (some ⟨b, o, none⟩) (xs.flatMap enc))
    (he : ∀ x, (enc x).length = es) (hi : xs[i]? = some el) (hv : nth (enc el) fo = some v) : ∀ a, Fr a n D S → Yl P md w a ⟨dst, .load t x, ty, pos, af, g⟩ v :=
  y_loadC hx hs fun u hu => by
    rw [nth_eq] at hv
    have hlt : fo < es := by rw [← he el]; exact (List.getElem?_eq_some_iff.1 hv).1
    have := (hR u hu).2 (i * es + fo) v (by rw [fm_get he xs i fo el hi hlt]; exact hv)
    rw [← Nat.add_assoc] at this
    exact this
/-- a one-cell element -/
theorem y_el1 {α : Type} {enc : α → List Value} {xs : List α} {t : TypeId} {x : Operand} {b o i : Nat} {el : α} {v : Value} (hx : ev S x = some (.pointer (some ⟨b, o + i * 1, none⟩))) (hs : scal P t = true) (hR : ∀ u, Near md w u → Rd u (some ⟨b, o, none⟩) (xs.flatMap enc))
    (he : ∀ x, (enc x).length = 1) (hi : xs[i]? = some el) (hv : nth (enc el) 0 = some v) : ∀ a, Fr a n D S → Yl P md w a ⟨dst, .load t x, ty, pos, af, g⟩ v := y_elS (fo := 0) hx hs hR he hi hv

/-! structs of two integers -/
def int2 (P : Program) (T : TypeId) : Bool := match P.underlying T with
  | some (.struct ⟨[f, h]⟩) => f.offset == 0 && h.offset == 1 && f.name != "_" && h.name != "_" && (match P.underlying f.type, P.underlying h.type with | some (.int _), some (.int _) => true | _, _ => false) && !P.stoodInHeld T && !P.eqGuardType P.depth T
  | _ => false

theorem run_part_s {T : TypeId} {cs : Array Value} {off : Nat} {v : Value} {k : IntKind} (h : P.underlying T = some (.int k)) (hv : cs[off]? = some v) (u : World) : (part T cs off).run P u = .ok v u := by
  simp [part, isAgg, run_und h, hv]

theorem run_eq2 {T : TypeId} {d : Nat} {k1 k2 : IntKind} {a b c e : Int} (h : int2 P T = true) (u : World) : (Op.equalIn (d + 2) T (.agg ⟨[.int k1 a, .int k2 b]⟩) (.agg ⟨[.int k1 c, .int k2 e]⟩)).run P u = .ok (decide (a = c ∧ b = e)) u := by
  unfold int2 at h
  split at h
  · rename_i f g hu
    simp only [Bool.and_eq_true, beq_iff_eq, bne_iff_ne, Bool.not_eq_true'] at h
    obtain ⟨⟨⟨⟨⟨⟨hf0, hg0⟩, hfn⟩, hgn⟩, hty⟩, hst⟩, _⟩ := h
    have hfo : P.fieldsOf T = ⟨[f, g]⟩ := by unfold Program.fieldsOf; rw [hu]
    rw [run_equalIn_struct u (d + 1) T _ _ (by rw [hfo]; exact hu) hst, hfo]
    cases h1 : P.underlying f.type with
    | none => simp [h1] at hty
    | some d1 =>
      cases h2 : P.underlying g.type with
      | none => cases d1 <;> simp [h1, h2] at hty
      | some d2 =>
        cases d1 <;> simp [h1, h2] at hty
        cases d2 <;> simp at hty
        simp only [Op.eqFields, hfn, hgn, ne_eq, not_false_eq_true, if_true, Sem.run_bind, hf0, hg0]
        rw [run_part_s h1 (v := .int k1 a) rfl, Result.andThen_ok, run_part_s h1 (v := .int k1 c) rfl, Result.andThen_ok, run_equalIn_int u d _ _ _ _ _ h1, Result.andThen_ok, Sem.run_ite]
        by_cases hac : a = c
        · subst hac
          simp only [beq_self_eq_true, Bool.not_true, Bool.false_eq_true, if_false, Sem.run_bind]
          rw [run_part_s h2 (v := .int k2 b) rfl, Result.andThen_ok, run_part_s h2 (v := .int k2 e) rfl, Result.andThen_ok, run_equalIn_int u d _ _ _ _ _ h2, Result.andThen_ok, Sem.run_ite]
          by_cases hbe : b = e
          · simp [hbe]
          · simp [hbe]
        · simp [hac]
  · cases h
theorem guard2 {T : TypeId} {op : BinOp} {x y : Operand} {xs ys : Array Value} (h : int2 P T = true) (u : World) : (eqGuard op T x y (.agg xs) (.agg ys)).run P u = .ok () u := by
  unfold int2 at h
  split at h
  · simp only [Bool.and_eq_true, beq_iff_eq, bne_iff_ne, Bool.not_eq_true'] at h
    have hg := h.2
    unfold eqGuard
    cases op <;> simp [hg]
  · cases h
theorem y_eq2 {t yt : TypeId} {x y : Operand} {k1 k2 : IntKind} {a b c e : Int} (hx : ev S x = some (.agg ⟨[.int k1 a, .int k2 b]⟩)) (hy : ev S y = some (.agg ⟨[.int k1 c, .int k2 e]⟩)) (h : int2 P t = true) :
    ∀ ac, Fr ac n D S → Yl P md w ac ⟨dst, .binOp .eql t x y yt, ty, pos, af, g⟩ (.bool (decide (a = c ∧ b = e))) := y_bin hx hy fun u => by
  have : (Op.equal t (.agg ⟨[.int k1 a, .int k2 b]⟩) (.agg ⟨[.int k1 c, .int k2 e]⟩)).run P u = .ok (decide (a = c ∧ b = e)) u := run_eq2 (d := 9998) h u
  simp only [Sem.run_bind, guard2 h, Result.andThen_ok, binOp, this, Sem.run_pure]
theorem y_ne2 {t yt : TypeId} {x y : Operand} {k1 k2 : IntKind} {a b c e : Int} (hx : ev S x = some (.agg ⟨[.int k1 a, .int k2 b]⟩)) (hy : ev S y = some (.agg ⟨[.int k1 c, .int k2 e]⟩)) (h : int2 P t = true) :
    ∀ ac, Fr ac n D S → Yl P md w ac ⟨dst, .binOp .neq t x y yt, ty, pos, af, g⟩ (.bool (decide (¬ (a = c ∧ b = e)))) := y_bin hx hy fun u => by
  have : (Op.equal t (.agg ⟨[.int k1 a, .int k2 b]⟩) (.agg ⟨[.int k1 c, .int k2 e]⟩)).run P u = .ok (decide (a = c ∧ b = e)) u := run_eq2 (d := 9998) h u
  simp only [Sem.run_bind, guard2 h, Result.andThen_ok, binOp, this, Sem.run_pure]
  by_cases h : a = c ∧ b = e <;> simp [h]
end
end Go.Cx
