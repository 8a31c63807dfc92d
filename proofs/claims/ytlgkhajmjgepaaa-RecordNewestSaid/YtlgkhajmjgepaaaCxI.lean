/- The program logic of these proofs, part I: values of integers, booleans and strings compared, whatever structs and arrays they make up; a field of a struct's value. No condition. -/
import Derived.Test.YtlgkhajmjgepaaaCxH
import Derived.ChangeKeysEq
namespace Go.Cx
set_option linter.unusedVariables false
set_option linter.unusedSimpArgs false
open Go

inductive LK where
  | num (k : IntKind)
  | bit
  | str
def okLf : LK → Value → Bool
  | .num k, .int k' _ => decide (k' = k)
  | .bit, .bool _ => true
  | .str, .string _ => true
  | _, _ => false
def lfEq : Value → Value → Bool
  | .int _ a, .int _ b => decide (a = b)
  | .bool a, .bool b => a == b
  | .string a, .string b => a.toList == b.toList
  | _, _ => false
def fitL : List LK → List Value → Bool
  | [], [] => true
  | k :: ks, v :: vs => okLf k v && fitL ks vs
  | _, _ => false
def eqL : List Value → List Value → Bool
  | [], [] => true
  | a :: as, b :: bs => lfEq a b && eqL as bs
  | _, _ => false

theorem fitL_len : ∀ {ks : List LK} {vs : List Value}, fitL ks vs = true → vs.length = ks.length
  | [], [], _ => rfl
  | [], _ :: _, h => by simp [fitL] at h
  | _ :: _, [], h => by simp [fitL] at h
  | k :: ks, v :: vs, h => by simp only [fitL, Bool.and_eq_true] at h; simp [fitL_len h.2]
theorem fitL_app : ∀ {ks js : List LK} {vs : List Value}, fitL (ks ++ js) vs = true → fitL ks (vs.take ks.length) = true ∧ fitL js (vs.drop ks.length) = true
  | [], _, vs, h => by simpa [fitL] using h
  | k :: ks, js, [], h => by simp [fitL] at h
  | k :: ks, js, v :: vs, h => by
    simp only [List.cons_append, fitL, Bool.and_eq_true] at h
    have := fitL_app h.2
    simp only [List.length_cons, List.take_succ_cons, List.drop_succ_cons, fitL, Bool.and_eq_true]
    exact ⟨⟨h.1, this.1⟩, this.2⟩
theorem eqL_app : ∀ (m : Nat) (as bs : List Value), as.length = bs.length → eqL as bs = (eqL (as.take m) (bs.take m) && eqL (as.drop m) (bs.drop m))
  | 0, as, bs, _ => by simp [eqL]
  | m + 1, [], [], _ => by simp [eqL]
  | m + 1, [], _ :: _, h => by simp at h
  | m + 1, _ :: _, [], h => by simp at h
  | m + 1, a :: as, b :: bs, h => by
    simp only [List.length_cons, Nat.add_right_cancel_iff] at h
    simp only [List.take_succ_cons, List.drop_succ_cons, eqL, eqL_app m as bs h, Bool.and_assoc]
theorem eqL_iff : ∀ {ks : List LK} {as bs : List Value}, fitL ks as = true → fitL ks bs = true → (eqL as bs = true ↔ as = bs)
  | [], [], [], _, _ => by simp [eqL]
  | [], _ :: _, _, h, _ => by simp [fitL] at h
  | [], [], _ :: _, _, h => by simp [fitL] at h
  | _ :: _, [], _, h, _ => by simp [fitL] at h
  | _ :: _, _ :: _, [], _, h => by simp [fitL] at h
  | k :: ks, a :: as, b :: bs, h1, h2 => by
    simp only [fitL, Bool.and_eq_true] at h1 h2
    simp only [eqL, Bool.and_eq_true, eqL_iff h1.2 h2.2, List.cons.injEq]
    refine and_congr_left fun _ => ?_
    have ha := h1.1
    have hb := h2.1
    cases k <;> cases a <;> simp [okLf] at ha <;> cases b <;> simp [okLf] at hb
    · subst ha; subst hb; simp [lfEq]
    · simp [lfEq]
    · rename_i x y
      simp only [lfEq, beq_iff_eq, Value.string.injEq]
      constructor
      · intro h
        rw [ByteArray.toList_eq, ByteArray.toList_eq] at h
        obtain ⟨⟨x⟩⟩ := x
        obtain ⟨⟨y⟩⟩ := y
        simp only at h
        rw [h]
      · intro h; rw [h]

def shF (g : TypeId → Option (List LK)) : List Field → Nat → Option (List LK)
  | [], _ => some []
  | f :: r, o => if (f.name != "_" && Nat.beq f.offset o) = true then (match g f.type with | some ks => (match shF g r (o + ks.length) with | some js => some (ks ++ js) | none => none) | none => none) else none
def repL (ks : List LK) : Nat → List LK
  | 0 => []
  | n + 1 => ks ++ repL ks n
def sizd (P : Program) (t : TypeId) (o : Option (List LK)) : Option (List LK) := match o, szO P t with
  | some ks, some m => if Nat.beq ks.length m = true then some ks else none
  | _, _ => none
/-- the leaves of a type of integers, booleans and strings -/
def shp (P : Program) : Nat → TypeId → Option (List LK)
  | 0, _ => none
  | n + 1, t => sizd P t (match P.underlying t with
    | some (.int k) => some [.num k]
    | some .bool => some [.bit]
    | some .string => some [.str]
    | some (.struct fs) => if P.stoodInHeld t = true then none else shF (shp P n) fs.toList 0
    | some (.array m e) => (match shp P n e with | some ks => some (repL ks m) | none => none)
    | _ => none)
def aggB (P : Program) (t : TypeId) : Bool := match P.underlying t with | some (.struct _) => true | some (.array _ _) => true | _ => false
def vOf (g : Bool) (cs : List Value) : Value := bif g then .agg ⟨cs⟩ else cs.headD undef

section
variable {P : Program} {u : World}
theorem sizd_spec {t : TypeId} {o : Option (List LK)} {ks : List LK} (h : sizd P t o = some ks) : o = some ks ∧ szO P t = some ks.length := by
  unfold sizd at h
  split at h
  · rename_i js m hs
    split at h
    · rename_i hb; cases h; exact ⟨rfl, by rw [hs]; congr 1; exact (Nat.eq_of_beq_eq_true hb).symm⟩
    · cases h
  · cases h
theorem run_isAggB {t : TypeId} {m : Nat} (h : szO P t = some m) (hu : (P.underlying t).isSome = true) : (isAgg t).run P u = .ok (aggB P t) u := by
  obtain ⟨d, hd⟩ := Option.isSome_iff_exists.1 hu
  simp only [isAgg, Sem.run_bind, run_und hd, Result.andThen_ok, aggB, hd]
  cases d <;> simp
theorem run_partV {t : TypeId} {m : Nat} (h : szO P t = some m) (hu : (P.underlying t).isSome = true) (h1 : aggB P t = false → m = 1) (xs : List Value) (off : Nat) (hl : off + m ≤ xs.length) :
    (part t ⟨xs⟩ off).run P u = .ok (vOf (aggB P t) ((xs.drop off).take m)) u := by
  simp only [part, Sem.run_bind, run_isAggB h hu, Result.andThen_ok]
  cases hg : aggB P t with
  | true =>
    simp only [if_true, Sem.run_bind, run_szO h, Result.andThen_ok, Sem.run_pure, vOf, cond_true]
    congr 2
    apply Array.ext'
    simp
  | false =>
    have := h1 hg
    subst this
    simp only [Bool.false_eq_true, if_false]
    have : (⟨xs⟩ : Array Value)[off]? = some (xs[off]'(by omega)) := by simp
    rw [this]
    simp only [Sem.run_pure, vOf, cond_false]
    rw [List.drop_eq_getElem_cons (by omega)]
    rfl

def EqW (P : Program) (d : Nat) (t : TypeId) (ks : List LK) : Prop :=
  szO P t = some ks.length ∧ (P.underlying t).isSome = true ∧ (aggB P t = false → ks.length = 1) ∧
    ∀ (u : World) (cs ds : List Value), fitL ks cs = true → fitL ks ds = true → (Op.equalIn d t (vOf (aggB P t) cs) (vOf (aggB P t) ds)).run P u = .ok (eqL cs ds) u

theorem run_eqF {d : Nat} {g : TypeId → Option (List LK)} (hg : ∀ t ks, g t = some ks → EqW P d t ks) (u : World) : ∀ (fs : List Field) (o : Nat) (ks : List LK) (xs ys : List Value), shF g fs o = some ks → fitL ks (xs.drop o) = true → fitL ks (ys.drop o) = true → o ≤ xs.length → o ≤ ys.length →
    (Op.eqFields d ⟨xs⟩ ⟨ys⟩ fs).run P u = .ok (eqL (xs.drop o) (ys.drop o)) u
  | [], o, ks, xs, ys, h, hx, hy, _, _ => by
    simp only [shF, Option.some.injEq] at h
    subst h
    have h1 := List.length_eq_zero_iff.1 (fitL_len hx)
    have h2 := List.length_eq_zero_iff.1 (fitL_len hy)
    rw [h1, h2]
    rfl
  | f :: r, o, ks, xs, ys, h, hx, hy, hxl, hyl => by
    simp only [shF] at h
    split at h
    · rename_i hc
      simp only [Bool.and_eq_true, bne_iff_ne, ne_eq, Nat.beq_eq] at hc
      split at h
      · rename_i k1 hk1
        split at h
        · rename_i k2 hk2
          cases h
          obtain ⟨hsz, hu, h1, heq⟩ := hg _ _ hk1
          have hlx := fitL_len hx
          have hly := fitL_len hy
          rw [List.length_drop, List.length_append] at hlx hly
          obtain ⟨hx1, hx2⟩ := fitL_app hx
          obtain ⟨hy1, hy2⟩ := fitL_app hy
          rw [List.drop_drop] at hx2 hy2
          have ih := run_eqF hg u r (o + k1.length) k2 xs ys hk2 hx2 hy2 (by omega) (by omega)
          simp only [Op.eqFields, hc.1, ne_eq, not_false_eq_true, if_true, Sem.run_bind, hc.2]
          rw [run_partV hsz hu h1 xs o (by omega), Result.andThen_ok, run_partV hsz hu h1 ys o (by omega), Result.andThen_ok, heq u _ _ hx1 hy1, Result.andThen_ok, Sem.run_ite]
          rw [eqL_app k1.length (xs.drop o) (ys.drop o) (by simp; omega), List.drop_drop, List.drop_drop]
          cases he : eqL ((xs.drop o).take k1.length) ((ys.drop o).take k1.length) with
          | true => simp only [Bool.not_true, Bool.false_eq_true, if_false, ih, Bool.true_and]
          | false => simp
        · cases h
      · cases h
    · cases h

theorem run_eqI {d : Nat} {e : TypeId} {k1 : List LK} (hg : EqW P d e k1) (hc : P.cellsOf e = k1.length) (u : World) : ∀ (n i : Nat) (xs ys : List Value), fitL (repL k1 n) (xs.drop (i * k1.length)) = true → fitL (repL k1 n) (ys.drop (i * k1.length)) = true → i * k1.length ≤ xs.length → i * k1.length ≤ ys.length →
    (Op.eqItems d e (P.cellsOf e) ⟨xs⟩ ⟨ys⟩ (List.range' i n)).run P u = .ok (eqL (xs.drop (i * k1.length)) (ys.drop (i * k1.length))) u
  | 0, i, xs, ys, hx, hy, _, _ => by
    have h1 := List.length_eq_zero_iff.1 (fitL_len hx)
    have h2 := List.length_eq_zero_iff.1 (fitL_len hy)
    rw [h1, h2]
    rfl
  | n + 1, i, xs, ys, hx, hy, hxl, hyl => by
    obtain ⟨hsz, hu, h1, heq⟩ := hg
    simp only [repL] at hx hy
    have hlx := fitL_len hx
    have hly := fitL_len hy
    rw [List.length_drop, List.length_append] at hlx hly
    obtain ⟨hx1, hx2⟩ := fitL_app hx
    obtain ⟨hy1, hy2⟩ := fitL_app hy
    rw [List.drop_drop] at hx2 hy2
    have e1 : i * k1.length + k1.length = (i + 1) * k1.length := by rw [Nat.succ_mul]
    rw [e1] at hx2 hy2
    have ih := run_eqI ⟨hsz, hu, h1, heq⟩ hc u n (i + 1) xs ys hx2 hy2 (by omega) (by omega)
    rw [List.range'_succ]
    simp only [Op.eqItems, Sem.run_bind, hc]
    rw [hc] at ih
    rw [run_partV hsz hu h1 xs _ (by omega), Result.andThen_ok, run_partV hsz hu h1 ys _ (by omega), Result.andThen_ok, heq u _ _ hx1 hy1, Result.andThen_ok, Sem.run_ite]
    rw [eqL_app k1.length (xs.drop (i * k1.length)) (ys.drop (i * k1.length)) (by simp; omega), List.drop_drop, List.drop_drop, e1]
    cases he : eqL ((xs.drop (i * k1.length)).take k1.length) ((ys.drop (i * k1.length)).take k1.length) with
    | true => simp only [Bool.not_true, Bool.false_eq_true, if_false, ih, Bool.true_and]
    | false => simp

theorem one_of {k : LK} {cs : List Value} (h : fitL [k] cs = true) : ∃ v, cs = [v] ∧ okLf k v = true := by
  match cs, h with
  | [v], h => exact ⟨v, rfl, by simpa [fitL] using h⟩
  | [], h => simp [fitL] at h
  | _ :: _ :: _, h => simp [fitL] at h

theorem shp_eq : ∀ (n : Nat) (t : TypeId) (ks : List LK) (d : Nat), shp P n t = some ks → EqW P (d + n) t ks
  | 0, t, ks, d, h => by simp [shp] at h
  | n + 1, t, ks, d, h => by
    obtain ⟨h1, h2⟩ := sizd_spec h
    cases hu : P.underlying t with
    | none => simp [hu] at h1
    | some D =>
      refine ⟨h2, by rw [hu]; rfl, fun hg => ?_, fun u cs ds hx hy => ?_⟩
      · cases D <;> simp [hu, aggB] at h1 hg <;> subst h1 <;> rfl
      cases D <;> simp only [hu, Option.some.injEq, reduceCtorEq] at h1
      case bool =>
        subst h1
        obtain ⟨a, rfl, ha⟩ := one_of hx
        obtain ⟨b, rfl, hb⟩ := one_of hy
        cases a <;> simp [okLf] at ha
        cases b <;> simp [okLf] at hb
        simp [aggB, hu, vOf, eqL, lfEq, Op.equalIn, run_und hu]
      case int k =>
        subst h1
        obtain ⟨a, rfl, ha⟩ := one_of hx
        obtain ⟨b, rfl, hb⟩ := one_of hy
        cases a <;> simp [okLf] at ha
        cases b <;> simp [okLf] at hb
        subst ha; subst hb
        simp [aggB, hu, vOf, eqL, lfEq, Op.equalIn, run_und hu, BEq.beq]
      case string =>
        subst h1
        obtain ⟨a, rfl, ha⟩ := one_of hx
        obtain ⟨b, rfl, hb⟩ := one_of hy
        cases a <;> simp [okLf] at ha
        cases b <;> simp [okLf] at hb
        simp [aggB, hu, vOf, eqL, lfEq, Op.equalIn, run_und hu, beq_toListBytes]
      case struct fs =>
        split at h1
        · cases h1
        · rename_i hst
          have hfo : P.fieldsOf t = fs := by simp [Program.fieldsOf, hu]
          have := run_eqF (P := P) (d := d + n) (g := shp P n) (fun t ks hk => shp_eq n t ks d hk) u fs.toList 0 ks cs ds h1 (by simpa using hx) (by simpa using hy) (Nat.zero_le _) (Nat.zero_le _)
          simp only [aggB, hu, vOf, cond_true]
          rw [show d + (n + 1) = (d + n) + 1 from rfl, run_equalIn_struct u (d + n) t _ _ (by rw [hfo]; exact hu) (by simpa using hst), hfo]
          simpa using this
      case array m e =>
        split at h1
        · rename_i k1 hk1
          cases h1
          have hE := shp_eq n e k1 d hk1
          have hce : P.cellsOf e = k1.length ∧ ∃ i, P.info? e = some i := by
            have := hE.1
            unfold szO at this
            cases hi : P.info? e with
            | none => simp [hi] at this
            | some i => simp [hi] at this; exact ⟨by simp [Program.cellsOf, hi, this], i, rfl⟩
          obtain ⟨hc, i, hi⟩ := hce
          have := run_eqI hE hc u m 0 cs ds (by simpa using hx) (by simpa using hy) (by simp) (by simp)
          simp only [aggB, hu, vOf, cond_true]
          rw [show d + (n + 1) = (d + n) + 1 from rfl, run_equalIn_array u (d + n) _ _ hu hi, List.range_eq_range']
          simpa using this
        · cases h1

/-- a type of structs or arrays, flat, that is compared without a guard -/
def flat (P : Program) (t : TypeId) (ks : List LK) : Bool := (match shp P 6 t with | some js => decide (js.length = ks.length) && (js.zip ks).all (fun (a, b) => match a, b with | .num x, .num y => decide (x = y) | .bit, .bit => true | .str, .str => true | _, _ => false) | none => false) && aggB P t && !P.eqGuardType P.depth t
theorem lk_eq : ∀ (a b : List LK), a.length = b.length → (a.zip b).all (fun (a, b) => match a, b with | .num x, .num y => decide (x = y) | .bit, .bit => true | .str, .str => true | _, _ => false) = true → a = b
  | [], [], _, _ => rfl
  | x :: a, y :: b, h, g => by
    simp only [List.zip_cons_cons, List.all_cons, Bool.and_eq_true] at g
    simp only [List.length_cons, Nat.add_right_cancel_iff] at h
    rw [lk_eq a b h g.2]
    have := g.1
    cases x <;> cases y <;> simp at this ⊢
    exact this
  | [], _ :: _, h, _ => by simp at h
  | _ :: _, [], h, _ => by simp at h
theorem flat_spec {t : TypeId} {ks : List LK} (h : flat P t ks = true) : shp P 6 t = some ks ∧ aggB P t = true ∧ P.eqGuardType P.depth t = false := by
  unfold flat at h
  simp only [Bool.and_eq_true, Bool.not_eq_true'] at h
  obtain ⟨⟨h1, h2⟩, h3⟩ := h
  split at h1
  · rename_i js hj
    simp only [Bool.and_eq_true, decide_eq_true_eq] at h1
    rw [hj, lk_eq js ks h1.1 h1.2]
    exact ⟨rfl, h2, h3⟩
  · cases h1
theorem guardF {t : TypeId} {op : BinOp} {x y : Operand} {xs ys : Array Value} (h : P.eqGuardType P.depth t = false) (u : World) : (eqGuard op t x y (.agg xs) (.agg ys)).run P u = .ok () u := by
  unfold eqGuard
  cases op <;> simp [h]
variable {md : Md} {w : World} {n : Nat} {D : List Deferred} {S : List (Nat × Value)} {dst : Option Tmp} {ty : TypeId} {pos : String} {af : Array Edge} {g : Option (Nat × Bool)}
theorem run_eqFlat {t : TypeId} {ks : List LK} {cs ds : List Value} (h : flat P t ks = true) (hx : fitL ks cs = true) (hy : fitL ks ds = true) (u : World) : (Op.equal t (.agg ⟨cs⟩) (.agg ⟨ds⟩)).run P u = .ok (eqL cs ds) u := by
  obtain ⟨h1, h2, _⟩ := flat_spec h
  have := (shp_eq (P := P) 6 t ks 9994 h1).2.2.2 u cs ds hx hy
  rw [h2] at this
  exact this
theorem y_eqF {t yt : TypeId} {x y : Operand} {ks : List LK} {cs ds : List Value} (hx : ev S x = some (.agg ⟨cs⟩)) (hy : ev S y = some (.agg ⟨ds⟩)) (h : flat P t ks = true) (h1 : fitL ks cs = true) (h2 : fitL ks ds = true) :
    ∀ ac, Fr ac n D S → Yl P md w ac ⟨dst, .binOp .eql t x y yt, ty, pos, af, g⟩ (.bool (eqL cs ds)) := y_bin hx hy fun u => by
  simp only [Sem.run_bind, guardF (flat_spec h).2.2, Result.andThen_ok, binOp, run_eqFlat h h1 h2, Sem.run_pure]
theorem y_neF {t yt : TypeId} {x y : Operand} {ks : List LK} {cs ds : List Value} (hx : ev S x = some (.agg ⟨cs⟩)) (hy : ev S y = some (.agg ⟨ds⟩)) (h : flat P t ks = true) (h1 : fitL ks cs = true) (h2 : fitL ks ds = true) :
    ∀ ac, Fr ac n D S → Yl P md w ac ⟨dst, .binOp .neq t x y yt, ty, pos, af, g⟩ (.bool (!eqL cs ds)) := y_bin hx hy fun u => by
  simp only [Sem.run_bind, guardF (flat_spec h).2.2, Result.andThen_ok, binOp, run_eqFlat h h1 h2, Sem.run_pure]

/-- field f of struct type s: its offset, its cells, is it a struct or an array -/
def fldV (P : Program) (s f : Nat) : Option (Nat × Nat × Bool) := match P.underlying s with
  | some (.struct fs) => match fs[f]? with
    | some fd => match szO P fd.type with | some m => if ((P.underlying fd.type).isSome && (aggB P fd.type || Nat.beq m 1)) = true then some (fd.offset, m, aggB P fd.type) else none | none => none
    | none => none
  | _ => none
theorem y_fieldV {s fi o m : Nat} {b : Bool} {x : Operand} {cs vs : List Value} (hx : ev S x = some (.agg ⟨cs⟩)) (hf : fldV P s fi = some (o, m, b)) (hv : nths cs o m = some vs) :
    ∀ a, Fr a n D S → Yl P md w a ⟨dst, .field s x fi, ty, pos, af, g⟩ (vOf b vs) := fun a hfr u _ => by
  unfold fldV at hf
  split at hf
  · rename_i fs hu
    split at hf
    · rename_i fd hfd
      split at hf
      · rename_i m' hm
        split at hf
        · rename_i hc
          cases hf
          simp only [Bool.and_eq_true, Bool.or_eq_true] at hc
          obtain ⟨h1, h2⟩ := nths_get m fd.offset cs vs hv
          have hlen : fd.offset + m ≤ cs.length ∨ m = 0 := by
            rcases Nat.eq_zero_or_pos m with h0 | h0
            · exact .inr h0
            · left
              have hl : m - 1 < vs.length := by omega
              have := h2 (m - 1) vs[m - 1] (List.getElem?_eq_getElem hl)
              have := (List.getElem?_eq_some_iff.1 this).1
              omega
          have htake : (cs.drop fd.offset).take m = vs := by
            rcases hlen with hlen | h0
            · apply List.ext_getElem?
              intro j
              rw [List.getElem?_take, List.getElem?_drop]
              split
              · rename_i hj
                rw [List.getElem?_eq_getElem (by omega : j < vs.length)]
                exact h2 j vs[j] (List.getElem?_eq_getElem (by omega))
              · rw [List.getElem?_eq_none (by omega)]
            · subst h0; rw [List.length_eq_zero_iff.1 h1]; rfl
          have hp : (part fd.type ⟨cs⟩ fd.offset).run P u = .ok (vOf (aggB P fd.type) vs) u := by
            rcases hlen with hlen | h0
            · rw [run_partV hm hc.1 (fun hg => hc.2.elim (fun h => by rw [hg] at h; cases h) fun h => Nat.eq_of_beq_eq_true h) cs fd.offset hlen, htake]
            · subst h0
              have hg : aggB P fd.type = true := hc.2.elim id fun h => by cases h
              simp only [part, Sem.run_bind, run_isAggB hm hc.1, Result.andThen_ok, hg, if_true, run_szO hm, Sem.run_pure, vOf, cond_true]
              congr 2
              rw [List.length_eq_zero_iff.1 h1]
              apply Array.ext'
              simp
          simp [execOp, hfr.eval hx, Instr.field, run_und hu, hfd, hp, asAgg]
        · cases hf
      · cases hf
    · cases hf
  · cases hf
end
end Go.Cx
