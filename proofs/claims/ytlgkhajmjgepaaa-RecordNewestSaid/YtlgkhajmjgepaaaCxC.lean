/- The program logic of these proofs, part C: the operations that turn nothing. No condition. -/
import Derived.Test.YtlgkhajmjgepaaaCxB
import Derived.Laws.Entries
namespace Go.Cx
set_option linter.unusedVariables false
set_option linter.unusedSimpArgs false
open Go

/-! ### Facts off the program's table of types, as closed functions -/
def scal (P : Program) (t : TypeId) : Bool := match P.underlying t with | some (.struct _) => false | some (.array _ _) => false | some _ => true | none => false
def aggS (P : Program) (t : TypeId) : Option Nat := match P.underlying t, P.info? t with
  | some (.struct _), some i => some i.size
  | some (.array _ _), some i => some i.size
  | _, _ => none
def szO (P : Program) (t : TypeId) : Option Nat := (P.info? t).map (·.size)
def fldO (P : Program) (s f : Nat) : Option Nat := match P.underlying s with
  | some (.struct fs) => match fs[f]? with
    | some fd => match P.info? fd.type with | some i => if i.size = 0 then none else some fd.offset | none => none
    | none => none
  | _ => none
def zer (P : Program) (t : TypeId) : Option (List Value) := (P.info? t).bind fun i => i.zero.map fun v => v.cells.toList
/-- a slice type: its element's type, that type's cells and bytes -/
def slcO (P : Program) (t : TypeId) : Option (TypeId × Nat × Nat) := match P.underlying t with
  | some (.slice e) => match P.info? e with | some i => some (e, i.size, i.bytes) | none => none
  | _ => none
def intO (P : Program) (t : TypeId) : Option IntKind := match P.underlying t with | some (.int k) => some k | _ => none
def arrO (P : Program) (t : TypeId) : Option (Nat × TypeId × Nat) := match P.underlying t with
  | some (.array n e) => match P.info? e with | some i => some (n, e, i.size) | none => none
  | _ => none

section
variable {P : Program} {w : World}

theorem run_und {t : TypeId} {d : TypeDesc} (h : P.underlying t = some d) : (underlying t).run P w = .ok d w := run_underlying h w
theorem run_isAgg_f {t : TypeId} (h : scal P t = true) : (isAgg t).run P w = .ok false w := by
  unfold scal at h
  cases hu : P.underlying t with
  | none => simp [hu] at h
  | some d =>
    simp only [isAgg, Sem.run_bind, run_und hu, Result.andThen_ok]
    cases d <;> simp [hu] at h ⊢
theorem run_isAgg_t {t : TypeId} {m : Nat} (h : aggS P t = some m) : (isAgg t).run P w = .ok true w := by
  unfold aggS at h
  cases hu : P.underlying t with
  | none => simp [hu] at h
  | some d =>
    simp only [isAgg, Sem.run_bind, run_und hu, Result.andThen_ok]
    cases d <;> simp [hu] at h ⊢
theorem szO_aggS {t : TypeId} {m : Nat} (h : aggS P t = some m) : szO P t = some m := by
  unfold aggS at h
  unfold szO
  cases hu : P.underlying t with
  | none => simp [hu] at h
  | some d =>
    cases hi : P.info? t with
    | none => cases d <;> simp [hu, hi] at h
    | some i => cases d <;> simp [hu, hi] at h <;> simp [h]
theorem run_szO {t : TypeId} {m : Nat} (h : szO P t = some m) : (sizeOf t).run P w = .ok m w := by
  unfold szO at h
  cases hi : P.info? t with
  | none => simp [hi] at h
  | some i =>
    simp [hi] at h
    simp [sizeOf, typeInfo, hi, h]
theorem run_zer {t : TypeId} {l : List Value} (h : zer P t = some l) : ∃ v, (zeroValue t).run P w = .ok v w ∧ v.cells = ⟨l⟩ := by
  unfold zer at h
  cases hi : P.info? t with
  | none => simp [hi] at h
  | some i =>
    cases hz : i.zero with
    | none => simp [hi, hz] at h
    | some v =>
      simp [hi, hz] at h
      refine ⟨v, by simp [zeroValue, typeInfo, hi, hz], ?_⟩
      subst h
      simp

theorem cell_row {n off : Nat} {e : TypeId} {l : List Value} (h : w.heap[n]? = some (Blk.row e l).toObj) : w.cell? ⟨n, off, none⟩ = l[off]? := by
  simp [World.cell?, h, Blk.toObj]
theorem frozen_row {n off : Nat} {e : TypeId} {l : List Value} (h : w.heap[n]? = some (Blk.row e l).toObj) : w.frozen? ⟨n, off, none⟩ = false := by
  simp [World.frozen?, h, Blk.toObj]

theorem nths_get : ∀ (m o : Nat) (l vs : List Value), nths l o m = some vs → vs.length = m ∧ ∀ j v, vs[j]? = some v → l[o + j]? = some v
  | 0, o, l, vs, h => by simp [nths] at h; subst h; simp
  | m + 1, o, l, vs, h => by
    simp only [nths] at h
    split at h
    · cases h
    · rename_i v hv
      split at h
      · cases h
      · rename_i r hr
        cases h
        obtain ⟨h1, h2⟩ := nths_get m (o + 1) l r hr
        refine ⟨by simp [h1], fun j u hj => ?_⟩
        cases j with
        | zero => simp at hj; subst hj; rw [nth_eq] at hv; simpa using hv
        | succ j => simp at hj; rw [show o + (j + 1) = (o + 1) + j by omega]; exact h2 j u hj

theorem run_loadVar_s {n off : Nat} {t e : TypeId} {l : List Value} {v : Value} (hs : scal P t = true) (h : w.heap[n]? = some (Blk.row e l).toObj) (hv : nth l off = some v) :
    (loadVar t ⟨n, off, none⟩).run P w = .ok v w := by
  have hc : w.cell? ⟨n, off, none⟩ = some v := by rw [cell_row h, ← nth_eq]; exact hv
  simp [loadVar, run_isAgg_f hs, hc]

theorem run_loadVar_a {n off m : Nat} {t e : TypeId} {l vs : List Value} (hs : aggS P t = some m) (h : w.heap[n]? = some (Blk.row e l).toObj) (hv : nths l off m = some vs) :
    (loadVar t ⟨n, off, none⟩).run P w = .ok (.agg ⟨vs⟩) w := by
  obtain ⟨h1, h2⟩ := nths_get m off l vs hv
  have hl : (loadCells ⟨n, off, none⟩ m).run P w = .ok ⟨vs⟩ w := by
    rw [← h1]
    refine (run_loadCells_list (P := P) w ⟨n, off, none⟩ vs fun j v hj => ?_)
    have := h2 j v hj
    rw [← cell_row h] at this
    by_cases hj0 : j = 0
    · subst hj0; simpa [Addr.add] using this
    · simpa [Addr.add, hj0] using this
  simp [loadVar, run_isAgg_t hs, run_szO (szO_aggS hs), hl]
end

section
variable {P : Program} {md : Md} {w : World} {n : Nat} {D : List Deferred} {S : List (Nat × Value)} {dst : Option Tmp} {ty : TypeId} {pos : String} {af : Array Edge} {g : Option (Nat × Bool)}

theorem y_move {x : Operand} {v : Value} (hx : ev S x = some v) : ∀ a, Fr a n D S → Yl P md w a ⟨dst, .move x, ty, pos, af, g⟩ v := fun a hf u _ => by
  simp [execOp, hf.eval hx]
theorem y_assign {x : Operand} {v : Value} (hx : ev S x = some v) : ∀ a, Fr a n D S → Yl P md w a ⟨dst, .assign x, ty, pos, af, g⟩ v := fun a hf u _ => by
  simp [execOp, hf.eval hx]

theorem y_pick {c x y : Operand} {b : Bool} {vx vy v : Value} (hc : ev S c = some (.bool b)) (hx : ev S x = some vx) (hy : ev S y = some vy) (hv : (bif b then vx else vy) = v) :
    ∀ a, Fr a n D S → Yl P md w a ⟨dst, .pick c x y, ty, pos, af, g⟩ v := fun a hf u _ => by
  subst hv
  cases b <;> simp [execOp, hf.eval hc, hf.eval hx, hf.eval hy, asBool]
theorem y_and {c x y : Operand} {b d : Bool} (hc : ev S c = some (.bool b)) (hx : ev S x = some (gv b true (.bool d))) (hy : ev S y = some (.bool false)) :
    ∀ a, Fr a n D S → Yl P md w a ⟨dst, .pick c x y, ty, pos, af, g⟩ (.bool (b && d)) := y_pick hc hx hy (by cases b <;> simp [gv])
theorem y_or {c x y : Operand} {b d : Bool} (hc : ev S c = some (.bool b)) (hx : ev S x = some (.bool true)) (hy : ev S y = some (gv b false (.bool d))) :
    ∀ a, Fr a n D S → Yl P md w a ⟨dst, .pick c x y, ty, pos, af, g⟩ (.bool (b || d)) := y_pick hc hx hy (by cases b <;> simp [gv])

theorem y_load {t e : TypeId} {x : Operand} {m off : Nat} {l : List Value} {v : Value} (hx : ev S x = some (.pointer (some ⟨m, off, none⟩))) (hs : scal P t = true)
    (hN : ∀ u, Near md w u → u.heap[m]? = some (Blk.row e l).toObj) (hv : nth l off = some v) : ∀ a, Fr a n D S → Yl P md w a ⟨dst, .load t x, ty, pos, af, g⟩ v := fun a hf u hu => by
  simp [execOp, hf.eval hx, Instr.loadAt, Instr.sureAddr, run_loadVar_s hs (hN u hu) hv]
theorem y_loadA {t e : TypeId} {x : Operand} {m off s : Nat} {l vs : List Value} (hx : ev S x = some (.pointer (some ⟨m, off, none⟩))) (hs : aggS P t = some s)
    (hN : ∀ u, Near md w u → u.heap[m]? = some (Blk.row e l).toObj) (hv : nths l off s = some vs) : ∀ a, Fr a n D S → Yl P md w a ⟨dst, .load t x, ty, pos, af, g⟩ (.agg ⟨vs⟩) := fun a hf u hu => by
  simp [execOp, hf.eval hx, Instr.loadAt, Instr.sureAddr, run_loadVar_a hs (hN u hu) hv]
/-- a load from wherever: the cell's fact in every world near -/
theorem y_loadC {t : TypeId} {x : Operand} {ad : Addr} {v : Value} (hx : ev S x = some (.pointer (some ad))) (hs : scal P t = true)
    (hc : ∀ u, Near md w u → u.cell? ad = some v) : ∀ a, Fr a n D S → Yl P md w a ⟨dst, .load t x, ty, pos, af, g⟩ v := fun a hf u hu => by
  simp [execOp, hf.eval hx, Instr.loadAt, Instr.sureAddr, loadVar, run_isAgg_f hs, hc u hu]
theorem y_loadCA {t : TypeId} {x : Operand} {m off s : Nat} {vs : List Value} (hx : ev S x = some (.pointer (some ⟨m, off, none⟩))) (hs : aggS P t = some s) (hl : vs.length = s)
    (hc : ∀ u, Near md w u → ∀ j v, vs[j]? = some v → u.cell? ⟨m, off + j, none⟩ = some v) : ∀ a, Fr a n D S → Yl P md w a ⟨dst, .load t x, ty, pos, af, g⟩ (.agg ⟨vs⟩) := fun a hf u hu => by
  have h1 : (loadCells ⟨m, off, none⟩ s).run P u = .ok ⟨vs⟩ u := by
    subst hl
    refine (run_loadCells_list (P := P) u ⟨m, off, none⟩ vs fun j v hj => ?_)
    have := hc u hu j v hj
    by_cases hj0 : j = 0
    · subst hj0; simpa [Addr.add] using this
    · simpa [Addr.add, hj0] using this
  simp [execOp, hf.eval hx, Instr.loadAt, Instr.sureAddr, loadVar, run_isAgg_t hs, run_szO (szO_aggS hs), h1]

theorem y_nil {x : Operand} {ad : Addr} (hx : ev S x = some (.pointer (some ad))) : ∀ a, Fr a n D S → Yl P md w a ⟨dst, .nilCheck x, ty, pos, af, g⟩ (.pointer (some ad)) := fun a hf u _ => by
  simp [execOp, hf.eval hx]
theorem y_nilF {x : Operand} {f : FuncId} {l1 l2 : Array Value} (hx : ev S x = some (.func (.func f) l1 l2)) : ∀ a, Fr a n D S → Yl P md w a ⟨dst, .nilCheck x, ty, pos, af, g⟩ (.func (.func f) l1 l2) := fun a hf u _ => by
  simp [execOp, hf.eval hx]
theorem y_nilY {x : Operand} {f : Nat} {l1 l2 : Array Value} (hx : ev S x = some (.func (.yield f) l1 l2)) : ∀ a, Fr a n D S → Yl P md w a ⟨dst, .nilCheck x, ty, pos, af, g⟩ (.func (.yield f) l1 l2) := fun a hf u _ => by
  simp [execOp, hf.eval hx]

theorem y_fieldAddr {s fi : Nat} {x : Operand} {m off fo : Nat} (hx : ev S x = some (.pointer (some ⟨m, off, none⟩))) (hfo : fldO P s fi = some fo) :
    ∀ a, Fr a n D S → Yl P md w a ⟨dst, .fieldAddr s x fi, ty, pos, af, g⟩ (.pointer (some ⟨m, off + fo, none⟩)) := fun a hf u _ => by
  unfold fldO at hfo
  cases hu : P.underlying s with
  | none => simp [hu] at hfo
  | some d =>
    cases d <;> simp [hu] at hfo
    rename_i fs
    cases hfd : fs[fi]? with
    | none => simp [hfd] at hfo
    | some fd =>
      cases hi : P.info? fd.type with
      | none => simp [hfd, hi] at hfo
      | some i =>
        simp [hfd, hi] at hfo
        obtain ⟨h1, h2⟩ := hfo
        have hsz : (sizeOf fd.type).run P u = .ok i.size u := by simp [sizeOf, typeInfo, hi]
        subst h2
        by_cases h0 : fd.offset = 0
        · simp [execOp, hf.eval hx, Instr.fieldAt, Instr.sureAddr, run_und hu, hfd, fieldPlace, hsz, h1, Addr.add, h0]
        · simp [execOp, hf.eval hx, Instr.fieldAt, Instr.sureAddr, run_und hu, hfd, fieldPlace, hsz, h1, Addr.add, h0]

/-- field out of a struct's value -/
theorem y_field {s fi : Nat} {x : Operand} {cs : List Value} {v : Value} (hx : ev S x = some (.agg ⟨cs⟩)) (hv : ∀ u, (Instr.field s (.agg ⟨cs⟩) fi).run P u = .ok v u) :
    ∀ a, Fr a n D S → Yl P md w a ⟨dst, .field s x fi, ty, pos, af, g⟩ v := fun a hf u _ => by
  simp [execOp, hf.eval hx, hv u]

theorem y_extract {x : Operand} {vs : Array Value} {i : Nat} {v : Value} (hx : ev S x = some (.tuple vs)) (hv : vs[i]? = some v) :
    ∀ a, Fr a n D S → Yl P md w a ⟨dst, .extract x i, ty, pos, af, g⟩ v := fun a hf u _ => by
  simp [execOp, hf.eval hx, Instr.extract, hv]

/-! ### A struct or an array built of parts -/
def fldT (P : Program) (t : TypeId) : Option (List (Nat × Nat)) := match P.underlying t with
  | some (.struct fs) => fs.toList.mapM fun f => (P.info? f.type).map fun i => (f.offset, i.size)
  | some (.array n e) => (P.info? e).map fun i => (List.range n).map fun j => (j * i.size, i.size)
  | _ => none
def cellsL (v : Value) : List Value := v.cells.toList
def blds (fs : List (Nat × Nat)) : List Value → List (Nat × Value) → List Value
  | l, [] => l
  | l, (i, v) :: r => blds fs (upds l ((fs[i]?.getD (0, 0)).1) (cellsL v)) r
def okB (fs : List (Nat × Nat)) (len : Nat) : List (Nat × Value) → Bool
  | [] => true
  | (i, v) :: r => match fs[i]? with
    | some (o, s) => Nat.beq (cellsL v).length s && Nat.ble (o + s) len && okB fs len r
    | none => false

theorem fill_step : ∀ (us : List Value) (l : List Value) (o k : Nat), ((us.zipIdx k).foldl (fun (cs : Array Value) (x : Value × Nat) => cs.setIfInBounds (o + x.2) x.1) ⟨l⟩) = ⟨upds l (o + k) us⟩
  | [], l, o, k => rfl
  | u :: r, l, o, k => by
    simp only [List.zipIdx_cons, List.foldl_cons, upds]
    rw [show (⟨l⟩ : Array Value).setIfInBounds (o + k) u = ⟨upd l (o + k) u⟩ by rw [upd_eq]; apply Array.ext'; simp]
    rw [fill_step r _ o (k + 1)]
    rfl

theorem run_fill (fs : List (Nat × Nat)) (place : Nat → Option (Nat × Nat)) (hp : ∀ (i : Nat) (x : Nat × Nat), fs[i]? = some x → place i = some x) : ∀ (ps : List (Nat × Value)) (l : List Value), okB fs l.length ps = true → Instr.fill place ⟨l⟩ ps = some ⟨blds fs l ps⟩
  | [], l, _ => rfl
  | (i, v) :: r, l, h => by
    simp only [okB] at h
    cases hfi : fs[i]? with
    | none => simp [hfi] at h
    | some x =>
      obtain ⟨o, s⟩ := x
      simp only [hfi, Bool.and_eq_true, Nat.beq_eq, Nat.ble_eq] at h
      obtain ⟨⟨h1, h2⟩, h3⟩ := h
      simp only [Instr.fill, hp i _ hfi, blds, hfi, Option.getD_some]
      have hsz : v.cells.size = s := by rw [← h1]; rfl
      rw [if_neg (by simp only [hsz, List.size_toArray, Bool.or_eq_true, decide_eq_true_eq, ne_eq, not_true_eq_false, false_or]; simp; omega)]
      have hf : v.cells.zipIdx.foldl (fun (cs : Array Value) (x : Value × Nat) => cs.setIfInBounds (o + x.2) x.1) ⟨l⟩ = ⟨upds l o (cellsL v)⟩ := by
        rw [← Array.foldl_toList, Array.toList_zipIdx]
        exact fill_step (cellsL v) l o 0
      have hlen : (upds l o (cellsL v)).length = l.length := by
        have : ∀ (us l : List Value) (o : Nat), (upds l o us).length = l.length := fun us => by
          induction us with
          | nil => intro l o; rfl
          | cons u r ih => intro l o; rw [upds, ih, upd_eq, List.length_set]
        exact this _ _ _
      have := run_fill fs place hp r (upds l o (cellsL v)) (by rw [hlen]; exact h3)
      rw [← hf] at this
      exact this

theorem run_mapM (P : Program) (w : World) : ∀ (l : List Field) (ps : List (Nat × Nat)), l.mapM (fun f => (P.info? f.type).map fun i => (f.offset, i.size)) = some ps →
    (l.mapM (fun f => (do pure (f.offset, ← sizeOf f.type) : Sem (Nat × Nat)))).run P w = .ok ps w
  | [], ps, h => by simp at h; subst h; rfl
  | f :: r, ps, h => by
    simp only [List.mapM_cons, Option.bind_eq_bind, Option.pure_def] at h
    cases hi : P.info? f.type with
    | none => simp [hi] at h
    | some i =>
      cases hr : r.mapM (fun f => (P.info? f.type).map fun i => (f.offset, i.size)) with
      | none => simp [hi, hr] at h
      | some qs =>
        simp only [hi, hr, Option.map_some, Option.bind_some, Option.some.injEq] at h
        subst h
        have hsz : (sizeOf f.type).run P w = .ok i.size w := by simp [sizeOf, typeInfo, hi]
        simp only [List.mapM_cons, Sem.run_bind, hsz, Result.andThen_ok, Sem.run_pure, run_mapM P w r qs hr]

theorem nths_all : ∀ (l pre : List Value), nths (pre ++ l) pre.length l.length = some l
  | [], _ => rfl
  | v :: r, pre => by
    have h1 : nth (pre ++ v :: r) pre.length = some v := by rw [nth_eq]; simp
    have h2 := nths_all r (pre ++ [v])
    simp only [List.append_assoc, List.singleton_append, List.length_append, List.length_cons, List.length_nil, Nat.zero_add] at h2
    simp only [List.length_cons, nths, h1, h2]

theorem zip_parts {n : Nat} {D : List Deferred} {S : List (Nat × Value)} {a : Act} (hf : Fr a n D S) {ps : Array (Nat × Operand)} {xs : List Operand} {is : List Nat} {vs : List Value} (hxs : ps.toList.map (·.2) = xs) (his : ps.toList.map (·.1) = is) (hx : evs S xs = some vs) :
    (ps.map fun (i, x) => (i, a.eval x)) = (is.zip vs).toArray := by
  have h2 := hf.evals hx
  have key : ∀ l : List (Nat × Operand), (l.map fun (i, x) => (i, a.eval x)) = (l.map (·.1)).zip ((l.map (·.2)).map a.eval) := fun l => by
    induction l with
    | nil => rfl
    | cons p r ih => simp only [List.map_cons, List.zip_cons_cons, ih]
  rw [← h2, ← hxs, ← his, ← key]
  obtain ⟨l⟩ := ps
  simp

theorem run_build {P : Program} {t : TypeId} {fs : List (Nat × Nat)} {z : List Value} {ps : List (Nat × Value)} (hz : zer P t = some z) (hf : fldT P t = some fs) (hok : okB fs z.length ps = true) (u : World) :
    (Instr.build t ps.toArray).run P u = .ok (.agg ⟨blds fs z ps⟩) u := by
  obtain ⟨zv, hzv, hzc⟩ := run_zer (w := u) hz
  unfold fldT at hf
  cases hu : P.underlying t with
  | none => simp [hu] at hf
  | some d =>
    cases d <;> simp only [hu] at hf <;> try (cases hf)
    case array m e =>
      cases hi : P.info? e with
      | none => simp [hi] at hf
      | some i =>
        simp only [hi, Option.map_some, Option.some.injEq] at hf
        have hsz : (sizeOf e).run P u = .ok i.size u := by simp [sizeOf, typeInfo, hi]
        have hfill := run_fill fs (fun j => some (j * i.size, i.size)) (fun j x hx => by
          subst hf
          rw [List.getElem?_map] at hx
          cases hr : (List.range m)[j]? with
          | none => rw [hr] at hx; simp at hx
          | some q =>
            have hq : j = q := by
              obtain ⟨h1, h2⟩ := List.getElem?_eq_some_iff.1 hr
              simpa using h2
            rw [hr] at hx
            subst hq
            simpa using hx) ps z hok
        simp only [Instr.build, Sem.run_bind, hzv, Result.andThen_ok, hzc, run_und hu, hsz, hfill, Sem.run_pure]
    case struct fl =>
      have hm := run_mapM P u fl.toList fs hf
      have hfill := run_fill fs (fun j => (⟨fs⟩ : Array (Nat × Nat))[j]?) (fun j x hx => by simpa using hx) ps z hok
      simp only [Instr.build, Sem.run_bind, hzv, Result.andThen_ok, hzc, run_und hu]
      rw [Array.mapM_eq_mapM_toList]
      simp only [Sem.run_map, hm, Result.andThen_ok]
      have hfill' : Instr.fill (fun x => fs.toArray[x]?) { toList := z } ps = some { toList := blds fs z ps } := hfill
      rw [hfill']
      rfl

theorem y_build {t : TypeId} {ps : Array (Nat × Operand)} {xs : List Operand} {is : List Nat} {fs : List (Nat × Nat)} {vs cs z : List Value} (hz : zer P t = some z) (hfs : fldT P t = some fs) (hxs : ps.toList.map (·.2) = xs) (his : ps.toList.map (·.1) = is) (hx : evs S xs = some vs)
    (hok : okB fs z.length (is.zip vs) = true) (hcs : nths (blds fs z (is.zip vs)) 0 (blds fs z (is.zip vs)).length = some cs) : ∀ a, Fr a n D S → Yl P md w a ⟨dst, .build t ps, ty, pos, af, g⟩ (.agg ⟨cs⟩) := fun a hf u _ => by
  have h1 := zip_parts hf hxs his hx
  have h2 := nths_all (blds fs z (is.zip vs)) []
  simp only [List.nil_append, List.length_nil] at h2
  rw [h2] at hcs
  cases hcs
  simp only [execOp, h1, Sem.run_bind, run_build hz hfs hok u, Result.andThen_ok, Sem.run_pure]

theorem y_func {f : Fn} {fi ca : Array Operand} {l1 l2 : List Value} (h1 : evs S fi.toList = some l1) (h2 : evs S ca.toList = some l2) :
    ∀ a, Fr a n D S → Yl P md w a ⟨dst, .makeFunc f fi ca, ty, pos, af, g⟩ (.func f ⟨l1⟩ ⟨l2⟩) := fun a hf u _ => by
  have e1 : fi.map a.eval = ⟨l1⟩ := by obtain ⟨l⟩ := fi; simpa using hf.evals h1
  have e2 : ca.map a.eval = ⟨l2⟩ := by obtain ⟨l⟩ := ca; simpa using hf.evals h2
  simp [execOp, Instr.makeFunc, e1, e2]

theorem y_iface {t : TypeId} {x : Operand} {v : Value} {d : TypeDesc} (hx : ev S x = some v) (hu : P.underlying t = some d) (hd : (match d with | .interface _ => false | _ => true) = true) :
    ∀ a, Fr a n D S → Yl P md w a ⟨dst, .makeInterface t x, ty, pos, af, g⟩ (.iface t v) := fun a hf u _ => by
  cases d <;> simp at hd <;> simp [execOp, hf.eval hx, Instr.makeInterface, run_und hu]

/-! integers -/
theorem y_bin {op : BinOp} {t yt : TypeId} {x y : Operand} {vx vy v : Value} (hx : ev S x = some vx) (hy : ev S y = some vy)
    (hb : ∀ u, (do eqGuard op t x y vx vy; binOp op t vx vy : Sem Value).run P u = .ok v u) : ∀ a, Fr a n D S → Yl P md w a ⟨dst, .binOp op t x y yt, ty, pos, af, g⟩ v := fun a hf u _ => by
  have := hb u
  simp only [execOp, hf.eval hx, hf.eval hy, Sem.run_bind] at this ⊢
  rw [this]
  rfl

theorem eqGuard_int {op : BinOp} {t : TypeId} {x y : Operand} {k k' : IntKind} {i j : Int} {u : World} : (eqGuard op t x y (.int k i) (.int k' j)).run P u = .ok () u := by
  unfold eqGuard
  cases op <;> simp

theorem y_add {t yt : TypeId} {x y : Operand} {k : IntKind} {i j z : Int} (hx : ev S x = some (.int k i)) (hy : ev S y = some (.int k j)) (hz : k.wrap (i + j) = z) :
    ∀ a, Fr a n D S → Yl P md w a ⟨dst, .binOp .add t x y yt, ty, pos, af, g⟩ (.int k z) := y_bin hx hy fun u => by
  subst hz; simp [eqGuard_int, binOp, Op.intArith]
theorem y_sub {t yt : TypeId} {x y : Operand} {k : IntKind} {i j z : Int} (hx : ev S x = some (.int k i)) (hy : ev S y = some (.int k j)) (hz : k.wrap (i - j) = z) :
    ∀ a, Fr a n D S → Yl P md w a ⟨dst, .binOp .sub t x y yt, ty, pos, af, g⟩ (.int k z) := y_bin hx hy fun u => by
  subst hz; simp [eqGuard_int, binOp, Op.intArith]
theorem y_mul {t yt : TypeId} {x y : Operand} {k : IntKind} {i j z : Int} (hx : ev S x = some (.int k i)) (hy : ev S y = some (.int k j)) (hz : k.wrap (i * j) = z) :
    ∀ a, Fr a n D S → Yl P md w a ⟨dst, .binOp .mul t x y yt, ty, pos, af, g⟩ (.int k z) := y_bin hx hy fun u => by
  subst hz; simp [eqGuard_int, binOp, Op.intArith]
theorem y_quo {t yt : TypeId} {x y : Operand} {k : IntKind} {i j z : Int} (hx : ev S x = some (.int k i)) (hy : ev S y = some (.int k j)) (hj : j ≠ 0) (hz : k.wrap (i.tdiv j) = z) :
    ∀ a, Fr a n D S → Yl P md w a ⟨dst, .binOp .quo t x y yt, ty, pos, af, g⟩ (.int k z) := y_bin hx hy fun u => by
  subst hz; simp [eqGuard_int, binOp, Op.intDiv, hj]
theorem y_rem {t yt : TypeId} {x y : Operand} {k : IntKind} {i j z : Int} (hx : ev S x = some (.int k i)) (hy : ev S y = some (.int k j)) (hj : j ≠ 0) (hz : i.tmod j = z) :
    ∀ a, Fr a n D S → Yl P md w a ⟨dst, .binOp .rem t x y yt, ty, pos, af, g⟩ (.int k z) := y_bin hx hy fun u => by
  subst hz; simp [eqGuard_int, binOp, Op.intDiv, hj]
theorem y_and_ {t yt : TypeId} {x y : Operand} {k : IntKind} {i j z : Int} (hx : ev S x = some (.int k i)) (hy : ev S y = some (.int k j)) (hz : k.wrap (BitVec.ofInt k.bits i &&& BitVec.ofInt k.bits j).toNat = z) :
    ∀ a, Fr a n D S → Yl P md w a ⟨dst, .binOp .and t x y yt, ty, pos, af, g⟩ (.int k z) := y_bin hx hy fun u => by
  subst hz; simp [eqGuard_int, binOp, Op.intBits]
theorem y_or_ {t yt : TypeId} {x y : Operand} {k : IntKind} {i j z : Int} (hx : ev S x = some (.int k i)) (hy : ev S y = some (.int k j)) (hz : k.wrap (BitVec.ofInt k.bits i ||| BitVec.ofInt k.bits j).toNat = z) :
    ∀ a, Fr a n D S → Yl P md w a ⟨dst, .binOp .or t x y yt, ty, pos, af, g⟩ (.int k z) := y_bin hx hy fun u => by
  subst hz; simp [eqGuard_int, binOp, Op.intBits]
theorem y_xor_ {t yt : TypeId} {x y : Operand} {k : IntKind} {i j z : Int} (hx : ev S x = some (.int k i)) (hy : ev S y = some (.int k j)) (hz : k.wrap (BitVec.ofInt k.bits i ^^^ BitVec.ofInt k.bits j).toNat = z) :
    ∀ a, Fr a n D S → Yl P md w a ⟨dst, .binOp .xor t x y yt, ty, pos, af, g⟩ (.int k z) := y_bin hx hy fun u => by
  subst hz; simp [eqGuard_int, binOp, Op.intBits]
theorem y_shl {t yt : TypeId} {x y : Operand} {k k' : IntKind} {i j z : Int} (hx : ev S x = some (.int k i)) (hy : ev S y = some (.int k' j)) (hj : 0 ≤ j) (hz : k.wrap (i * 2 ^ (min j.toNat k.bits)) = z) :
    ∀ a, Fr a n D S → Yl P md w a ⟨dst, .binOp .shl t x y yt, ty, pos, af, g⟩ (.int k z) := y_bin hx hy fun u => by
  subst hz; simp [eqGuard_int, binOp, Op.shift, Int.not_lt.2 hj]
theorem y_shr {t yt : TypeId} {x y : Operand} {k k' : IntKind} {i j z : Int} (hx : ev S x = some (.int k i)) (hy : ev S y = some (.int k' j)) (hj : 0 ≤ j) (hz : i.fdiv (2 ^ (min j.toNat k.bits)) = z) :
    ∀ a, Fr a n D S → Yl P md w a ⟨dst, .binOp .shr t x y yt, ty, pos, af, g⟩ (.int k z) := y_bin hx hy fun u => by
  subst hz; simp [eqGuard_int, binOp, Op.shift, Int.not_lt.2 hj]
theorem y_eq {t yt : TypeId} {x y : Operand} {k : IntKind} {i j : Int} (hx : ev S x = some (.int k i)) (hy : ev S y = some (.int k j)) :
    ∀ a, Fr a n D S → Yl P md w a ⟨dst, .binOp .eql t x y yt, ty, pos, af, g⟩ (.bool (decide (i = j))) := y_bin hx hy fun u => by
  simp [eqGuard_int, binOp, Op.intCmp]; by_cases h : i = j <;> simp [h]
theorem y_ne {t yt : TypeId} {x y : Operand} {k : IntKind} {i j : Int} (hx : ev S x = some (.int k i)) (hy : ev S y = some (.int k j)) :
    ∀ a, Fr a n D S → Yl P md w a ⟨dst, .binOp .neq t x y yt, ty, pos, af, g⟩ (.bool (decide (i ≠ j))) := y_bin hx hy fun u => by
  simp [eqGuard_int, binOp, Op.intCmp]; by_cases h : i = j <;> simp [h]
theorem y_lt {t yt : TypeId} {x y : Operand} {k : IntKind} {i j : Int} (hx : ev S x = some (.int k i)) (hy : ev S y = some (.int k j)) :
    ∀ a, Fr a n D S → Yl P md w a ⟨dst, .binOp .lss t x y yt, ty, pos, af, g⟩ (.bool (decide (i < j))) := y_bin hx hy fun u => by
  simp [eqGuard_int, binOp, Op.intCmp]
theorem y_le {t yt : TypeId} {x y : Operand} {k : IntKind} {i j : Int} (hx : ev S x = some (.int k i)) (hy : ev S y = some (.int k j)) :
    ∀ a, Fr a n D S → Yl P md w a ⟨dst, .binOp .leq t x y yt, ty, pos, af, g⟩ (.bool (decide (i ≤ j))) := y_bin hx hy fun u => by
  simp [eqGuard_int, binOp, Op.intCmp]
theorem y_gt {t yt : TypeId} {x y : Operand} {k : IntKind} {i j : Int} (hx : ev S x = some (.int k i)) (hy : ev S y = some (.int k j)) :
    ∀ a, Fr a n D S → Yl P md w a ⟨dst, .binOp .gtr t x y yt, ty, pos, af, g⟩ (.bool (decide (j < i))) := y_bin hx hy fun u => by
  simp [eqGuard_int, binOp, Op.intCmp]
theorem y_ge {t yt : TypeId} {x y : Operand} {k : IntKind} {i j : Int} (hx : ev S x = some (.int k i)) (hy : ev S y = some (.int k j)) :
    ∀ a, Fr a n D S → Yl P md w a ⟨dst, .binOp .geq t x y yt, ty, pos, af, g⟩ (.bool (decide (j ≤ i))) := y_bin hx hy fun u => by
  simp [eqGuard_int, binOp, Op.intCmp]
theorem y_not {t : TypeId} {x : Operand} {b : Bool} (hx : ev S x = some (.bool b)) : ∀ a, Fr a n D S → Yl P md w a ⟨dst, .unOp .not t x, ty, pos, af, g⟩ (.bool (!b)) := fun a hf u _ => by
  simp [execOp, hf.eval hx, Op.unary]
theorem y_neg {t : TypeId} {x : Operand} {k : IntKind} {i z : Int} (hx : ev S x = some (.int k i)) (hz : k.wrap (0 - i) = z) : ∀ a, Fr a n D S → Yl P md w a ⟨dst, .unOp .neg t x, ty, pos, af, g⟩ (.int k z) := fun a hf u _ => by
  subst hz; simp [execOp, hf.eval hx, Op.unary, Op.intArith]
theorem y_com {t : TypeId} {x : Operand} {k : IntKind} {i z : Int} (hx : ev S x = some (.int k i)) (hk : k.signed = false) (hz : k.wrap (BitVec.ofInt k.bits k.max ^^^ BitVec.ofInt k.bits i).toNat = z) :
    ∀ a, Fr a n D S → Yl P md w a ⟨dst, .unOp .xor t x, ty, pos, af, g⟩ (.int k z) := fun a hf u _ => by
  subst hz; simp [execOp, hf.eval hx, Op.unary, hk, Op.intBits]
theorem y_conv {s t : TypeId} {x : Operand} {k k' : IntKind} {i z : Int} (hx : ev S x = some (.int k i)) (hs : (P.underlying s).isSome = true) (ht : intO P t = some k') (hz : k'.wrap i = z) :
    ∀ a, Fr a n D S → Yl P md w a ⟨dst, .convert s t x, ty, pos, af, g⟩ (.int k' z) := fun a hf u _ => by
  subst hz
  obtain ⟨d, hd⟩ := Option.isSome_iff_exists.1 hs
  have ht' : P.underlying t = some (.int k') := by
    unfold intO at ht
    cases hu : P.underlying t with
    | none => simp [hu] at ht
    | some d => cases d <;> simp [hu] at ht; subst ht; rfl
  simp [execOp, hf.eval hx, convert, run_und hd, run_und ht', Conv.intToInt]

theorem y_len {t : TypeId} {x : Operand} {p : Option Addr} {l c : Nat} {ts : Array TypeId} {e : TypeId × Nat × Nat} (hx : ev S x = some (.slice p l c)) (hts : ts[0]? = some t) (ht : slcO P t = some e) :
    ∀ a, Fr a n D S → Yl P md w a ⟨dst, .call ⟨.builtin .len, #[x], ts⟩, ty, pos, af, g⟩ (.int .i64 l) := fun a hf u _ => by
  have ht' : ∃ e, P.underlying t = some (.slice e) := by
    unfold slcO at ht
    cases hu : P.underlying t with
    | none => simp [hu] at ht
    | some d => cases d <;> simp [hu] at ht ⊢
  obtain ⟨e', he⟩ := ht'
  simp [execOp, resolve, hf.eval hx, invoke, builtin, Builtin.len_, hts, run_und he, goInt]
theorem y_lenS {t : TypeId} {x : Operand} {s : ByteArray} {ts : Array TypeId} (hx : ev S x = some (.string s)) (hts : ts[0]? = some t) (ht : P.underlying t = some .string) :
    ∀ a, Fr a n D S → Yl P md w a ⟨dst, .call ⟨.builtin .len, #[x], ts⟩, ty, pos, af, g⟩ (.int .i64 s.size) := fun a hf u _ => by
  simp [execOp, resolve, hf.eval hx, invoke, builtin, Builtin.len_, hts, run_und ht, goInt]
theorem y_min {x y : Operand} {k : IntKind} {i j : Int} {ts : Array TypeId} (hx : ev S x = some (.int k i)) (hy : ev S y = some (.int k j)) :
    ∀ a, Fr a n D S → Yl P md w a ⟨dst, .call ⟨.builtin .min, #[x, y], ts⟩, ty, pos, af, g⟩ (.int k (min i j)) := fun a hf u _ => by
  have : (if j < i then j else i) = min i j := by omega
  simp [execOp, resolve, hf.eval hx, hf.eval hy, invoke, builtin, Builtin.min_, Builtin.min2, this]
theorem y_max {x y : Operand} {k : IntKind} {i j : Int} {ts : Array TypeId} (hx : ev S x = some (.int k i)) (hy : ev S y = some (.int k j)) :
    ∀ a, Fr a n D S → Yl P md w a ⟨dst, .call ⟨.builtin .max, #[x, y], ts⟩, ty, pos, af, g⟩ (.int k (max i j)) := fun a hf u _ => by
  have : (if i < j then j else i) = max i j := by omega
  simp [execOp, resolve, hf.eval hx, hf.eval hy, invoke, builtin, Builtin.max_, Builtin.max2, this]
end
end Go.Cx
