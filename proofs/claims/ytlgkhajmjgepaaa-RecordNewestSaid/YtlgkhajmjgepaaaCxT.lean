/- Bytes of a constant string, and maps of one's own from numbers to numbers. No condition. -/
import Derived.Test.YtlgkhajmjgepaaaCxL
import Derived.Lib.SlBytesConst
namespace Go.Cx
set_option linter.unusedVariables false
set_option linter.unusedSimpArgs false
open Go
/-- a row that is marked as the bytes of a constant string -/
abbrev mkd (e : TypeId) (l : List Value) : Blk := .obj (.cells ⟨l⟩ e (l.length, l.length + 1))
theorem Rd.mkd {w : World} {g : Nat} {e : TypeId} {l : List Value} (h : w.heap[g]? = some (mkd e l).toObj) : Rd w (some ⟨g, 0, none⟩) l := by
  refine ⟨fun _ => rfl, fun j v hj => ?_⟩
  simp only [World.cell?, h, Blk.toObj, Nat.zero_add]
  simpa using hj
def slB8 (P : Program) (t : TypeId) : Bool := match P.underlying t with | some (.slice e) => (match P.underlying e with | some (.int .u8) => true | _ => false) | _ => false
theorem slB8_spec {P : Program} {t : TypeId} (h : slB8 P t = true) : ∃ e, P.underlying t = some (.slice e) ∧ P.underlying e = some (.int .u8) := by
  unfold slB8 at h
  split at h
  · rename_i e he
    split at h
    · rename_i h'; exact ⟨e, he, h'⟩
    · cases h
  · cases h
theorem run_mkd {P : Program} {w : World} {t e : TypeId} {m n c : Nat} {l : List Value} (ht : slB8 P t = true) (h : w.heap[m]? = some (Blk.row e l).toObj) :
    ∃ w', (convert t t (.slice (some ⟨m, 0, none⟩) n c)).run P w = .ok (.slice (some ⟨m, 0, none⟩) n c) w' ∧ w'.heap.size = w.heap.size ∧ w'.os = w.os ∧ w'.tape = w.tape ∧ w'.output = w.output ∧ w'.heap[m]? = some (mkd e l).toObj ∧ ∀ j, j ≠ m → w'.heap[j]? = w.heap[j]? := by
  obtain ⟨e', h1, h2⟩ := slB8_spec ht
  have hsh : w.shape? m = some (e, l.length) := by
    unfold World.shape?; rw [h]; rfl
  refine ⟨w.freeze ⟨m, l.length, none⟩ 1, ?_, ?_, ?_, ?_, ?_, ?_, ?_⟩
  · simp [convert, run_underlying h1, run_underlying h2, markStringish, hsh]
  · simp [World.freeze]
  · simp [World.freeze]
  · simp [World.freeze]
  · simp [World.freeze]
  · simp only [World.freeze, Nat.one_ne_zero, if_false, Array.getElem?_modify, if_true, h, Blk.toObj]
    rfl
  · intro j hj
    simp only [World.freeze, Nat.one_ne_zero, if_false, Array.getElem?_modify]
    rw [if_neg (fun e => hj e.symm)]
section
variable {P : Program} {r : Option Nat} {k : Ks} {ops : Array Oper} {md : Md} {n : Nat} {D : List Deferred} {S : List (Nat × Value)} {w : World} {i : Nat} {t : Tr}
variable {ty : TypeId} {pos : String} {af : Array Edge} {g : Option (Nat × Bool)} {dst : Option Tmp} {d : Nat} {w0 : World} {X : Bs} {L : List (Nat × Blk)}
theorem a_mkd {T e : TypeId} {x : Operand} {m c1 c2 : Nat} {l : List Value} (ho : opu ops S i = some (⟨dst, .convert T T x, ty, pos, af, g⟩, d)) (hd : Nat.blt d n = true) (hx : ev S x = some (.slice (some ⟨m, 0, none⟩) c1 c2)) (hT : slB8 P T = true)
    (hm : Mem w0 w X L) (j : Nat) (hk : blk L j = some (m, .row e l)) (h : ∀ w', Mem w0 w' X (setB L j (mkd e l)) → HR P r k ops none n D ((d, .slice (some ⟨m, 0, none⟩) c1 c2) :: S) t w') : HR P r k ops none n D S (.act i t) w := by
  obtain ⟨w', h1, h2, h3, h4, h5, h6, h7⟩ := run_mkd (n := c1) (c := c2) hT (hm.get hk)
  refine a_val (w' := w') ho hd rfl (fun a hf => ?_) trivial (h w' (hm.set hk _ h3 h4 h5 h2 h6 h7))
  simp [execOp, hf.eval hx, h1]
/-- .. in a drawn region, of a row that was laid since -/
theorem a_mkdN {b : World} {Y : Bs} {T e : TypeId} {x : Operand} {m c1 c2 : Nat} {l : List Value} (ho : opu ops S i = some (⟨dst, .convert T T x, ty, pos, af, g⟩, d)) (hd : Nat.blt d n = true) (hx : ev S x = some (.slice (some ⟨m, 0, none⟩) c1 c2)) (hT : slB8 P T = true)
    (hm : Mem w0 w X L) (j : Nat) (hk : blk L j = some (m, .row e l)) (hh : Hold (some (b, Y)) w) (hg : Geq (some (b, Y)) m) (h : ∀ w', Mem w0 w' X (setB L j (mkd e l)) → Hold (some (b, Y)) w' → HR P r k ops (some (b, Y)) n D ((d, .slice (some ⟨m, 0, none⟩) c1 c2) :: S) t w') : HR P r k ops (some (b, Y)) n D S (.act i t) w := by
  obtain ⟨w', h1, h2, h3, h4, h5, h6, h7⟩ := run_mkd (n := c1) (c := c2) hT (hm.get hk)
  have hh0 : Ext Y b w := hh
  have hh' : Hold (some (b, Y)) w' := ⟨h3.trans hh0.os, h4.trans hh0.tape, h5.trans hh0.output, by rw [h2]; exact hh0.size, fun q hq hY => by
    have hg' : b.heap.size ≤ m := hg
    rw [h7 q (by omega)]; exact hh0.same q hq hY⟩
  refine a_val (w' := w') ho hd rfl (fun a hf => ?_) hh' (h w' (hm.set hk _ h3 h4 h5 h2 h6 h7) hh')
  simp [execOp, hf.eval hx, h1]
end

/-! ### Maps -/
def mpE (x : Int × Int × Nat) : MapEntry := { key := .int .i64 x.1, val := .int .i64 x.2.1, born := x.2.2 }
abbrev mpB (es : List (Int × Int × Nat)) (ck : Nat) : Blk := .obj (.map ⟨es.map mpE⟩ ck)
def mpIx (k : Int) : List (Int × Int × Nat) → Nat → Option (Nat × Int)
  | [], _ => none
  | x :: r, i => if k = x.1 then some (i, x.2.1) else mpIx k r (i + 1)
def mpLook (es : List (Int × Int × Nat)) (k : Int) : Option Int := (mpIx k es 0).map (·.2)
def mpPut (k v : Int) : List (Int × Int × Nat) → List (Int × Int × Nat)
  | [] => []
  | x :: r => if k = x.1 then (k, v, x.2.2) :: r else x :: mpPut k v r
def mpSet (es : List (Int × Int × Nat)) (ck : Nat) (k v : Int) : List (Int × Int × Nat) := if (mpIx k es 0).isSome then mpPut k v es else es ++ [(k, v, ck)]
theorem findNow_mp {k : Int} : ∀ (es : List (Int × Int × Nat)) (i : Nat), Instr.findNow (.int .i64) (.int .i64 k) (es.map mpE) i = some ((mpIx k es i).map fun x => (x.1, .int .i64 x.2))
  | [], i => rfl
  | x :: r, i => by
    simp only [List.map_cons, Instr.findNow, mpIx]
    show (match Instr.sameNow (.int .i64) (.int .i64 k) (.int .i64 x.1) with | some true => _ | some false => _ | none => _) = _
    simp only [Instr.sameNow, if_true]
    by_cases h : k = x.1
    · simp [h, mpE]
    · have : (k == x.1) = false := by simpa using h
      simp only [this, if_neg h]
      exact findNow_mp r (i + 1)
theorem mpIx_some {k : Int} : ∀ {es : List (Int × Int × Nat)} {i j : Nat} {v : Int}, mpIx k es i = some (j, v) → i ≤ j ∧ ∃ x, es[j - i]? = some x ∧ x.1 = k ∧ (es.map mpE).modify (j - i) (fun e => { e with key := .int .i64 k, val := .int .i64 v }) = (mpPut k v es).map mpE
  | [], i, j, v, h => by simp [mpIx] at h
  | x :: r, i, j, v, h => by
    simp only [mpIx] at h
    split at h
    · rename_i hk
      simp only [Option.some.injEq, Prod.mk.injEq] at h
      obtain ⟨rfl, rfl⟩ := h
      refine ⟨Nat.le_refl _, x, by simp, hk.symm, ?_⟩
      simp [mpPut, hk, mpE, List.modify]
    · rename_i hk
      obtain ⟨h1, y, h2, h3, h4⟩ := mpIx_some h
      refine ⟨by omega, y, ?_, h3, ?_⟩
      · rw [show j - i = (j - (i + 1)) + 1 by omega]; exact h2
      · rw [show j - i = (j - (i + 1)) + 1 by omega]
        simp only [List.map_cons, mpPut, if_neg hk, List.modify_succ_cons]
        rw [← h4]
theorem mpPut_any {k v u : Int} : ∀ {es : List (Int × Int × Nat)} {i j : Nat}, mpIx k es i = some (j, u) → (es.map mpE).modify (j - i) (fun e => { e with key := .int .i64 k, val := .int .i64 v }) = (mpPut k v es).map mpE
  | [], i, j, h => by simp [mpIx] at h
  | x :: r, i, j, h => by
    simp only [mpIx] at h
    split at h
    · rename_i hk
      simp only [Option.some.injEq, Prod.mk.injEq] at h
      obtain ⟨rfl, rfl⟩ := h
      simp [mpPut, hk, mpE, List.modify]
    · rename_i hk
      have h1 := (mpIx_some h).1
      have h4 := mpPut_any (v := v) h
      rw [show j - i = (j - (i + 1)) + 1 by omega]
      simp only [List.map_cons, mpPut, if_neg hk, List.modify_succ_cons]
      rw [← h4]
theorem mpIx_up {k : Int} : ∀ (es : List (Int × Int × Nat)) (i j : Nat), (mpIx k es i).map (·.2) = (mpIx k es j).map (·.2)
  | [], _, _ => rfl
  | x :: r, i, j => by
    simp only [mpIx]
    split
    · rfl
    · exact mpIx_up r _ _
theorem mpLook_cons (x : Int × Int × Nat) (r : List (Int × Int × Nat)) (k : Int) : mpLook (x :: r) k = if k = x.1 then some x.2.1 else mpLook r k := by
  unfold mpLook
  simp only [mpIx]
  split
  · rfl
  · exact mpIx_up r 1 0
theorem mpLook_put {k v : Int} : ∀ {es : List (Int × Int × Nat)}, (mpLook es k).isSome = true → ∀ j, mpLook (mpPut k v es) j = if j = k then some v else mpLook es j
  | [], h, j => by simp [mpLook, mpIx] at h
  | x :: r, h, j => by
    rw [mpLook_cons] at h
    unfold mpPut
    by_cases hk : k = x.1
    · rw [if_pos hk, mpLook_cons, mpLook_cons]
      by_cases hj : j = k
      · simp [hj]
      · rw [if_neg hj, if_neg hj, if_neg (by rw [← hk]; exact hj)]
    · rw [if_neg hk] at h ⊢
      rw [mpLook_cons, mpLook_cons, mpLook_put h j]
      by_cases hj : j = x.1
      · rw [if_pos hj, if_neg (by rw [hj]; exact fun e => hk e.symm), if_pos hj]
      · rw [if_neg hj, if_neg hj]
theorem mpLook_app {k v : Int} {c : Nat} : ∀ {es : List (Int × Int × Nat)}, mpLook es k = none → ∀ j, mpLook (es ++ [(k, v, c)]) j = if j = k then some v else mpLook es j
  | [], _, j => by rw [List.nil_append, mpLook_cons]
  | x :: r, h, j => by
    rw [mpLook_cons] at h
    split at h
    · cases h
    · rename_i hk
      rw [List.cons_append, mpLook_cons, mpLook_cons, mpLook_app h j]
      by_cases hj : j = x.1
      · rw [if_pos hj, if_neg (by rw [hj]; exact fun e => hk e.symm), if_pos hj]
      · rw [if_neg hj, if_neg hj]
theorem mpLook_set (es : List (Int × Int × Nat)) (c : Nat) (k v j : Int) : mpLook (mpSet es c k v) j = if j = k then some v else mpLook es j := by
  have e : (mpIx k es 0).isSome = (mpLook es k).isSome := by unfold mpLook; cases mpIx k es 0 <;> rfl
  unfold mpSet
  split
  · rename_i h; exact mpLook_put (by rw [← e]; exact h) j
  · rename_i h
    refine mpLook_app ?_ j
    rw [e] at h
    simpa using h
theorem mpLook_nil (k : Int) : mpLook [] k = none := rfl
/-- a map from numbers to numbers -/
def mapII (P : Program) (t : TypeId) : Bool := match P.underlying t with
  | some (.map k e) => (match P.underlying k with | some (.int .i64) => true | _ => false) && (match P.info? e with | some i => (match i.zero with | some (.int .i64 0) => true | _ => false) | none => false)
  | _ => false
theorem mapII_spec {P : Program} {t : TypeId} (h : mapII P t = true) : ∃ k e, P.underlying t = some (.map k e) ∧ P.underlying k = some (.int .i64) ∧ ∀ w : World, (zeroValue e).run P w = .ok (.int .i64 0) w := by
  unfold mapII at h
  split at h
  · rename_i k e hu
    simp only [Bool.and_eq_true] at h
    refine ⟨k, e, hu, ?_, fun w => ?_⟩
    · have := h.1
      split at this
      · rename_i h'; exact h'
      · cases this
    · have h1 := h.2
      split at h1
      · rename_i i hi
        split at h1
        · rename_i hz
          simp [zeroValue, typeInfo, hi, hz]
        · cases h1
      · cases h1
  · cases h
section
variable {P : Program} {u : World} {m : Nat} {es : List (Int × Int × Nat)} {ck : Nat} {T : TypeId}
theorem run_checkKey {b : Bool} {n : Nat} {t : TypeId} {v : Value} (h : P.underlying t = some (.int .i64)) : (Instr.checkKey b (n + 1) t v).run P u = .ok () u := by
  unfold Instr.checkKey
  simp [run_underlying h]
theorem run_findKey {t : TypeId} {k : Int} (h : P.underlying t = some (.int .i64)) : (Instr.findKey t (.int .i64 k) (es.map mpE)).run P u = .ok ((mpIx k es 0).map fun x => (x.1, .int .i64 x.2)) u := by
  unfold Instr.findKey
  simp [run_underlying h, findNow_mp]
theorem run_lookup {k : Int} (hT : mapII P T = true) (h : u.heap[m]? = some (mpB es ck).toObj) : (Instr.lookup T (.map (some m)) (.int .i64 k) true).run P u = .ok (.tuple #[.int .i64 ((mpLook es k).getD 0), .bool (mpLook es k).isSome]) u := by
  obtain ⟨kt, et, h1, h2, h3⟩ := mapII_spec hT
  unfold Instr.lookup
  have h4 : (getObj m).run P u = .ok (.map ⟨es.map mpE⟩ ck) u := run_getObj (P := P) h rfl
  have h5 : ∀ b, (Instr.checkKey b 10000 kt (.int .i64 k)).run P u = .ok () u := fun b => run_checkKey (n := 9999) h2
  have h6 := run_findKey (P := P) (u := u) (es := es) (k := k) h2
  simp [run_underlying h1, h4]
  unfold mpLook
  cases hx : mpIx k es 0 with
  | none => rw [hx] at h6; simp [h5, h6, h3]
  | some x => rw [hx] at h6; simp [h5, h6]
theorem run_mapUpdate {k v : Int} (hT : mapII P T = true) (h : u.heap[m]? = some (mpB es ck).toObj) : ∃ ck', (Instr.mapUpdate T (.map (some m)) (.int .i64 k) (.int .i64 v)).run P u = .ok () { u with heap := u.heap.setIfInBounds m (mpB (mpSet es ck k v) ck').toObj } := by
  obtain ⟨kt, et, h1, h2, h3⟩ := mapII_spec hT
  unfold Instr.mapUpdate
  have h4 : (getObj m).run P u = .ok (.map ⟨es.map mpE⟩ ck) u := run_getObj (P := P) h rfl
  have h5 := run_checkKey (P := P) (u := u) (b := false) (n := 9999) (v := .int .i64 k) h2
  have h6 := run_findKey (P := P) (u := u) (es := es) (k := k) h2
  cases hx : mpIx k es 0 with
  | none =>
    refine ⟨ck + 1, ?_⟩
    have h7 := run_setObj (P := P) (o' := (mpB (mpSet es ck k v) (ck + 1)).toObj) h rfl
    rw [hx] at h6
    simp only [mpSet, hx, Option.isSome_none, Bool.false_eq_true, if_false, Blk.toObj] at h7 ⊢
    simp [run_underlying h1, h4, h5, h6]
    rw [List.map_append] at h7
    exact h7
  | some x =>
    obtain ⟨i, w⟩ := x
    refine ⟨ck, ?_⟩
    obtain ⟨_, y, hy, hyk, _⟩ := mpIx_some hx
    have hmod := mpPut_any (v := v) hx
    rw [Nat.sub_zero] at hy hmod
    have h7 := run_setObj (P := P) (o' := (mpB (mpSet es ck k v) ck).toObj) h rfl
    rw [hx] at h6
    simp only [mpSet, hx, Option.isSome_some, if_true, Blk.toObj] at h7 ⊢
    simp [run_underlying h1, h4, h5, h6, hy, mpE, hyk, Instr.keyThatStays, Instr.sameBits]
    rw [← h7]
    rw [← hmod]
    try simp
theorem run_clearMap {ty : TypeId} (hT : mapII P T = true) (h : u.heap[m]? = some (mpB es ck).toObj) : (Builtin.clear_ #[T] ty #[.map (some m)]).run P u = .ok (.tuple #[]) { u with heap := u.heap.setIfInBounds m (mpB [] ck).toObj } := by
  obtain ⟨kt, et, h1, h2, h3⟩ := mapII_spec hT
  unfold Builtin.clear_
  have h4 : (getObj m).run P u = .ok (.map ⟨es.map mpE⟩ ck) u := run_getObj (P := P) h rfl
  have h7 := run_setObj (P := P) (o' := (mpB [] ck).toObj) h rfl
  simp only [Blk.toObj, List.map_nil] at h7
  simp [run_underlying h1, h4, h7, Blk.toObj]
end
section
variable {P : Program} {r : Option Nat} {k : Ks} {ops : Array Oper} {md : Md} {n : Nat} {D : List Deferred} {S : List (Nat × Value)} {w : World} {i : Nat} {t : Tr}
variable {ty : TypeId} {pos : String} {af : Array Edge} {g : Option (Nat × Bool)} {dst : Option Tmp} {d : Nat} {w0 : World} {X : Bs} {L : List (Nat × Blk)}
theorem y_lookup {T : TypeId} {x y : Operand} {m ck : Nat} {kk : Int} {es : List (Int × Int × Nat)} (hx : ev S x = some (.map (some m))) (hy : ev S y = some (.int .i64 kk)) (hT : mapII P T = true) (hN : ∀ u, Near md w u → u.heap[m]? = some (mpB es ck).toObj) :
    ∀ a, Fr a n D S → Yl P md w a ⟨dst, .lookup T x y true, ty, pos, af, g⟩ (.tuple ⟨[.int .i64 ((mpLook es kk).getD 0), .bool (mpLook es kk).isSome]⟩) := fun a hf u hu => by
  simp [execOp, hf.eval hx, hf.eval hy, run_lookup hT (hN u hu)]
theorem a_mapUpdate {T : TypeId} {x y z : Operand} {m ck : Nat} {kk v : Int} {es : List (Int × Int × Nat)} (ho : opn ops S i = some ⟨dst, .mapUpdate T x y z, ty, pos, af, g⟩) (hx : ev S x = some (.map (some m))) (hy : ev S y = some (.int .i64 kk)) (hz : ev S z = some (.int .i64 v)) (hT : mapII P T = true)
    (hm : Mem w0 w X L) (j : Nat) (hk : blk L j = some (m, mpB es ck)) (h : ∀ ck' w', Mem w0 w' X (setB L j (mpB (mpSet es ck kk v) ck')) → HR P r k ops none n D S t w') : HR P r k ops none n D S (.act i t) w := by
  obtain ⟨ck', h1⟩ := run_mapUpdate (P := P) (T := T) (k := kk) (v := v) hT (hm.get hk)
  refine a_skp ho rfl (fun a hf => ?_) trivial (h ck' _ (hm.setObj hk))
  simp [execOp, hf.eval hx, hf.eval hy, hf.eval hz, h1]
  rfl
theorem a_clearMap {T : TypeId} {x : Operand} {m ck : Nat} {es : List (Int × Int × Nat)} (ho : opu ops S i = some (⟨dst, .call ⟨.builtin .clear, #[x], #[T]⟩, ty, pos, af, g⟩, d)) (hd : Nat.blt d n = true) (hx : ev S x = some (.map (some m))) (hT : mapII P T = true)
    (hm : Mem w0 w X L) (j : Nat) (hk : blk L j = some (m, mpB es ck)) (h : ∀ w', Mem w0 w' X (setB L j (mpB [] ck)) → HR P r k ops none n D ((d, .tuple ⟨[]⟩) :: S) t w') : HR P r k ops none n D S (.act i t) w := by
  have h1 := run_clearMap (P := P) (ty := ty) hT (hm.get hk)
  refine a_val ho hd rfl (fun a hf => ?_) trivial (h _ (hm.setObj hk))
  simp [execOp, resolve, invoke, builtin, hf.eval hx, h1]
  rfl
theorem a_makeMap {T : TypeId} (ho : opu ops S i = some (⟨dst, .makeMap T none, ty, pos, af, g⟩, d)) (hd : Nat.blt d n = true) (hm : Mem w0 w X L) (hh : Hold md w)
    (h : ∀ m w', Geq md m → Mem w0 w' X ((m, mpB [] 0) :: L) → Hold md w' → HR P r k ops md n D ((d, .map (some m)) :: S) t w') : HR P r k ops md n D S (.act i t) w := by
  have hh' : Hold md (w.alloc (mpB [] 0).toObj) := hh.ext (ext_alloc _ _)
  refine a_val (w' := w.alloc (mpB [] 0).toObj) ho hd rfl (fun a hf => ?_) hh' (h _ _ hh.geq (hm.alloc _) hh')
  simp [execOp, Instr.makeMap, newObj]
  rfl
end
end Go.Cx
