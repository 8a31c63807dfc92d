/- The program logic of these proofs, part D: operations that make or turn memory, calls, code, a function's entry and end. No condition. -/
import Derived.Test.YtlgkhajmjgepaaaCxC
import Derived.Laws.CopyRow
namespace Go.Cx
set_option linter.unusedVariables false
set_option linter.unusedSimpArgs false
open Go

/-! ### Operations that make or turn memory -/
def ndef (o : Oper) : Bool := match o.op with | .defer _ => false | .select .. => false | _ => true

/-- A contract: the call returns, with no panic. -/
def Rt (R : Value → World → Prop) (e : Ending) (w : World) : Prop := ∃ v, e = .returned v ∧ R v w
def C (P : Program) (f : FuncId) (vs : List Value) (w : World) (R : Value → World → Prop) : Prop := Calls P f ⟨vs⟩ w (Rt R)
theorem C.mono {P : Program} {f : FuncId} {vs : List Value} {w : World} {R R' : Value → World → Prop} (h : C P f vs w R) (hr : ∀ v w, R v w → R' v w) : C P f vs w R' :=
  Calls.mono h fun _ _ ⟨v, he, h⟩ => ⟨v, he, hr _ _ h⟩

def isGo (P : Program) (f : FuncId) : Bool := match P.funcs[f]? with | some fn => fn.name != "runtime.NumGoroutine" && fn.body.isSome | none => false
theorem run_isGo {P : Program} {f : FuncId} (h : isGo P f = true) (args : Array Value) (w : World) : (callFunc f args).run P w = .ok (.enter f args) w := by
  unfold isGo at h
  cases hf : P.funcs[f]? with
  | none => simp [hf] at h
  | some fn =>
    simp [hf] at h
    cases hb : fn.body with
    | none => simp [hb] at h
    | some c => simp [callFunc, hf, h.1, hb]

theorem upds_eq : ∀ (us l : List Value) (o : Nat), o + us.length ≤ l.length → upds l o us = l.take o ++ us ++ l.drop (o + us.length)
  | [], l, o, _ => by simp [upds]
  | u :: r, l, o, h => by
    simp only [List.length_cons] at h
    rw [upds, upds_eq r _ _ (by simp [upd_eq]; omega), upd_eq]
    exact list_seg_step l o u r (by omega)

section
variable {P : Program} {r : Option Nat} {k : Ks} {ops : Array Oper} {md : Md} {n : Nat} {D : List Deferred} {S : List (Nat × Value)} {w : World} {i : Nat} {t : Tr}
variable {ty : TypeId} {pos : String} {af : Array Edge} {g : Option (Nat × Bool)} {dst : Option Tmp} {d : Nat} {w0 : World} {X : Bs} {L : List (Nat × Blk)}

theorem a_val {o : Oper} {v : Value} {w' : World} (ho : opu ops S i = some (o, d)) (hd : Nat.blt d n = true) (hp : ndef o = true) (hrun : ∀ a, Fr a n D S → (execOp a.eval o).run P w = .ok (.value v) w')
    (hh : Hold md w') (h : HR P r k ops md n D ((d, v) :: S) t w') : HR P r k ops md n D S (.act i t) w := fun a hf => by
  obtain ⟨h1, h2, h3⟩ := opu_spec ho hf
  refine ⟨o, h1, fun _ => ?_, fun hw => by rw [h2] at hw; cases hw⟩
  unfold OpW
  rw [semAt_of_plain hp, hrun a hf]
  refine ⟨hh, ?_⟩
  rw [h3]
  exact h _ (hf.put v hd)

theorem a_skp {o : Oper} {w' : World} (ho : opn ops S i = some o) (hp : ndef o = true) (hrun : ∀ a, Fr a n D S → (execOp a.eval o).run P w = .ok .skip w')
    (hh : Hold md w') (h : HR P r k ops md n D S t w') : HR P r k ops md n D S (.act i t) w := fun a hf => by
  obtain ⟨h1, h2, h3⟩ := opn_spec ho hf
  refine ⟨o, h1, fun _ => ?_, fun hw => by rw [h2] at hw; cases hw⟩
  unfold OpW
  rw [semAt_of_plain hp, hrun a hf]
  refine ⟨hh, ?_⟩
  rw [h3]
  exact h _ hf

/-- an operation taken where it stands that turns nothing -/
theorem a_pure {o : Oper} {v : Value} (ho : opu ops S i = some (o, d)) (hd : Nat.blt d n = true) (hp : ndef o = true) (hy : ∀ a, Fr a n D S → Yl P none w a o v) (hh : Hold md w)
    (h : HR P r k ops md n D ((d, v) :: S) t w) : HR P r k ops md n D S (.act i t) w := a_val ho hd hp (fun a hf => hy a hf w rfl) hh h

/-- block m was laid since the drawn region began -/
def Geq (md : Md) (m : Nat) : Prop := match md with | none => True | some (b, _) => b.heap.size ≤ m
theorem Hold.geq {md : Md} {w : World} (h : Hold md w) : Geq md w.heap.size := by
  cases md with
  | none => trivial
  | some x => exact Ext.size h

theorem ext_alloc (w : World) (o : Obj) : Ext No w (w.alloc o) := ⟨rfl, rfl, rfl, by simp, fun j hj _ => by
  show (w.heap.push _)[j]? = _
  rw [Array.getElem?_push, if_neg (by omega)]⟩

theorem a_alloc {e : TypeId} {l : List Value} (ho : opu ops S i = some (⟨dst, .alloc e, ty, pos, af, g⟩, d)) (hd : Nat.blt d n = true) (hz : zer P e = some l) (hm : Mem w0 w X L) (hh : Hold md w)
    (h : ∀ m w', Geq md m → Mem w0 w' X ((m, .row e l) :: L) → Hold md w' → HR P r k ops md n D ((d, .pointer (some ⟨m, 0, none⟩)) :: S) t w') : HR P r k ops md n D S (.act i t) w := by
  obtain ⟨v, hv, hc⟩ := run_zer (w := w) hz
  refine a_val (v := .pointer (some ⟨w.heap.size, 0, none⟩)) (w' := w.alloc (Blk.row e l).toObj) ho hd rfl (fun a hf => ?_) (hh.ext (ext_alloc _ _)) (h _ _ hh.geq (hm.alloc _) (hh.ext (ext_alloc _ _)))
  simp [execOp, Instr.alloc, hv, newVar, newRow, hc, Blk.toObj]

theorem a_box {e : TypeId} {x : Operand} {v : Value} {l : List Value} (ho : opu ops S i = some (⟨dst, .box e x, ty, pos, af, g⟩, d)) (hd : Nat.blt d n = true) (hx : ev S x = some v) (hl : v.cells = ⟨l⟩) (hm : Mem w0 w X L) (hh : Hold md w)
    (h : ∀ m w', Geq md m → Mem w0 w' X ((m, .row e l) :: L) → Hold md w' → HR P r k ops md n D ((d, .pointer (some ⟨m, 0, none⟩)) :: S) t w') : HR P r k ops md n D S (.act i t) w := by
  refine a_val (v := .pointer (some ⟨w.heap.size, 0, none⟩)) (w' := w.alloc (Blk.row e l).toObj) ho hd rfl (fun a hf => ?_) (hh.ext (ext_alloc _ _)) (h _ _ hh.geq (hm.alloc _) (hh.ext (ext_alloc _ _)))
  simp [execOp, hf.eval hx, Instr.box, newVar, newRow, hl, Blk.toObj]

def repZ (z : List Value) : Nat → List Value
  | 0 => []
  | n + 1 => z ++ repZ z n
theorem repZ_length (z : List Value) : ∀ n, (repZ z n).length = n * z.length
  | 0 => by simp [repZ]
  | n + 1 => by simp only [repZ, List.length_append, repZ_length z n, Nat.succ_mul]; omega
theorem repZ_get (z : List Value) (hz : 0 < z.length) : ∀ (n i : Nat), i < n * z.length → (repZ z n)[i]? = z[i % z.length]?
  | 0, i, h => by simp at h
  | n + 1, i, h => by
    simp only [repZ]
    by_cases hi : i < z.length
    · rw [List.getElem?_append_left hi, Nat.mod_eq_of_lt hi]
    · rw [List.getElem?_append_right (by omega), repZ_get z hz n (i - z.length) (by rw [Nat.succ_mul] at h; omega), ← Nat.mod_eq_sub_mod (by omega)]
theorem zeros_eq (z : List Value) (n : Nat) : ((Array.range (n * z.length)).map ((⟨z⟩ : Array Value)[· % (⟨z⟩ : Array Value).size]!)) = ⟨repZ z n⟩ := by
  apply Array.ext'
  apply List.ext_getElem?
  intro i
  simp only [Array.toList_map, Array.toList_range, List.getElem?_map]
  by_cases hi : i < n * z.length
  · have hz : 0 < z.length := by
      rcases Nat.eq_zero_or_pos z.length with h | h
      · rw [h] at hi; simp at hi
      · exact h
    rw [repZ_get z hz n i hi, List.getElem?_range hi]
    have hlt : i % z.length < z.length := Nat.mod_lt _ hz
    simp [hlt]
  · rw [List.getElem?_eq_none (by simp; omega), List.getElem?_eq_none (by rw [repZ_length]; omega)]
    rfl

theorem a_buildSlice {T e es bs : Nat} {len : Nat} {ps : Array (Nat × Operand)} {xs : List Operand} {is : List Nat} {vs l z : List Value} (ho : opu ops S i = some (⟨dst, .buildSlice T len ps, ty, pos, af, g⟩, d)) (hd : Nat.blt d n = true)
    (hT : slcO P T = some (e, es, bs)) (hz : zer P e = some z) (hzl : Nat.beq z.length es = true) (hbig : Nat.ble (len * es) 16777216 = true) (hxs : ps.toList.map (·.2) = xs) (his : ps.toList.map (·.1) = is) (hx : evs S xs = some vs)
    (hok : okB ((List.range len).map fun j => (j * es, es)) (repZ z len).length (is.zip vs) = true)
    (hl : nths (blds ((List.range len).map fun j => (j * es, es)) (repZ z len) (is.zip vs)) 0 (blds ((List.range len).map fun j => (j * es, es)) (repZ z len) (is.zip vs)).length = some l) (hm : Mem w0 w X L) (hh : Hold md w)
    (h : ∀ m w', Geq md m → Mem w0 w' X ((m, .row e l) :: L) → Hold md w' → HR P r k ops md n D ((d, .slice (some ⟨m, 0, none⟩) len len) :: S) t w') : HR P r k ops md n D S (.act i t) w := by
  have hlen : z.length = es := by simpa using hzl
  have h2 := nths_all (blds ((List.range len).map fun j => (j * es, es)) (repZ z len) (is.zip vs)) []
  simp only [List.nil_append, List.length_nil] at h2
  rw [h2] at hl
  cases hl
  refine a_val (v := .slice (some ⟨w.heap.size, 0, none⟩) len len) (w' := w.alloc (Blk.row e (blds ((List.range len).map fun j => (j * es, es)) (repZ z len) (is.zip vs))).toObj) ho hd rfl (fun a hf => ?_) (hh.ext (ext_alloc _ _)) (h _ _ hh.geq (hm.alloc _) (hh.ext (ext_alloc _ _)))
  have h1 := zip_parts hf hxs his hx
  obtain ⟨zv, hzv, hzc⟩ := run_zer (w := w) hz
  have hsl : P.underlying T = some (.slice e) ∧ (sizeOf e).run P w = .ok es w := by
    unfold slcO at hT
    cases hu : P.underlying T with
    | none => simp [hu] at hT
    | some dd =>
      cases dd <;> simp [hu] at hT
      rename_i e'
      cases hi : P.info? e' with
      | none => simp [hi] at hT
      | some ii =>
        simp [hi] at hT
        obtain ⟨rfl, h3, _⟩ := hT
        exact ⟨rfl, by simp [sizeOf, typeInfo, hi, h3]⟩
  have hfill := run_fill ((List.range len).map fun j => (j * es, es)) (fun j => some (j * es, es)) (fun j x hx => by
    rw [List.getElem?_map] at hx
    cases hr : (List.range len)[j]? with
    | none => rw [hr] at hx; simp at hx
    | some q =>
      have hq : j = q := by
        obtain ⟨h1, h2⟩ := List.getElem?_eq_some_iff.1 hr
        simpa using h2
      rw [hr] at hx
      subst hq
      simpa using hx) (is.zip vs) (repZ z len) hok
  have hb : ¬ (len * es > 2 ^ 24) := by have := Nat.le_of_ble_eq_true hbig; omega
  have hrep : ((Array.range (len * es)).map ((⟨z⟩ : Array Value)[· % (⟨z⟩ : Array Value).size]!)) = ⟨repZ z len⟩ := by
    rw [← zeros_eq z len, hlen]
  have hnr : ∀ (cs : Array Value) (u : World), (newRow e cs).run P u = .ok ⟨u.heap.size, 0, none⟩ (u.alloc (.cells cs e)) := fun cs u => by simp [newRow]
  by_cases h0 : len * es = 0
  · have hz0 : repZ z len = [] := List.length_eq_zero_iff.1 (by rw [repZ_length, hlen]; exact h0)
    rw [hz0] at hfill
    simp only [execOp, h1, Sem.run_bind, Instr.buildSlice, run_und hsl.1, Result.andThen_ok, hsl.2, h0, if_true, Sem.run_pure]
    have hr0 : ∀ f : Nat → Value, (Array.range 0).map f = (⟨[]⟩ : Array Value) := fun f => by simp
    have hb0 : ¬ (0 > 2 ^ 24) := by decide
    simp only [hb0, if_false, hr0, hfill, Sem.run_bind, hnr, Result.andThen_ok, Sem.run_pure, hz0]
    rfl
  · simp only [execOp, h1, Sem.run_bind, Instr.buildSlice, run_und hsl.1, Result.andThen_ok, hsl.2, hb, if_false, h0, hzv, hzc, Sem.run_pure, hrep, hfill, hnr]
    rfl

theorem setRow_mem {j m : Nat} {e : TypeId} {l l' : List Value} (hm : Mem w0 w X L) (hk : blk L j = some (m, .row e l)) : Mem w0 (w.setRow m ⟨l'⟩) X (setB L j (.row e l')) := by
  refine hm.set hk _ rfl rfl rfl (by simp [World.setRow]) ?_ ?_
  · exact setRow_heap w m ⟨l⟩ ⟨l'⟩ e (0, 0) (hm.get hk)
  · intro q hq
    simp only [World.setRow, Array.getElem?_modify]
    rw [if_neg (by omega)]

theorem run_storeVar_mid {m off : Nat} {T e : TypeId} {l vs : List Value} {v : Value} (hc : v.cells = ⟨vs⟩) (hs : szO P T = some vs.length) (h1 : vs.all (·.oneCell') = true) (hlt : Nat.ble (off + vs.length) l.length = true)
    (h : w.heap[m]? = some (Blk.row e l).toObj) : (storeVar T ⟨m, off, none⟩ v).run P w = .ok () (w.setRow m ⟨upds l off vs⟩) := by
  have hle : off + vs.length ≤ l.length := by simpa using hlt
  have := run_storeCells_at P m off e vs 0 ⟨l⟩ w h (by simpa using hle) (by simpa using h1)
  simp only [Nat.add_zero] at this
  rw [← upds_eq vs l off hle] at this
  simp [storeVar, run_szO hs, hc, this]

/-- a store into an own block, in text order -/
theorem a_store {T e : TypeId} {x y : Operand} {m off : Nat} {l vs : List Value} {v : Value} (ho : opn ops S i = some ⟨dst, .store T x y, ty, pos, af, g⟩) (hx : ev S x = some (.pointer (some ⟨m, off, none⟩))) (hy : ev S y = some v)
    (hc : v.cells = ⟨vs⟩) (hs : szO P T = some vs.length) (h1 : vs.all (·.oneCell') = true) (hm : Mem w0 w X L) (j : Nat) (hk : blk L j = some (m, .row e l)) (hlt : Nat.ble (off + vs.length) l.length = true)
    (h : ∀ w', Mem w0 w' X (setB L j (.row e (upds l off vs))) → HR P r k ops none n D S t w') : HR P r k ops none n D S (.act i t) w := by
  refine a_skp (w' := w.setRow m ⟨upds l off vs⟩) ho rfl (fun a hf => ?_) trivial (h _ (setRow_mem hm hk))
  simp [execOp, hf.eval hx, hf.eval hy, Instr.storeAt, Instr.sureAddr, run_storeVar_mid hc hs h1 hlt (hm.get hk)]

/-- .. in a drawn region, into a block that was laid since the region began or that the region may turn -/
theorem a_storeN {b : World} {Y : Bs} {T e : TypeId} {x y : Operand} {m off : Nat} {l vs : List Value} {v : Value} (ho : opn ops S i = some ⟨dst, .store T x y, ty, pos, af, g⟩) (hx : ev S x = some (.pointer (some ⟨m, off, none⟩))) (hy : ev S y = some v)
    (hc : v.cells = ⟨vs⟩) (hs : szO P T = some vs.length) (h1 : vs.all (·.oneCell') = true) (hm : Mem w0 w X L) (j : Nat) (hk : blk L j = some (m, .row e l)) (hlt : Nat.ble (off + vs.length) l.length = true) (hh : Hold (some (b, Y)) w) (hb : Geq (some (b, Y)) m ∨ Y m)
    (h : ∀ w', Mem w0 w' X (setB L j (.row e (upds l off vs))) → Hold (some (b, Y)) w' → HR P r k ops (some (b, Y)) n D S t w') : HR P r k ops (some (b, Y)) n D S (.act i t) w := by
  have hh' : Hold (some (b, Y)) (w.setRow m ⟨upds l off vs⟩) := by
    have hh0 : Ext Y b w := hh
    show Ext Y b _
    refine ⟨hh0.os, hh0.tape, hh0.output, by simpa [World.setRow] using hh0.size, fun q hq hY => ?_⟩
    rw [← hh0.same q hq hY]
    simp only [World.setRow, Array.getElem?_modify]
    rw [if_neg]
    intro e; subst e
    rcases hb with hb | hb
    · have hb' : b.heap.size ≤ m := hb
      omega
    · exact hY hb
  refine a_skp (w' := w.setRow m ⟨upds l off vs⟩) ho rfl (fun a hf => ?_) hh' (h _ (setRow_mem hm hk) hh')
  simp [execOp, hf.eval hx, hf.eval hy, Instr.storeAt, Instr.sureAddr, run_storeVar_mid hc hs h1 hlt (hm.get hk)]

/-- a store into a block that is known, in text order -/
theorem a_storeW {T e : TypeId} {x y : Operand} {m off : Nat} {l vs : List Value} {v : Value} (ho : opn ops S i = some ⟨dst, .store T x y, ty, pos, af, g⟩) (hx : ev S x = some (.pointer (some ⟨m, off, none⟩))) (hy : ev S y = some v)
    (hc : v.cells = ⟨vs⟩) (hs : szO P T = some vs.length) (h1 : vs.all (·.oneCell') = true) (hk : w.heap[m]? = some (Blk.row e l).toObj) (hlt : Nat.ble (off + vs.length) l.length = true)
    (h : HR P r k ops none n D S t (w.setRow m ⟨upds l off vs⟩)) : HR P r k ops none n D S (.act i t) w := by
  refine a_skp (w' := w.setRow m ⟨upds l off vs⟩) ho rfl (fun a hf => ?_) trivial h
  simp [execOp, hf.eval hx, hf.eval hy, Instr.storeAt, Instr.sureAddr, run_storeVar_mid hc hs h1 hlt hk]

/-! ### Calls -/
theorem opW_enter {o : Oper} {f : FuncId} {args : Array Value} {R : Value → World → Prop} {K : Act → World → Prop} {a : Act} (hp : ndef o = true) (hrun : (execOp a.eval o).run P w = .ok (.enter f args) w) (hc : Calls P f args w (Rt R))
    (h : ∀ v w', R v w' → K (a.put o.dst v) w') : OpW P r k o K a w := by
  unfold OpW
  rw [semAt_of_plain hp, hrun]
  refine ⟨fun h => by simp [Fw] at h, calls_fw.2 (hc.mono fun e w' he => ?_)⟩
  obtain ⟨v, rfl, hR⟩ := he
  exact h _ _ hR

theorem run_call {c : Operand} {as : Array Operand} {ts : Array TypeId} {f : FuncId} {l1 l2 : Array Value} {vs : List Value} {a : Act} (hf : Fr a n D S) (hc : ev S c = some (.func (.func f) l1 l2)) (ha : evs S as.toList = some vs) (hg : isGo P f = true) :
    (execOp a.eval ⟨dst, .call ⟨.value c, as, ts⟩, ty, pos, af, g⟩).run P w = .ok (.enter f (l1 ++ ⟨vs⟩ ++ l2)) w := by
  have h1 : as.map a.eval = ⟨vs⟩ := by obtain ⟨l⟩ := as; simpa using hf.evals ha
  simp [execOp, resolve, hf.eval hc, h1, Deferred.ofValue, invoke, run_isGo hg]

theorem a_call {as : Array Operand} {ts : Array TypeId} {f : FuncId} {vs : List Value} {R : Value → World → Prop} (ho : opu ops S i = some (⟨dst, .call ⟨.value (.func f), as, ts⟩, ty, pos, af, g⟩, d)) (hd : Nat.blt d n = true)
    (ha : evs S as.toList = some vs) (hg : isGo P f = true) (hc : C P f vs w R) (h : ∀ v w', R v w' → Hold md w' ∧ HR P r k ops md n D ((d, v) :: S) t w') : HR P r k ops md n D S (.act i t) w := fun a hf => by
  obtain ⟨h1, h2, h3⟩ := opu_spec ho hf
  refine ⟨_, h1, fun _ => ?_, fun hw => by rw [h2] at hw; cases hw⟩
  refine opW_enter (f := f) (args := ⟨vs⟩) (R := R) rfl ?_ hc fun v w' hR => ⟨(h v w' hR).1, ?_⟩
  · rw [run_call hf (l1 := #[]) (l2 := #[]) rfl ha hg]; simp
  · rw [h3]
    exact (h v w' hR).2 _ (hf.put v hd)

theorem a_callV {c : Operand} {as : Array Operand} {ts : Array TypeId} {f : FuncId} {l1 l2 : Array Value} {vs : List Value} {R : Value → World → Prop} (ho : opu ops S i = some (⟨dst, .call ⟨.value c, as, ts⟩, ty, pos, af, g⟩, d)) (hd : Nat.blt d n = true)
    (hcv : ev S c = some (.func (.func f) l1 l2)) (ha : evs S as.toList = some vs) (hg : isGo P f = true) (hc : C P f (l1.toList ++ vs ++ l2.toList) w R) (h : ∀ v w', R v w' → Hold md w' ∧ HR P r k ops md n D ((d, v) :: S) t w') : HR P r k ops md n D S (.act i t) w := fun a hf => by
  obtain ⟨h1, h2, h3⟩ := opu_spec ho hf
  refine ⟨_, h1, fun _ => ?_, fun hw => by rw [h2] at hw; cases hw⟩
  refine opW_enter (f := f) (args := ⟨l1.toList ++ vs ++ l2.toList⟩) (R := R) rfl ?_ hc fun v w' hR => ⟨(h v w' hR).1, ?_⟩
  · rw [run_call hf hcv ha hg]; congr 2; obtain ⟨l1⟩ := l1; obtain ⟨l2⟩ := l2; simp
  · rw [h3]
    exact (h v w' hR).2 _ (hf.put v hd)

/-- a call that may be carried out or not (its guard is c): what it returns is v whenever it is -/
theorem a_callG {as : Array Operand} {ts : Array TypeId} {f : FuncId} {vs : List Value} {b c : Bool} {gd : Nat} {v : Value} (ho : opg ops i = some (⟨dst, .call ⟨.value (.func f), as, ts⟩, ty, pos, af, g⟩, d, gd, b)) (hl : look S gd = some (.bool c)) (hd : Nat.blt d n = true)
    (ha : c = b → evs S as.toList = some vs) (hg : isGo P f = true) (hc : c = b → C P f vs w (fun u w' => u = v ∧ Ext No w w')) (hh : Hold md w) (h : ∀ w', Ext No w w' → Hold md w' → HR P r k ops md n D ((d, gv c b v) :: S) t w') : HR P r k ops md n D S (.act i t) w := fun a hf => by
  obtain ⟨h1, h3, gi, og, hgg, hog, hgd⟩ := opg_spec ho
  have hw := wanted_of (ops := ops) hf hgg hog hgd hl
  refine ⟨_, h1, fun hh' => ?_, fun hh' => ?_⟩
  · rw [hw] at hh'
    have hcb : c = b := by simpa using hh'
    refine opW_enter (f := f) (args := ⟨vs⟩) rfl ?_ (hc hcb) fun u w' ⟨hu, hx⟩ => ⟨hh.ext hx, ?_⟩
    · rw [run_call hf (l1 := #[]) (l2 := #[]) rfl (ha hcb) hg]; simp
    · subst hu
      rw [h3]
      have := h w' hx (hh.ext hx) _ (hf.put _ hd)
      simpa [gv, hh'] using this
  · rw [hw] at hh'
    refine ⟨hh, ?_⟩
    rw [h3]
    have := h w (Ext.refl _ _) hh _ (hf.put (gv c b v) hd)
    simpa [gv, hh'] using this

/-- .. its guard being guarded itself -/
theorem a_callGG {as : Array Operand} {ts : Array TypeId} {f : FuncId} {vs : List Value} {b b' c e : Bool} {gd : Nat} {v : Value} (ho : opg ops i = some (⟨dst, .call ⟨.value (.func f), as, ts⟩, ty, pos, af, g⟩, d, gd, b')) (hl : look S gd = some (gv c b (.bool e))) (hd : Nat.blt d n = true)
    (ha : (c == b && e == b') = true → evs S as.toList = some vs) (hg : isGo P f = true) (hc : (c == b && e == b') = true → C P f vs w (fun u w' => u = v ∧ Ext No w w')) (hh : Hold md w) (h : ∀ w', Ext No w w' → Hold md w' → HR P r k ops md n D ((d, gv (c == b && e == b') true v) :: S) t w') : HR P r k ops md n D S (.act i t) w := fun a hf => by
  obtain ⟨h1, h3, gi, og, hgg, hog, hgd⟩ := opg_spec ho
  have hw := wanted_gv (ops := ops) hf hgg hog hgd hl
  refine ⟨_, h1, fun hh' => ?_, fun hh' => ?_⟩
  · rw [hw] at hh'
    refine opW_enter (f := f) (args := ⟨vs⟩) rfl ?_ (hc hh') fun u w' ⟨hu, hx⟩ => ⟨hh.ext hx, ?_⟩
    · rw [run_call hf (l1 := #[]) (l2 := #[]) rfl (ha hh') hg]; simp
    · subst hu
      rw [h3]
      have := h w' hx (hh.ext hx) _ (hf.put _ hd)
      simp only [gv, hh'] at this; exact this
  · rw [hw] at hh'
    refine ⟨hh, ?_⟩
    rw [h3]
    have := h w (Ext.refl _ _) hh _ (hf.put (gv (c == b && e == b') true v) hd)
    simp only [gv, hh'] at this; exact this

/-- a guarded operation whose guard is as wanted: as an unguarded one -/
theorem a_gt {o : Oper} {gd : Nat} {b c : Bool} {K : Act → World → Prop} {a : Act} (hf : Fr a n D S) (ho : opg ops i = some (o, d, gd, b)) (hl : look S gd = some (.bool c)) (hc : c = b) (h : OpW P r k o K a w) : OpG P r k ops i K a w := by
  obtain ⟨h1, h3, gi, og, hgg, hog, hgd⟩ := opg_spec ho
  have hw := wanted_of (ops := ops) hf hgg hog hgd hl
  refine ⟨_, h1, fun _ => h, fun hh => ?_⟩
  rw [hw, hc] at hh
  simp at hh

theorem a_callT {as : Array Operand} {ts : Array TypeId} {f : FuncId} {vs : List Value} {b c : Bool} {gd : Nat} {R : Value → World → Prop} (ho : opg ops i = some (⟨dst, .call ⟨.value (.func f), as, ts⟩, ty, pos, af, g⟩, d, gd, b)) (hl : look S gd = some (.bool c)) (hcb : c = b) (hd : Nat.blt d n = true)
    (ha : evs S as.toList = some vs) (hg : isGo P f = true) (hc : C P f vs w R) (h : ∀ v w', R v w' → Hold md w' ∧ HR P r k ops md n D ((d, v) :: S) t w') : HR P r k ops md n D S (.act i t) w := fun a hf => by
  obtain ⟨h1, h3, _⟩ := opg_spec ho
  refine a_gt hf ho hl hcb (opW_enter (f := f) (args := ⟨vs⟩) (R := R) rfl ?_ hc fun v w' hR => ⟨(h v w' hR).1, ?_⟩)
  · rw [run_call hf (l1 := #[]) (l2 := #[]) rfl ha hg]; simp
  · rw [h3]
    exact (h v w' hR).2 _ (hf.put v hd)

theorem a_valT {o : Oper} {gd : Nat} {b c : Bool} {v : Value} {w' : World} (ho : opg ops i = some (o, d, gd, b)) (hl : look S gd = some (.bool c)) (hcb : c = b) (hd : Nat.blt d n = true) (hp : ndef o = true) (hrun : ∀ a, Fr a n D S → (execOp a.eval o).run P w = .ok (.value v) w')
    (hh : Hold md w') (h : HR P r k ops md n D ((d, v) :: S) t w') : HR P r k ops md n D S (.act i t) w := fun a hf => by
  obtain ⟨h1, h3, _⟩ := opg_spec ho
  refine a_gt hf ho hl hcb ?_
  unfold OpW
  rw [semAt_of_plain hp, hrun a hf]
  refine ⟨hh, ?_⟩
  rw [h3]
  exact h _ (hf.put v hd)

theorem a_gu {o : Oper} {gd : Nat} {b : Bool} (ho : opg ops i = some (o, d, gd, b)) (hl : look S gd = some undef) (hd : Nat.blt d n = true) (hh : Hold md w)
    (h : HR P r k ops md n D ((d, undef) :: S) t w) : HR P r k ops md n D S (.act i t) w := fun a hf => by
  obtain ⟨h1, h3, gi, og, hgg, hog, hgd⟩ := opg_spec ho
  have hw := wanted_un (ops := ops) hf hgg hog hgd hl
  refine ⟨_, h1, fun hh' => (by rw [hw] at hh'; cases hh'), fun _ => ⟨hh, ?_⟩⟩
  rw [h3]
  exact h _ (hf.put _ hd)
/-- a guarded operation whose guard is not as wanted, where it comes up alone -/
theorem a_gf {o : Oper} {gd : Nat} {b c : Bool} (ho : opg ops i = some (o, d, gd, b)) (hl : look S gd = some (.bool c)) (hc : c ≠ b) (hd : Nat.blt d n = true) (hh : Hold md w)
    (h : HR P r k ops md n D ((d, undef) :: S) t w) : HR P r k ops md n D S (.act i t) w := fun a hf => by
  obtain ⟨h1, h3, gi, og, hgg, hog, hgd⟩ := opg_spec ho
  have hw := wanted_of (ops := ops) hf hgg hog hgd hl
  have e : (c == b) = false := by simpa using hc
  refine ⟨_, h1, fun hh' => (by rw [hw, e] at hh'; cases hh'), fun _ => ⟨hh, ?_⟩⟩
  rw [h3]
  exact h _ (hf.put _ hd)
end

/-! ### Code -/
section
variable {P : Program} {r : Option Nat} {c : Code} {k : Ks} {n : Nat} {D : List Deferred} {S : List (Nat × Value)} {w : World}

theorem HW_seq (hc : isSeq c = true) (h : HW P r (fstC c) (k.sq P r (sndC c)) n D S w) : HW P r c k n D S w := fun a hf => W_seq hc (h a hf)
theorem HW_skip (hc : isSkip c = true) (h : GN k n D S w) : HW P r c k n D S w := fun a hf => W_skip hc (h a hf)
theorem HW_ret (hc : isRet c = true) (h : GR k n D S w) : HW P r c k n D S w := fun a hf => W_ret hc (h a hf)
theorem HW_exit {i : Nat} (hc : extI c = some i) (h : GX k i n D S w) : HW P r c k n D S w := fun a hf => W_exit hc (h a hf)
theorem HW_cond {x : Operand} {b : Bool} (hc : conC c = some x) (hb : ev S x = some (.bool b)) (ht : b = true → HW P r (thnC c) k n D S w) (hf : b = false → HW P r (elsC c) k n D S w) : HW P r c k n D S w :=
  fun a hfr => W_cond hc (hfr.eval hb) (fun h => ht h a hfr) (fun h => hf h a hfr)
theorem HW_condT {x : Operand} {b : Bool} (hc : conC c = some x) (hb : ev S x = some (.bool b)) (hbt : b = true) (ht : HW P r (thnC c) k n D S w) : HW P r c k n D S w :=
  HW_cond hc hb (fun _ => ht) (fun h => by rw [hbt] at h; cases h)
theorem HW_condF {x : Operand} {b : Bool} (hc : conC c = some x) (hb : ev S x = some (.bool b)) (hbf : b = false) (hf : HW P r (elsC c) k n D S w) : HW P r c k n D S w :=
  HW_cond hc hb (fun h => by rw [hbf] at h; cases h) (fun _ => hf)
theorem HW_block {i : Nat} (hc : blkI c = some i) (h : HW P r (blkC c) (k.bl i) n D S w) : HW P r c k n D S w := fun a hf => W_block hc (h a hf)

theorem HW_text (t : Tr) (hc : (match c with | .region _ o d => !d && plainOps o && okText o.size 0 t | _ => false) = true) (h : HR P r k (opsC c) none n D S t w) : HW P r c k n D S w := fun a hf => W_text t hc (h a hf)
theorem HW_draw {w0 : World} {X : Bs} {L : List (Nat × Blk)} (t : Tr) (Y : Bs) (hm : P.follows .mixedOrders = true)
    (hc : (match c with | .region _ o d => d && plainOps o && okAny o o.size (Array.replicate o.size false) t | _ => false) = true) (hM : Mem w0 w X L)
    (h : ∀ w', w'.heap = w.heap → Mem w0 w' X L → Hold (some (w', Y)) w' → HR P r k (opsC c) (some (w', Y)) n D S t w') : HW P r c k n D S w := fun a hf =>
  W_draw t Y hm hc fun w' hx he =>
    have hx0 : Ext No w w' := ⟨hx.os, hx.tape, hx.output, hx.size, fun j _ _ => by rw [he]⟩
    h w' he (hM.ext hx0) (Ext.refl _ _) a hf

/-- T's slots are S's. -/
def Sub : List (Nat × Value) → List (Nat × Value) → Prop
  | [], _ => True
  | (i, v) :: r, S => look S i = some v ∧ Sub r S
theorem Sub.look : ∀ {T S : List (Nat × Value)}, Sub T S → ∀ i v, look T i = some v → look S i = some v
  | [], _, _, _, _, h => by simp [Cx.look] at h
  | (j, u) :: r, S, hs, i, v, h => by
    simp only [Cx.look] at h
    by_cases e : Nat.beq j i = true
    · simp only [e, cond_true, Option.some.injEq] at h
      have : j = i := by simpa using e
      subst this; subst h
      exact hs.1
    · have e' : Nat.beq j i = false := Bool.eq_false_iff.2 e
      simp only [e', cond_false] at h
      exact Sub.look hs.2 i v h
theorem HW_sub (T : List (Nat × Value)) (hT : Sub T S) (h : HW P r c k n D T w) : HW P r c k n D S w := fun a hf => h a (hf.sub hT.look)

theorem least (Q : Nat → Prop) (h : ∃ m, Q m) : ∃ m, Q m ∧ ∀ j, Q j → m ≤ j := by
  obtain ⟨m, hm⟩ := h
  induction m using Nat.strongRecOn with
  | _ m ih =>
    by_cases hx : ∃ j, j < m ∧ Q j
    · obtain ⟨j, hj, hq⟩ := hx
      exact ih j hj hq
    · exact ⟨m, hm, fun j hj => Nat.le_of_not_lt fun hlt => hx ⟨j, hlt, hj⟩⟩

/-- A loop: x is the state that the proof keeps: the slots Sx x hold at every round's head, and M x of the world; μ goes down. -/
theorem HW_loop {ι : Type} {b : Code} (hc : lopC c = some b) (Sx : ι → List (Nat × Value)) (M : ι → World → Prop) (μ : ι → Nat) (x0 : ι) (h0 : M x0 w) (hS : Sub (Sx x0) S)
    (round : ∀ x w, M x w → HW P r (lopB c) (k.lp Sx M μ x n D) n D (Sx x) w) : HW P r c k n D S w := fun a hf => by
  let Q : Act → World → Nat → Prop := fun a w m => ∃ x, μ x = m ∧ M x w ∧ Fr a n D (Sx x)
  let ms : Act → World → Nat := fun a w => open Classical in if h : ∃ m, Q a w m then Classical.choose (least _ h) else 0
  refine W_loop hc (fun a w => ∃ x, M x w ∧ Fr a n D (Sx x)) ms ⟨x0, h0, hf.sub hS.look⟩ ?_
  rintro a w ⟨x, hM, hF⟩
  have hex : ∃ m, Q a w m := ⟨μ x, x, rfl, hM, hF⟩
  have hms : ms a w = Classical.choose (least _ hex) := by simp only [ms]; rw [dif_pos hex]
  obtain ⟨⟨y, hy, hMy, hFy⟩, _⟩ := Classical.choose_spec (least _ hex)
  refine W_mono (round y w hMy a hFy) ?_ (fun _ _ h => h) (fun _ _ _ h => h)
  rintro a' w' ⟨z, hlt, hMz, hFz⟩
  refine ⟨⟨z, hMz, hFz⟩, ?_⟩
  have hex' : ∃ m, Q a' w' m := ⟨μ z, z, rfl, hMz, hFz⟩
  have hms' : ms a' w' = Classical.choose (least _ hex') := by simp only [ms]; rw [dif_pos hex']
  have hle := (Classical.choose_spec (least _ hex')).2 (μ z) ⟨z, rfl, hMz, hFz⟩
  rw [hms', hms]
  omega

/-- a round's end -/
theorem next {ι : Type} {Sx : ι → List (Nat × Value)} {M : ι → World → Prop} {μ : ι → Nat} {x : ι} (y : ι) (hμ : μ y < μ x) (hM : M y w) (hS : Sub (Sx y) S) : GN (k.lp Sx M μ x n D) n D S w :=
  fun _ hf => ⟨y, hμ, hM, hf.sub hS.look⟩

/-- T holds S's slots of these numbers. -/
inductive Pick (S : List (Nat × Value)) : List Nat → List (Nat × Value) → Prop where
  | nil : Pick S [] []
  | cons {i : Nat} {v : Value} {ks : List Nat} {T : List (Nat × Value)} (h : look S i = some v) (hr : Pick S ks T) : Pick S (i :: ks) ((i, v) :: T)
theorem Pick.sub {ks : List Nat} {T : List (Nat × Value)} (h : Pick S ks T) : Sub T S := by
  induction h with
  | nil => trivial
  | cons h _ ih => exact ⟨h, ih⟩
theorem Sub.app : ∀ {A T S : List (Nat × Value)}, Sub A S → Sub T S → Sub (A ++ T) S
  | [], _, _, _, h => h
  | (_, _) :: _, _, _, h, g => ⟨h.1, h.2.app g⟩
/-- .. as 'HW_loop', whatever slots ks stand as they are -/
theorem HW_loopK {ι : Type} {b : Code} (hc : lopC c = some b) {ks : List Nat} {T : List (Nat × Value)} (hp : Pick S ks T) (Vx : ι → List (Nat × Value)) (M : ι → World → Prop) (μ : ι → Nat) (x0 : ι) (h0 : M x0 w) (hS : Sub (Vx x0) S)
    (round : ∀ x w, M x w → HW P r (lopB c) (k.lp (fun x => Vx x ++ T) M μ x n D) n D (Vx x ++ T) w) : HW P r c k n D S w :=
  HW_loop hc (fun x => Vx x ++ T) M μ x0 h0 (hS.app hp.sub) round
/-- A piece, and what stands behind it, by way of a state x. -/
def Ks.vi {ι : Type} (k : Ks) (Sx : ι → List (Nat × Value)) (M : ι → World → Prop) (n : Nat) (D : List Deferred) : Ks := { k with norm := fun a w => ∃ y, M y w ∧ Fr a n D (Sx y) }
theorem HW_via {ι : Type} (hc : isSeq c = true) {ks : List Nat} {T : List (Nat × Value)} (hp : Pick S ks T) (Vx : ι → List (Nat × Value)) (M : ι → World → Prop)
    (h1 : HW P r (fstC c) (k.vi (fun x => Vx x ++ T) M n D) n D S w) (h2 : ∀ x w, M x w → HW P r (sndC c) k n D (Vx x ++ T) w) : HW P r c k n D S w :=
  HW_seq hc fun a hf => W_mono (h1 a hf) (fun a w ⟨y, hM, hF⟩ => h2 y w hM a hF) (fun _ _ h => h) (fun _ _ _ h => h)
theorem gn_vi {ι : Type} {Sx : ι → List (Nat × Value)} {M : ι → World → Prop} (y : ι) (hM : M y w) (hS : Sub (Sx y) S) : GN (k.vi Sx M n D) n D S w := fun _ hf => ⟨y, hM, hf.sub hS.look⟩
theorem gr_vi {ι : Type} {Sx : ι → List (Nat × Value)} {M : ι → World → Prop} {m : Nat} {D' : List Deferred} (h : GR k n D S w) : GR (k.vi Sx M m D') n D S w := h
theorem gx_vi {ι : Type} {Sx : ι → List (Nat × Value)} {M : ι → World → Prop} {m : Nat} {D' : List Deferred} {i : Nat} (h : GX k i n D S w) : GX (k.vi Sx M m D') i n D S w := h

/-! ### A function's entry and end -/
def Fin (P : Program) (fn : Func) (R : Value → World → Prop) (a : Act) (w : World) : Prop := a.defers = [] ∧ ∃ v, (results fn a.tmps).run P w = .ok v w ∧ R v w
def Kf (P : Program) (fn : Func) (R : Value → World → Prop) : Ks := { norm := Fin P fn R, ret := Fin P fn R, ex := fun _ _ _ => False }

theorem C_of {f : FuncId} {fn : Func} {vs : List Value} {R : Value → World → Prop} (hf : P.funcs[f]? = some fn) (hb : fn.body.isSome = true) (hn : fn.ntmps = n) (hl : Nat.ble vs.length n = true)
    (h : ∀ k : Ks, (∀ a w, Fin P fn R a w → k.ret a w) → (∀ a w, Fin P fn R a w → k.norm a w) → HW P none (bodC fn) k n [] (slots 0 vs) w) : C P f vs w R := by
  obtain ⟨c, hc⟩ := Option.isSome_iff_exists.1 hb
  have hbod : bodC fn = c := by simp [bodC, hc]
  refine calls_of_wp hf hc ?_
  have hfr := Fr.init vs n (by simpa using hl)
  have hW := h (Kf P fn R) (fun _ _ h => h) (fun _ _ h => h) _ hfr
  rw [hbod] at hW
  have hW' : c.wp P (Kf P fn R).q { tmps := vs.toArray ++ Array.replicate (n - vs.toArray.size) undef, defers := [] } w := wpIn_wide.1 hW
  subst hn
  refine wp_mono hW' fun e a w' hq => ?_
  cases e with
  | normal => obtain ⟨hd, v, hr, hR⟩ := hq; exact ⟨hd, v, hr, v, rfl, hR⟩
  | ret => obtain ⟨hd, v, hr, hR⟩ := hq; exact ⟨hd, v, hr, v, rfl, hR⟩
  | exit i => exact hq.elim
  | goto l => exact hq.elim
  | panic c => exact hq.elim
  | outgrown => exact hq.elim

/-- What the result variables hold. -/
inductive Rs (P : Program) (w : World) (S : List (Nat × Value)) : List ResultVar → List Value → Prop where
  | nil : Rs P w S [] []
  | tmp {t : Tmp} {v : Value} {rs : List ResultVar} {vs : List Value} (h : look S t = some v) (hr : Rs P w S rs vs) : Rs P w S (.tmp t :: rs) (v :: vs)
  | cell {t T m off : Nat} {v : Value} {rs : List ResultVar} {vs : List Value} (h : look S t = some (.pointer (some ⟨m, off, none⟩))) (hv : (loadVar T ⟨m, off, none⟩).run P w = .ok v w) (hr : Rs P w S rs vs) : Rs P w S (.cell t T :: rs) (v :: vs)

def tup : List Value → Value | [v] => v | vs => .tuple ⟨vs⟩
inductive Tup : List Value → Value → Prop where
  | nil : Tup [] (.tuple ⟨[]⟩)
  | one {v : Value} : Tup [v] v
  | more {a b : Value} {l : List Value} : Tup (a :: b :: l) (.tuple ⟨a :: b :: l⟩)
theorem Tup.eq {vs : List Value} {v : Value} (h : Tup vs v) : tup vs = v := by cases h <;> rfl

def resOne (tmps : Array Value) : ResultVar → Sem Value
  | .tmp t => pure (tmps.getD t undef)
  | .cell x T => do loadVar T (← asAddr (tmps.getD x undef))

theorem Rs.run {a : Act} {rs : List ResultVar} {vs : List Value} (h : Rs P w S rs vs) (hf : Fr a n D S) : (rs.mapM (resOne a.tmps)).run P w = .ok vs w := by
  induction h with
  | nil => rfl
  | tmp h hr ih =>
    have := hf.get _ _ h
    simp [List.mapM_cons, resOne, Array.getD_eq_getD_getElem?, this, ih]
  | cell h hv hr ih =>
    have := hf.get _ _ h
    simp [List.mapM_cons, resOne, Array.getD_eq_getD_getElem?, this, asAddr, hv, ih]

theorem fin {K : Act → World → Prop} {fn : Func} {R : Value → World → Prop} {rs : List ResultVar} {vs : List Value} {v : Value} (hk : ∀ a w, Fin P fn R a w → K a w) (hr : fn.results.toList = rs) (h : Rs P w S rs vs) (ht : Tup vs v) (hR : R v w) : GoD K n [] S w := fun a hf => by
  rw [← ht.eq] at hR
  refine hk a w ?_
  refine ⟨hf.defers, tup vs, ?_, hR⟩
  have := h.run hf
  subst hr
  have he : results fn a.tmps = (do
      let vs ← fn.results.mapM (resOne a.tmps)
      pure (if h : vs.size = 1 then vs[0] else .tuple vs)) := rfl
  rw [he, Sem.run_bind, Array.mapM_eq_mapM_toList]
  simp only [Sem.run_map, this, Result.andThen_ok, Sem.run_pure]
  congr 1
  match vs with
  | [] => rfl
  | [v] => rfl
  | v :: u :: l => simp [tup]
end
end Go.Cx
