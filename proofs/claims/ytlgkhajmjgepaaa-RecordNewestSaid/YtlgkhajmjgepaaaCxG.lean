/- The program logic of these proofs, part G: ranges over functions. No condition. -/
import Derived.Test.YtlgkhajmjgepaaaCxF
namespace Go.Cx
set_option linter.unusedVariables false
set_option linter.unusedSimpArgs false
open Go

/-- The record that a range over a function lays. -/
def lrec (a : Act) (fn : FuncId) (r0 : Nat) (ps : Array Tmp) (asg bod : Code) (st : LoopState) (pd : Option Code) : Loop :=
  { state := st, pending := pd, fn := fn, tmps := a.tmps, params := ps, assign := asg, body := bod, defers := r0 }
abbrev lblk (a : Act) (fn : FuncId) (r0 : Nat) (ps : Array Tmp) (asg bod : Code) (st : LoopState) (pd : Option Code) : Blk := .obj (.loop (lrec a fn r0 ps asg bod st pd))
abbrev dblk (x : Option (List Deferred)) : Blk := .obj (.deferred x)

/-- A call of yield (of loop l) at these arguments. -/
def Yw (P : Program) (l : Nat) (vs : List Value) (w : World) (R : Value → World → Prop) : Prop :=
  ∃ rc, w.heap[l]? = some (.loop rc) ∧ vs.length = rc.params.size ∧
    RoundIn (Fw none) 0 P l rc.fn ((rc.params.zip ⟨vs⟩).foldl (fun tmps (t, a) => tmps.setIfInBounds t a) rc.tmps) rc.assign rc.body w (Rt R)

theorem Yw.mono {P : Program} {l : Nat} {vs : List Value} {w : World} {R R' : Value → World → Prop} (h : Yw P l vs w R) (hr : ∀ v w, R v w → R' v w) : Yw P l vs w R' := by
  obtain ⟨rc, h1, h2, h3⟩ := h
  exact ⟨rc, h1, h2, h3.mono fun _ _ ⟨v, he, h⟩ => ⟨v, he, hr _ _ h⟩⟩

section
variable {P : Program} {r : Option Nat} {k : Ks} {ops : Array Oper} {md : Md} {n : Nat} {D : List Deferred} {S : List (Nat × Value)} {w : World} {i : Nat} {t : Tr}
variable {ty : TypeId} {pos : String} {af : Array Edge} {g : Option (Nat × Bool)} {dst : Option Tmp} {d : Nat} {w0 : World} {X : Bs} {L : List (Nat × Blk)}

theorem run_getObj {j : Nat} {o : Obj} (h : w.heap[j]? = some o) (hc : (match o with | .cells .. => false | _ => true) = true) : (getObj j).run P w = .ok o w := by
  simp only [getObj, Sem.run, h]
  cases o <;> simp at hc ⊢ <;> rfl
theorem run_setObj {j : Nat} {o o' : Obj} (h : w.heap[j]? = some o) (hc : (match o with | .cells .. => false | _ => true) = true) : (setObj j o').run P w = .ok () { w with heap := w.heap.setIfInBounds j o' } := by
  simp only [setObj, Sem.run, h]
  cases o <;> simp at hc ⊢ <;> rfl

theorem Mem.setObj {j m : Nat} {o o' : Obj} (h : Mem w0 w X L) (hk : blk L j = some (m, .obj o)) : Mem w0 { w with heap := w.heap.setIfInBounds m o' } X (setB L j (.obj o')) := by
  have hin := h.get hk
  have hlt : m < w.heap.size := (Array.getElem?_eq_some_iff.1 hin).1
  refine h.set hk _ rfl rfl rfl (by simp) ?_ ?_
  · simp [Blk.toObj, hlt]
  · intro q hq
    simp [Array.getElem?_setIfInBounds_ne (Ne.symm hq)]

/-- a call of yield in an iterator's body -/
theorem a_yield {c : Operand} {as : Array Operand} {ts : Array TypeId} {l : Nat} {vs : List Value} {R : Value → World → Prop} (ho : opu ops S i = some (⟨dst, .call ⟨.value c, as, ts⟩, ty, pos, af, g⟩, d)) (hd : Nat.blt d n = true)
    (hcv : ev S c = some (.func (.yield l) #[] #[])) (ha : evs S as.toList = some vs) (hc : Yw P l vs w R) (h : ∀ v w', R v w' → Hold md w' ∧ HR P r k ops md n D ((d, v) :: S) t w') : HR P r k ops md n D S (.act i t) w := fun a hf => by
  obtain ⟨h1, h2, h3⟩ := opu_spec ho hf
  obtain ⟨rc, hl, hn, hR⟩ := hc
  refine ⟨_, h1, fun _ => ?_, fun hw => by rw [h2] at hw; cases hw⟩
  have hargs : as.map a.eval = ⟨vs⟩ := by obtain ⟨l⟩ := as; simpa using hf.evals ha
  have hrun : (execOp a.eval ⟨dst, .call ⟨.value c, as, ts⟩, ty, pos, af, g⟩).run P w = .ok (.round l rc.fn ((rc.params.zip ⟨vs⟩).foldl (fun tmps (t, a) => tmps.setIfInBounds t a) rc.tmps) rc.assign rc.body) w := by
    have hg := run_getObj (P := P) hl rfl
    simp [execOp, resolve, hf.eval hcv, hargs, Deferred.ofValue, invoke, Instr.yield, Instr.getLoop, hg, hn]
  unfold OpW
  rw [semAt_of_plain rfl, hrun]
  refine ⟨fun h => by simp [Fw] at h, RoundIn.mono hR fun e w' he => ?_⟩
  obtain ⟨v, rfl, hRv⟩ := he
  refine ⟨(h v w' hRv).1, ?_⟩
  rw [h3]
  exact (h v w' hRv).2 _ (hf.put v hd)

/-- the slots of a round: the loop's parameters set -/
def setP : List Nat → List Value → List (Nat × Value) → List (Nat × Value)
  | t :: ts, v :: vs, S => setP ts vs ((t, v) :: S)
  | _, _, S => S
def okP (n : Nat) : List Nat → Bool | [] => true | t :: ts => Nat.blt t n && okP n ts

theorem Fr.params : ∀ (ps : List Nat) (vs : List Value) (S : List (Nat × Value)) (tm : Array Value) (D : List Deferred), okP n ps = true → Fr { tmps := tm, defers := D } n D S →
    Fr { tmps := (ps.zip vs).foldl (fun tmps (t, a) => tmps.setIfInBounds t a) tm, defers := D } n D (setP ps vs S)
  | [], _, _, _, _, _, h => by simpa [setP] using h
  | t :: ts, [], _, _, _, _, h => by simpa [setP] using h
  | t :: ts, v :: vs, S, tm, D, hok, h => by
    simp only [okP, Bool.and_eq_true] at hok
    have := h.put v hok.1
    exact Fr.params ts vs _ _ D hok.2 this

/-- What a round's body must come to: at its end, at a return, at an exit out of it. -/
def kB (P : Program) (l : Nat) (R : Value → World → Prop) : Ks :=
  { norm := fun _ w => ∃ v w', (Instr.endRound l none).run P w = .ok v w' ∧ R v w'
    ret := fun _ w => ∃ v w', (Instr.endRound l (some .ret)).run P w = .ok v w' ∧ R v w'
    ex := fun id _ w => ∃ v w', (Instr.endRound l (some (.exit id))).run P w = .ok v w' ∧ R v w' }
/-- What the assignment to the loop's left sides must come to. -/
def kA (P : Program) (l : Nat) (bod : Code) (R : Value → World → Prop) : Ks :=
  { norm := fun a w => ∃ w', (Instr.beginRound l).run P w = .ok () w' ∧ W P (some l) bod (kB P l R) a w'
    ret := fun _ _ => False
    ex := fun _ _ _ => False }

/-- A round. -/
theorem Yw.of {l : Nat} {a : Act} {fn : FuncId} {r0 : Nat} {ps : Array Tmp} {asg bod : Code} {vs : List Value} {R : Value → World → Prop} (hf : Fr a n D S) (hl : w.heap[l]? = some (.loop (lrec a fn r0 ps asg bod .ready none))) (hn : vs.length = ps.size) (hok : okP n ps.toList = true)
    (h : HW P (some l) asg (kA P l bod R) n [] (setP ps.toList vs S) w) : Yw P l vs w R := by
  refine ⟨_, hl, hn, roundIn_of_wpIn trivial ?_⟩
  have hf0 : Fr { tmps := a.tmps, defers := [] } n [] S := ⟨hf.size, rfl, hf.get⟩
  have hfr := Fr.params ps.toList vs S a.tmps [] hok hf0
  have hz : (ps.zip ⟨vs⟩).foldl (fun tmps (t, a) => tmps.setIfInBounds t a) a.tmps = (ps.toList.zip vs).foldl (fun tmps (t, a) => tmps.setIfInBounds t a) a.tmps := by
    rw [← Array.foldl_toList]; simp
  have hW := h _ hfr
  have hW' : asg.wpIn (Fw (some l)) 0 P (kA P l bod R).q _ w := hW
  have hz' : (lrec a fn r0 ps asg bod .ready none).tmps = a.tmps := rfl
  show asg.wpIn (Fw (some l)) 0 P _ { tmps := (ps.zip ⟨vs⟩).foldl _ a.tmps, defers := [] } w
  rw [hz]
  refine wpIn_mono hW' fun e a' w' hq => ?_
  cases e with
  | normal =>
    obtain ⟨w2, h1, h2⟩ := hq
    refine ⟨w2, h1, wpIn_mono h2 fun e a'' w'' hq' => ?_⟩
    cases e with
    | normal => obtain ⟨v, w3, h3, h4⟩ := hq'; exact ⟨v, w3, h3, v, rfl, h4⟩
    | ret => obtain ⟨v, w3, h3, h4⟩ := hq'; exact ⟨v, w3, h3, v, rfl, h4⟩
    | exit id => obtain ⟨v, w3, h3, h4⟩ := hq'; exact ⟨v, w3, h3, v, rfl, h4⟩
    | goto t => exact hq'.elim
    | panic c => exact hq'.elim
    | outgrown => exact hq'.elim
  | ret => exact hq.elim
  | exit id => exact hq.elim
  | goto t => exact hq.elim
  | panic c => exact hq.elim
  | outgrown => exact hq.elim

section
variable {l fn r0 : Nat} {a : Act} {ps : Array Tmp} {asg bod : Code} {R : Value → World → Prop}

/-- the body begins: behind the assignment -/
theorem g_begin (hm : Mem w0 w X L) (j : Nat) (hj : blk L j = some (l, lblk a fn r0 ps asg bod .ready none)) (h : ∀ w', Mem w0 w' X (setB L j (lblk a fn r0 ps asg bod .busy none)) → HW P (some l) bod (kB P l R) n [] S w') :
    GN (kA P l bod R) n [] S w := fun b hf => by
  have hl : w.heap[l]? = some (.loop (lrec a fn r0 ps asg bod .ready none)) := hm.get hj
  have h1 := run_getObj (P := P) hl rfl
  have h2 := run_setObj (P := P) (o' := .loop (lrec a fn r0 ps asg bod .busy none)) hl rfl
  refine ⟨_, ?_, h _ (hm.setObj (j := j) (o' := .loop (lrec a fn r0 ps asg bod .busy none)) hj) b hf⟩
  have e : ({ lrec a fn r0 ps asg bod .ready none with state := .busy } : Loop) = lrec a fn r0 ps asg bod .busy none := rfl
  simp only [Instr.beginRound, Instr.getLoop, Sem.run_bind, h1, Result.andThen_ok, Sem.run_pure, e, h2]
  rfl
/-- the body's end -/
theorem g_end (hm : Mem w0 w X L) (j : Nat) (hj : blk L j = some (l, lblk a fn r0 ps asg bod .busy none)) (h : ∀ w', Mem w0 w' X (setB L j (lblk a fn r0 ps asg bod .ready none)) → R (.bool true) w') : GN (kB P l R) n [] S w := fun b _ => by
  have hl : w.heap[l]? = some (.loop (lrec a fn r0 ps asg bod .busy none)) := hm.get hj
  have h1 := run_getObj (P := P) hl rfl
  have h2 := run_setObj (P := P) (o' := .loop (lrec a fn r0 ps asg bod .ready none)) hl rfl
  refine ⟨.bool true, _, ?_, h _ (hm.setObj (j := j) (o' := .loop (lrec a fn r0 ps asg bod .ready none)) hj)⟩
  have e : ({ lrec a fn r0 ps asg bod .busy none with state := .ready, pending := none } : Loop) = lrec a fn r0 ps asg bod .ready none := rfl
  simp only [Instr.endRound, Instr.getLoop, Sem.run_bind, h1, Result.andThen_ok, Sem.run_pure, Option.isNone_none, if_true, e, h2]
theorem g_jump (c : Code) (hm : Mem w0 w X L) (j : Nat) (hj : blk L j = some (l, lblk a fn r0 ps asg bod .busy none)) (h : ∀ w', Mem w0 w' X (setB L j (lblk a fn r0 ps asg bod .done (some c))) → R (.bool false) w') : ∃ v w', (Instr.endRound l (some c)).run P w = .ok v w' ∧ R v w' := by
  have hl : w.heap[l]? = some (.loop (lrec a fn r0 ps asg bod .busy none)) := hm.get hj
  have h1 := run_getObj (P := P) hl rfl
  have h2 := run_setObj (P := P) (o' := .loop (lrec a fn r0 ps asg bod .done (some c))) hl rfl
  refine ⟨.bool false, _, ?_, h _ (hm.setObj (j := j) (o' := .loop (lrec a fn r0 ps asg bod .done (some c))) hj)⟩
  have e : ({ lrec a fn r0 ps asg bod .busy none with state := .done, pending := some c } : Loop) = lrec a fn r0 ps asg bod .done (some c) := rfl
  simp only [Instr.endRound, Instr.getLoop, Sem.run_bind, h1, Result.andThen_ok, Sem.run_pure, Option.isNone_some, Bool.false_eq_true, if_false, e, h2]
theorem g_ret (hm : Mem w0 w X L) (j : Nat) (hj : blk L j = some (l, lblk a fn r0 ps asg bod .busy none)) (h : ∀ w', Mem w0 w' X (setB L j (lblk a fn r0 ps asg bod .done (some .ret))) → R (.bool false) w') : GR (kB P l R) n [] S w := fun _ _ => g_jump .ret hm j hj h
theorem g_exit {id : Nat} (hm : Mem w0 w X L) (j : Nat) (hj : blk L j = some (l, lblk a fn r0 ps asg bod .busy none)) (h : ∀ w', Mem w0 w' X (setB L j (lblk a fn r0 ps asg bod .done (some (.exit id)))) → R (.bool false) w') : GX (kB P l R) id n [] S w := fun _ _ => g_jump (.exit id) hm j hj h
end

/-- **The statement**, in an activation: the iterator's value is function fi with these first and captured values; its contract says how it ends: the record is not busy, and what is pending. -/
theorem HW_range {c : Code} {f : Operand} {ps : Array Tmp} {fi : FuncId} {l1 l2 : List Value} (hc : rngC c = some (f, ps)) (hv : ev S f = some (.func (.func fi) ⟨l1⟩ ⟨l2⟩)) (hg : isGo P fi = true) (hm : Mem w0 w X L)
    (h : ∀ a fn r0 l w2 (LB : LoopState → Option Code → Blk), LB = lblk a fn r0 ps (rngA c) (rngB c) → Fr a n D S → l = r0 + 1 → w.heap.size = r0 → Mem w0 w2 X ((l, LB .ready none) :: (r0, dblk (some [])) :: L) →
      C P fi (l1 ++ [.func (.yield l) #[] #[]] ++ l2) w2 fun _ w3 => ∃ st pd, st ≠ .busy ∧ w3.heap[l]? = some (lblk a fn r0 ps (rngA c) (rngB c) st pd).toObj ∧
        (∀ w4, w4 = { w3 with heap := w3.heap.setIfInBounds l (.loop (lrec a fn r0 ps (rngA c) (rngB c) .exhausted pd)) } →
          (match pd with
           | none => GN k n ({ target := .collected r0, args := #[] } :: D) S w4
           | some j => HW P none j k n ({ target := .collected r0, args := #[] } :: D) S w4))) : HW P none c k n D S w := fun a hf => by
  cases c <;> simp [rngC] at hc
  rename_i f' ps' asg bod
  obtain ⟨rfl, rfl⟩ := hc
  refine wpIn_rangeFunc fun fn _ => ?_
  have hm1 := (hm.alloc (dblk (some [])))
  have hm2 := hm1.alloc (lblk a fn w.heap.size ps' asg bod .ready none)
  have hsz : (w.alloc (dblk (some [])).toObj).heap.size = w.heap.size + 1 := by simp
  rw [hsz] at hm2
  refine ⟨w.heap.size + 1, [{ target := .collected w.heap.size, args := #[] }], ((w.alloc (dblk (some [])).toObj).alloc (lblk a fn w.heap.size ps' asg bod .ready none).toObj), { target := .fn (.func fi) ⟨l2⟩, args := ⟨l1⟩ ++ #[.func (.yield (w.heap.size + 1)) #[] #[]] }, ((w.alloc (dblk (some [])).toObj).alloc (lblk a fn w.heap.size ps' asg bod .ready none).toObj), fi, ⟨l1 ++ [.func (.yield (w.heap.size + 1)) #[] #[]] ++ l2⟩,
    ((w.alloc (dblk (some [])).toObj).alloc (lblk a fn w.heap.size ps' asg bod .ready none).toObj), ?_, ?_, fun _ _ => trivial, ?_, fun h => by simp [Fw] at h, calls_fw.2 ?_⟩
  · show (Instr.enterLoop fn a.tmps ps' asg bod none).run P w = _
    simp [Instr.enterLoop, Blk.toObj, lrec]
  · have h1 : (rangeCall f' (w.heap.size + 1)).args.map a.eval = #[.func (.yield (w.heap.size + 1)) #[] #[]] := by simp [Act.eval]
    simp only [resolve, h1]
    show (Deferred.ofValue (a.eval f') _).run P _ = _
    rw [hf.eval hv]
    rfl
  · have := run_isGo (args := ⟨l1 ++ [.func (.yield (w.heap.size + 1)) #[] #[]] ++ l2⟩) hg ((w.alloc (dblk (some [])).toObj).alloc (lblk a fn w.heap.size ps' asg bod .ready none).toObj)
    simp only [invoke]
    rw [show (⟨l1⟩ ++ #[Value.func (.yield (w.heap.size + 1)) #[] #[]] ++ ⟨l2⟩ : Array Value) = ⟨l1 ++ [.func (.yield (w.heap.size + 1)) #[] #[]] ++ l2⟩ from by apply Array.ext'; simp]
    exact this
  · refine Calls.mono (h a fn w.heap.size (w.heap.size + 1) _ _ rfl hf rfl rfl hm2) fun e w3 he => ?_
    obtain ⟨v, rfl, st, pd, hst, hl, hk⟩ := he
    have hl : w3.heap[w.heap.size + 1]? = some (.loop (lrec a fn w.heap.size ps' asg bod st pd)) := hl
    have h1 := run_getObj (P := P) hl rfl
    have h2 := run_setObj (P := P) (o' := .loop (lrec a fn w.heap.size ps' asg bod .exhausted pd)) hl rfl
    refine ⟨pd, { w3 with heap := w3.heap.setIfInBounds (w.heap.size + 1) (.loop (lrec a fn w.heap.size ps' asg bod .exhausted pd)) }, ?_, ?_⟩
    · have e : ({ lrec a fn w.heap.size ps' asg bod st pd with state := .exhausted } : Loop) = lrec a fn w.heap.size ps' asg bod .exhausted pd := rfl
      have hb : ((lrec a fn w.heap.size ps' asg bod st pd).state == LoopState.busy) = false := by simpa [lrec] using hst
      have h1' : (getObj (w.heap.size + 1)).run P w3 = .ok (.loop (lrec a fn w.heap.size ps' asg bod st pd)) w3 := h1
      simp only [Instr.endLoop, Instr.getLoop, Sem.run_bind, h1', Result.andThen_ok, Sem.run_pure, hb, Bool.false_eq_true, if_false, e, h2]
      rfl
    · have hk' := hk _ rfl
      have hfr : Fr { a with defers := [{ target := .collected w.heap.size, args := #[] }] ++ a.defers } n ({ target := .collected w.heap.size, args := #[] } :: D) S := ⟨hf.size, by simp [hf.defers], hf.get⟩
      cases pd with
      | none => exact hk' _ hfr
      | some j => exact hk' _ hfr

theorem g_over {w4 : World} {l fn r0 : Nat} {a : Act} {ps : Array Tmp} {asg bod : Code} {st : LoopState} {pd : Option Code} (hm : Mem w0 w X ((l, lblk a fn r0 ps asg bod st pd) :: L)) (h4 : w4 = { w with heap := w.heap.setIfInBounds l (.loop (lrec a fn r0 ps asg bod .exhausted pd)) }) : Mem w0 w4 X L := by
  subst h4
  exact (hm.setObj (j := 0) (o' := .loop (lrec a fn r0 ps asg bod .exhausted pd)) rfl).tail

/-! ### A function that holds ranges over functions: its entry and end -/
abbrev mark (r0 : Nat) : Deferred := { target := .collected r0, args := #[] }
def FinM (P : Program) (fn : Func) (R : Value → World → Prop) (a : Act) (w : World) : Prop := LeavesInM (Fw none) 0 P fn a.tmps (Rt R) a.defers .returning w

theorem C_ofM {f : FuncId} {fn : Func} {vs : List Value} {R : Value → World → Prop} (hf : P.funcs[f]? = some fn) (hb : fn.body.isSome = true) (hn : fn.ntmps = n) (hl : Nat.ble vs.length n = true)
    (h : ∀ k : Ks, (∀ a w, FinM P fn R a w → k.ret a w) → (∀ a w, FinM P fn R a w → k.norm a w) → HW P none (bodC fn) k n [] (slots 0 vs) w) : C P f vs w R := by
  obtain ⟨c, hc⟩ := Option.isSome_iff_exists.1 hb
  have hbod : bodC fn = c := by simp [bodC, hc]
  refine calls_fw.1 (callsIn_of_wp_marks (F := Fw none) (n := 0) hf hc trivial ?_)
  have hfr := Fr.init vs n (by simpa using hl)
  have hW := h { norm := FinM P fn R, ret := FinM P fn R, ex := fun _ _ _ => False } (fun _ _ h => h) (fun _ _ h => h) _ hfr
  rw [hbod] at hW
  subst hn
  refine wpIn_mono hW fun e a w' hq => ?_
  cases e with
  | normal => exact hq
  | ret => exact hq
  | exit i => exact hq.elim
  | goto l => exact hq.elim
  | panic c => exact hq.elim
  | outgrown => exact hq.elim


theorem Rs.results {a : Act} {fn : Func} {rs : List ResultVar} {vs : List Value} (hr : fn.results.toList = rs) (h : Rs P w S rs vs) (hf : Fr a n D S) : (results fn a.tmps).run P w = .ok (tup vs) w := by
  have := h.run hf
  subst hr
  have he : Go.results fn a.tmps = (do
      let vs ← fn.results.mapM (resOne a.tmps)
      pure (if h : vs.size = 1 then vs[0] else .tuple vs)) := rfl
  rw [he, Sem.run_bind, Array.mapM_eq_mapM_toList]
  simp only [Sem.run_map, this, Result.andThen_ok, Sem.run_pure]
  congr 1
  match vs with
  | [] => rfl
  | [v] => rfl
  | v :: u :: l => simp [tup]

theorem run_take {r0 : Nat} (hl : w.heap[r0]? = some (.deferred (some []))) : (Instr.takeDeferred r0).run P w = .ok [] { w with heap := w.heap.setIfInBounds r0 (.deferred none) } := by
  have h1 := run_getObj (P := P) hl rfl
  have h2 := run_setObj (P := P) (o' := .deferred none) hl rfl
  simp only [Instr.takeDeferred, Sem.run_bind, h1, Result.andThen_ok, h2, Sem.run_pure]

/-- the end, no range having been entered -/
theorem fin0 {K : Act → World → Prop} {fn : Func} {R : Value → World → Prop} {rs : List ResultVar} {vs : List Value} {v : Value} (hk : ∀ a w, FinM P fn R a w → K a w) (hr : fn.results.toList = rs) (h : Rs P w S rs vs) (ht : Tup vs v) (hR : R v w) : GoD K n [] S w := fun a hf => by
  rw [← ht.eq] at hR
  refine hk a w ?_
  unfold FinM
  rw [hf.defers]
  exact ⟨_, h.results hr hf, _, rfl, hR⟩
/-- .. behind one range -/
theorem fin1 {K : Act → World → Prop} {fn : Func} {R : Value → World → Prop} {rs : List ResultVar} {vs : List Value} {v : Value} {r0 : Nat} (hk : ∀ a w, FinM P fn R a w → K a w) (hr : fn.results.toList = rs) (hm : Mem w0 w X L) (j : Nat) (hj : blk L j = some (r0, dblk (some []))) (ht : Tup vs v)
    (h : ∀ w', Mem w0 w' X (setB L j (dblk none)) → Rs P w' S rs vs ∧ R v w') : GoD K n [mark r0] S w := fun a hf => by
  rw [← ht.eq] at h
  refine hk a w ?_
  unfold FinM
  rw [hf.defers]
  have hl : w.heap[r0]? = some (.deferred (some [])) := hm.get hj
  obtain ⟨h1, h2⟩ := h _ (hm.setObj (o' := .deferred none) hj)
  exact ⟨by simp, .inl ⟨r0, _, rfl, run_take hl, _, h1.results hr hf, _, rfl, h2⟩⟩
end
end Go.Cx
