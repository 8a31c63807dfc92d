/- The program logic of these proofs, part A: code, regions (in text order and in a drawn order), calls, loops, ranges over functions, at the wide fence. No condition. -/
import Derived.RangeFuncLeaves
import Derived.RangeFuncNested
import Derived.OrdersIn
import Derived.KernelRfl
import Derived.Tactics
namespace Go.Cx
set_option linter.unusedVariables false
set_option linter.unusedSimpArgs false
open Go

/-- The wide fence, for an activation (none) or a round of loop l (some l). -/
def Fw (r : Option Nat) : Fence := { fn := fun _ => True, depth := none, alive := false, round := r }

theorem calls_fw {r : Option Nat} {n : Nat} {P : Program} {f : FuncId} {args : Array Value} {w : World} {R : Ending → World → Prop} :
    CallsIn (Fw r) n P f args w R ↔ Calls P f args w R := callsIn_wide (n := n)

/-- Where a piece of code may end: normally, at a return, at an exit. It never panics. -/
structure Ks where
  norm : Act → World → Prop
  ret : Act → World → Prop
  ex : Nat → Act → World → Prop

def Ks.q (k : Ks) : Exit → Act → World → Prop
  | .normal => k.norm
  | .ret => k.ret
  | .exit i => k.ex i
  | _ => fun _ _ => False

def W (P : Program) (r : Option Nat) (c : Code) (k : Ks) (a : Act) (w : World) : Prop := Code.wpIn (Fw r) 0 P c k.q a w

def fstC : Code → Code | .seq a _ => a | c => c
def sndC : Code → Code | .seq _ b => b | c => c
def isSeq : Code → Bool | .seq _ _ => true | _ => false
def conC : Code → Option Operand | .cond c _ _ => some c | _ => none
def thnC : Code → Code | .cond _ a _ => a | c => c
def elsC : Code → Code | .cond _ _ b => b | c => c
def blkI : Code → Option Nat | .block i _ => some i | _ => none
def blkC : Code → Code | .block _ c => c | c => c
def lopC : Code → Option Code | .loop c => some c | _ => none
def lopB : Code → Code | .loop c => c | c => c
def extI : Code → Option Nat | .exit i => some i | _ => none
def isRet : Code → Bool | .ret => true | _ => false
def isSkip : Code → Bool | .skip => true | _ => false
def regO : Code → Option (Nat × Array Oper × Bool) | .region i o d => some (i, o, d) | _ => none
def opsC : Code → Array Oper | .region _ o _ => o | _ => #[]
def rngC : Code → Option (Operand × Array Tmp) | .rangeFunc g ps _ _ => some (g, ps) | _ => none
def rngA : Code → Code | .rangeFunc _ _ a _ => a | c => c
def rngB : Code → Code | .rangeFunc _ _ _ b => b | c => c
def bodC (fn : Func) : Code := fn.body.getD .skip

section
variable {P : Program} {r : Option Nat} {k : Ks} {a : Act} {w : World} {c : Code}

theorem W_mono {k' : Ks} (h : W P r c k a w) (hn : ∀ a w, k.norm a w → k'.norm a w) (hr : ∀ a w, k.ret a w → k'.ret a w) (he : ∀ i a w, k.ex i a w → k'.ex i a w) : W P r c k' a w :=
  wpIn_mono h fun e a w hq => by cases e <;> first | exact hn _ _ hq | exact hr _ _ hq | exact he _ _ _ hq | exact hq

theorem W_seq (hc : isSeq c = true) (h : W P r (fstC c) { k with norm := fun a w => W P r (sndC c) k a w } a w) : W P r c k a w := by
  cases c <;> simp [isSeq] at hc
  refine wpIn_seq (wpIn_mono h fun e a w hq => ?_)
  cases e <;> exact hq

theorem W_skip (hc : isSkip c = true) (h : k.norm a w) : W P r c k a w := by
  cases c <;> simp [isSkip] at hc
  exact wpIn_skip h

theorem W_ret (hc : isRet c = true) (h : k.ret a w) : W P r c k a w := by
  cases c <;> simp [isRet] at hc
  exact wpIn_ret h

theorem W_exit {i : Nat} (hc : extI c = some i) (h : k.ex i a w) : W P r c k a w := by
  cases c <;> simp [extI] at hc
  subst hc
  exact wpIn_exit h

theorem W_cond {x : Operand} {b : Bool} (hc : conC c = some x) (hb : a.eval x = .bool b) (ht : b = true → W P r (thnC c) k a w) (hf : b = false → W P r (elsC c) k a w) : W P r c k a w := by
  cases c <;> simp [conC] at hc
  subst hc
  exact wpIn_cond_split hb ht hf

theorem W_block {i : Nat} (hc : blkI c = some i) (h : W P r (blkC c) { k with ex := fun j a w => if j = i then k.norm a w else k.ex j a w } a w) : W P r c k a w := by
  cases c <;> simp [blkI] at hc
  subst hc
  refine wpIn_block (wpIn_mono h fun e a w hq => ?_)
  cases e <;> exact hq

theorem W_loop {b : Code} (hc : lopC c = some b) (I : Act → World → Prop) (μ : Act → World → Nat) (h0 : I a w)
    (round : ∀ a w, I a w → W P r (lopB c) { k with norm := fun a' w' => I a' w' ∧ μ a' w' < μ a w } a w) : W P r c k a w := by
  cases c <;> simp [lopC] at hc
  refine wpIn_loop I μ h0 fun a w hI => wpIn_mono (round a w hI) fun e a w hq => ?_
  cases e <;> exact hq
end

/-! ### Operations -/

/-- One operation. -/
def OpW (P : Program) (r : Option Nat) (k : Ks) (o : Oper) (K : Act → World → Prop) (a : Act) (w : World) : Prop :=
  o.uponIn (Fw r) 0 P a K k.q ((o.semAt r a.eval).run P w)

/-- Operation number i of a region, if it is wanted. -/
def OpG (P : Program) (r : Option Nat) (k : Ks) (ops : Array Oper) (i : Nat) (K : Act → World → Prop) (a : Act) (w : World) : Prop :=
  ∃ o, ops[i]? = some o ∧ (Region.wanted o (yielded ops a.tmps) = true → OpW P r k o K a w) ∧ (Region.wanted o (yielded ops a.tmps) = false → K (a.put o.dst undef) w)

section
variable {P : Program} {r : Option Nat} {k : Ks} {a : Act} {w : World} {ops : Array Oper}

theorem OpG.wpOpIn {i : Nat} {K : Act → World → Prop} (h : OpG P r k ops i K a w) : wpOpIn (Fw r) 0 P ops k.q i K a w := by
  obtain ⟨o, ho, h1, h2⟩ := h
  unfold Go.wpOpIn
  simp only [ho]
  split
  · rename_i hw
    exact ⟨fun _ _ => trivial, h1 hw⟩
  · rename_i hw
    exact ⟨fun _ _ => trivial, h2 (by simpa using hw)⟩

theorem OpW.mono {o : Oper} {K K' : Act → World → Prop} (h : OpW P r k o K a w) (hk : ∀ a w, K a w → K' a w) : OpW P r k o K' a w :=
  (Oper.wpIn_mono (F := Fw r) (n := 0) (Q := k.q) hk ⟨fun _ _ => trivial, h⟩).2

theorem OpG.mono {i : Nat} {K K' : Act → World → Prop} (h : OpG P r k ops i K a w) (hk : ∀ a w, K a w → K' a w) : OpG P r k ops i K' a w := by
  obtain ⟨o, ho, h1, h2⟩ := h
  exact ⟨o, ho, fun hw => (h1 hw).mono hk, fun hw => hk _ _ (h2 hw)⟩
end

/-- Sets of blocks. -/
abbrev Bs := Nat → Prop
abbrev No : Bs := fun _ => False
abbrev All : Bs := fun _ => True
abbrev Mn (l : List Nat) : Bs := fun k => k ∈ l

/-- w' is w with new blocks and, of the old ones, at most those of Y turned; the streams are as they were. -/
structure Ext (Y : Bs) (w w' : World) : Prop where
  os : w'.os = w.os
  tape : w'.tape = w.tape
  output : w'.output = w.output
  size : w.heap.size ≤ w'.heap.size
  same : ∀ k, k < w.heap.size → ¬ Y k → w'.heap[k]? = w.heap[k]?

theorem Ext.refl (Y : Bs) (w : World) : Ext Y w w := ⟨rfl, rfl, rfl, Nat.le_refl _, fun _ _ _ => rfl⟩
theorem Ext.trans {Y : Bs} {a b c : World} (h : Ext Y a b) (g : Ext Y b c) : Ext Y a c :=
  ⟨g.os.trans h.os, g.tape.trans h.tape, g.output.trans h.output, Nat.le_trans h.size g.size, fun k hk hY => (g.same k (Nat.lt_of_lt_of_le hk h.size) hY).trans (h.same k hk hY)⟩
theorem Ext.mono {Y Y' : Bs} {a b : World} (h : Ext Y a b) (hY : ∀ y, Y y → Y' y) : Ext Y' a b :=
  ⟨h.os, h.tape, h.output, h.size, fun k hk hk' => h.same k hk fun hm => hk' (hY k hm)⟩
theorem Ext.weak {Y : Bs} {a b : World} (h : Ext No a b) : Ext Y a b := h.mono fun _ h => h.elim
theorem Ext.drew {Y : Bs} (w : World) : Ext Y w { w with drawn := w.drawn + 1 } := ⟨rfl, rfl, rfl, Nat.le_refl _, fun _ _ _ => rfl⟩

/-- The worlds in which an operation that is taken first may truly come up. None: a region in text order: the world at hand. Some: a drawn region that began in this world and turns at most these blocks. -/
abbrev Md := Option (World × Bs)
def Near (md : Md) (w u : World) : Prop := match md with | none => u = w | some (b, Y) => Ext Y b u
def Hold (md : Md) (w : World) : Prop := match md with | none => True | some (b, Y) => Ext Y b w

theorem Near.self {md : Md} {w : World} (h : Hold md w) : Near md w w := by
  cases md with
  | none => rfl
  | some x => exact h
theorem Hold.ext {md : Md} {w w' : World} (h : Hold md w) (hx : Ext No w w') : Hold md w' := by
  cases md with
  | none => trivial
  | some x => exact Ext.trans h hx.weak

/-- The operation yields v in every such world and turns nothing. -/
def Yl (P : Program) (md : Md) (w : World) (a : Act) (o : Oper) (v : Value) : Prop :=
  ∀ u, Near md w u → (execOp a.eval o).run P u = .ok (.value v) u
def YlG (P : Program) (md : Md) (ops : Array Oper) (w : World) (a : Act) (o : Oper) (v : Value) : Prop :=
  (Region.wanted o (yielded ops a.tmps) = true → Yl P md w a o v) ∧ (Region.wanted o (yielded ops a.tmps) = false → v = undef)

/-- The order in which a region is walked: operations taken first (pure), operations that come up alone (act), or two or three that may come up in either order. -/
inductive Tr where
  | done
  | pure (i : Nat) (t : Tr)
  | act (i : Nat) (t : Tr)
  | act2 (i : Nat) (t : Tr) (j : Nat) (u : Tr)
  | act3 (i : Nat) (t : Tr) (j : Nat) (u : Tr) (l : Nat) (v : Tr)
  | cut (t : Tr)
  | opn (t : Tr)
  | acto (i : Nat) (t : Tr)

def RW (P : Program) (r : Option Nat) (k : Ks) (ops : Array Oper) : Md → Tr → Act → World → Prop
  | _, .cut t, a, w => RW P r k ops none t a w
  | _, .opn t, a, w => ∃ Y, RW P r k ops (some (w, Y)) t a w
  | _, .acto i t, a, w => OpG P r k ops i (fun a' w' => ∃ Y, RW P r k ops (some (w', Y)) t a' w') a w
  | md, .done, a, w => k.norm a w
  | md, .pure i t, a, w => ∃ o v, ops[i]? = some o ∧ YlG P md ops w a o v ∧ RW P r k ops md t (a.put o.dst v) w
  | md, .act i t, a, w => OpG P r k ops i (fun a' w' => Hold md w' ∧ RW P r k ops md t a' w') a w
  | md, .act2 i t j u, a, w => OpG P r k ops i (fun a' w' => Hold md w' ∧ RW P r k ops md t a' w') a w ∧ OpG P r k ops j (fun a' w' => Hold md w' ∧ RW P r k ops md u a' w') a w
  | md, .act3 i t j u l v, a, w => OpG P r k ops i (fun a' w' => Hold md w' ∧ RW P r k ops md t a' w') a w ∧ OpG P r k ops j (fun a' w' => Hold md w' ∧ RW P r k ops md u a' w') a w ∧
      OpG P r k ops l (fun a' w' => Hold md w' ∧ RW P r k ops md v a' w') a w

/-- The order is one that the region's edges allow: text order. -/
def okText (n : Nat) : Nat → Tr → Bool
  | i, .done => i == n
  | i, .pure j t => j == i && Nat.blt i n && okText n (i + 1) t
  | i, .act j t => j == i && Nat.blt i n && okText n (i + 1) t
  | _, _ => false

def plainOps (ops : Array Oper) : Bool := ops.all fun o => match o.op with | .defer _ => false | .select .. => false | _ => true

theorem semAt_of_plain {r : Option Nat} {ρ : Operand → Value} {o : Oper} (h : (match o.op with | .defer _ => false | .select .. => false | _ => true) = true) : o.semAt r ρ = execOp ρ o := by
  unfold Oper.semAt
  cases r <;> cases ho : o.op <;> simp_all

theorem plain_of {ops : Array Oper} (h : plainOps ops = true) {i : Nat} {o : Oper} (ho : ops[i]? = some o) : (match o.op with | .defer _ => false | .select .. => false | _ => true) = true :=
  Array.all_eq_true_iff_forall_mem.1 h o (Array.mem_of_getElem? ho)

section
variable {P : Program} {r : Option Nat} {k : Ks} {ops : Array Oper} {md : Md}

theorem YlG.opG {i : Nat} {o : Oper} {v : Value} {K : Act → World → Prop} {a : Act} {w : World} (hp : plainOps ops = true) (ho : ops[i]? = some o) (hS : Near md w w) (hy : YlG P md ops w a o v) (h : K (a.put o.dst v) w) :
    OpG P r k ops i K a w := by
  refine ⟨o, ho, fun hw => ?_, fun hw => ?_⟩
  · unfold OpW
    rw [semAt_of_plain (plain_of hp ho), hy.1 hw w hS]
    exact h
  · rw [← hy.2 hw]
    exact h

theorem RW.text (hp : plainOps ops = true) : ∀ (t : Tr) (i : Nat) (a : Act) (w : World), okText ops.size i t = true → RW P r k ops none t a w → wpOpsIn (Fw r) 0 P ops k.q (List.range' i (ops.size - i)) a w := by
  intro t
  induction t with
  | done =>
    intro i a w hok h
    have : ops.size - i = 0 := by simp [okText] at hok; omega
    rw [this]
    exact h
  | pure j t ih =>
    intro i a w hok h
    simp only [okText, Bool.and_eq_true, beq_iff_eq, Nat.blt_eq] at hok
    obtain ⟨⟨rfl, hlt⟩, hok⟩ := hok
    obtain ⟨o, v, ho, hy, hr⟩ := h
    rw [show ops.size - j = (ops.size - (j + 1)) + 1 by omega, List.range'_succ, wpOpsIn_cons]
    exact (YlG.opG (k := k) (md := none) hp ho (show Near none w w from rfl) hy (ih _ _ _ hok hr)).wpOpIn
  | act j t ih =>
    intro i a w hok h
    simp only [okText, Bool.and_eq_true, beq_iff_eq, Nat.blt_eq] at hok
    obtain ⟨⟨rfl, hlt⟩, hok⟩ := hok
    rw [show ops.size - j = (ops.size - (j + 1)) + 1 by omega, List.range'_succ, wpOpsIn_cons]
    exact (OpG.mono h fun a w h => ih _ _ _ hok h.2).wpOpIn
  | act2 => intro i a w hok; simp [okText] at hok
  | act3 => intro i a w hok; simp [okText] at hok
  | cut => intro i a w hok; simp [okText] at hok
  | opn => intro i a w hok; simp [okText] at hok
  | acto => intro i a w hok; simp [okText] at hok
end

/-- A region that runs in the order of the text. -/
theorem W_text {P : Program} {r : Option Nat} {k : Ks} {a : Act} {w : World} {c : Code} (t : Tr) (hc : (match c with | .region _ o d => !d && plainOps o && okText o.size 0 t | _ => false) = true)
    (h : RW P r k (opsC c) none t a w) : W P r c k a w := by
  cases c <;> simp at hc
  rename_i id o d
  obtain ⟨⟨hd, hp⟩, ht⟩ := hc
  subst hd
  have := RW.text hp t 0 a w ht h
  rw [Nat.sub_zero] at this
  exact wpIn_region (by rw [List.range_eq_range']; exact this)

/-! ### A region whose order is drawn -/

def memN (x : Nat) : List Nat → Bool
  | [] => false
  | y :: r => Nat.beq x y || memN x r
theorem memN_iff {x : Nat} : ∀ {l : List Nat}, memN x l = true ↔ x ∈ l
  | [] => by simp [memN]
  | y :: r => by simp [memN, memN_iff (l := r)]
/-- the operations that stand ahead of operation i, directly -/
def predsOf (ops : Array Oper) (i : Nat) : List Nat := match ops[i]? with
  | some o => (o.after.toList.filter fun e => Region.binds .any e).map (·.on)
  | none => []
/-- .. or through others -/
def closL (ops : Array Oper) : Nat → List Nat → List Nat → List Nat
  | 0, _, seen => seen
  | _ + 1, [], seen => seen
  | f + 1, x :: todo, seen => bif memN x seen then closL ops f todo seen else closL ops f (predsOf ops x ++ todo) (x :: seen)
/-- an operation that looks at no memory at all -/
def isMv (o : Oper) : Bool := match o.op with | .move _ => true | _ => false
def isMvI (ops : Array Oper) (i : Nat) : Bool := match ops[i]? with | some o => isMv o | none => false
/-- every other operation stands ahead of operation i or behind it, or is a mere move -/
def cutOp (ops : Array Oper) (i : Nat) : Bool :=
  (fun m => (List.range ops.size).all fun j => Nat.beq j i || isMvI ops j || memN j m || memN i (closL ops 4096 (predsOf ops j) [])) (closL ops 4096 (predsOf ops i) [])
/-- what stands ahead of a listed operation is listed -/
def Dc (ops : Array Oper) (ls : Array Bool) : Prop := ∀ x, ls.getD x false = true → ∀ y ∈ predsOf ops x, ls.getD y false = true
theorem closL_listed {ops : Array Oper} {ls : Array Bool} (hD : Dc ops ls) : ∀ (f : Nat) (todo seen : List Nat), (∀ x ∈ todo, ls.getD x false = true) → (∀ x ∈ seen, ls.getD x false = true) → ∀ x ∈ closL ops f todo seen, ls.getD x false = true
  | 0, _, _, _, hs => hs
  | _ + 1, [], _, _, hs => hs
  | f + 1, x :: todo, seen, ht, hs => by
    unfold closL
    have hx := ht x (by simp)
    cases hm : memN x seen with
    | true => exact closL_listed hD f todo seen (fun y hy => ht y (by simp [hy])) hs
    | false =>
      refine closL_listed hD f _ _ (fun y hy => ?_) (fun y hy => ?_)
      · rcases List.mem_append.1 hy with hy | hy
        · exact hD x hx y hy
        · exact ht y (by simp [hy])
      · rcases List.mem_cons.1 hy with rfl | hy
        · exact hx
        · exact hs y hy
theorem ready_preds {ops : Array Oper} {ls : Array Bool} {i : Nat} (h : i ∈ Region.ready .any ops ls) : ∀ y ∈ predsOf ops i, ls.getD y false = true := fun y hy => by
  obtain ⟨_, o, ho, hall⟩ := mem_ready.1 h
  unfold predsOf at hy
  rw [ho] at hy
  obtain ⟨e, he, rfl⟩ := List.mem_map.1 hy
  obtain ⟨he, hb⟩ := List.mem_filter.1 he
  exact hall e (by simpa using he) hb
theorem Dc.set {ops : Array Oper} {ls : Array Bool} {i : Nat} (hD : Dc ops ls) (h : i ∈ Region.ready .any ops ls) : Dc ops (ls.setIfInBounds i true) := fun x hx y hy => by
  by_cases hxi : i = x
  · subst hxi; exact getD_set_true (ready_preds h y hy)
  · rw [getD_set_ne false hxi] at hx
    exact getD_set_true (hD x hx y hy)
theorem Dc.start (ops : Array Oper) : Dc ops (Array.replicate ops.size false) := fun x hx => by
  have : (Array.replicate ops.size false).getD x false = false := by
    simp only [Array.getD_eq_getD_getElem?, Array.getElem?_replicate]
    split <;> rfl
  rw [this] at hx; cases hx
theorem cut_false {ops : Array Oper} {ls : Array Bool} {i j : Nat} (hD : Dc ops ls) (hi : i ∈ Region.ready .any ops ls) (hj : j ∈ Region.ready .any ops ls) (hne : j ≠ i) (hmv : isMvI ops i = false) : cutOp ops j = false := by
  cases hc : cutOp ops j with
  | false => rfl
  | true =>
    have h0 := (mem_ready.1 hi).1
    have h1 := (mem_ready.1 hj).1
    obtain ⟨_, o, ho, _⟩ := mem_ready.1 hi
    have hlt : i < ops.size := (Array.getElem?_eq_some_iff.1 ho).1
    have un : ∀ k : Nat, ls.getD k true = false → ls.getD k false = true → False := fun k h h' => by
      simp only [Array.getD_eq_getD_getElem?] at h h'
      cases hk : ls[k]? with
      | none => rw [hk] at h; cases h
      | some b => rw [hk] at h h'; simp only [Option.getD_some] at h h'; rw [h] at h'; cases h'
    unfold cutOp at hc
    rw [List.all_eq_true] at hc
    have := hc i (List.mem_range.2 hlt)
    simp only [hmv, Bool.or_false, Bool.or_eq_true, Nat.beq_eq] at this
    rcases this with (h | h) | h
    · exact absurd h.symm hne
    · exact (un i h0 (closL_listed hD _ _ _ (ready_preds hj) (by simp) i (memN_iff.1 h))).elim
    · exact (un j h1 (closL_listed hD _ _ _ (ready_preds hi) (by simp) j (memN_iff.1 h))).elim

/-- Whatever order is picked from here on, and 'Hold' behind every operation that is carried out and beside which another one may come up. -/
def AnyW (P : Program) (r : Option Nat) (k : Ks) (ops : Array Oper) : Nat → World × Bs → Array Bool → Act → World → Prop
  | 0, _, ls, a, w => Region.ready .any ops ls = [] ∧ k.norm a w
  | n + 1, b, ls, a, w => (Region.ready .any ops ls = [] → k.norm a w) ∧
    ∀ i ∈ Region.ready .any ops ls, OpG P r k ops i (fun a' w' => ∃ b' : World × Bs, (cutOp ops i = false → b' = b ∧ ((isMvI ops i = true → Hold (some b) w) → Hold (some b) w')) ∧ AnyW P r k ops n b' (ls.setIfInBounds i true) a' w') a w

/-- From here on every operation comes up alone, the others standing ahead of it or behind it. -/
def okCut (ops : Array Oper) : Nat → Array Bool → Tr → Bool
  | _, ls, .done => (Region.ready .any ops ls).isEmpty
  | n + 1, ls, .pure i t => Region.ready .any ops ls == [i] && cutOp ops i && okCut ops n (ls.setIfInBounds i true) t
  | n + 1, ls, .act i t => Region.ready .any ops ls == [i] && cutOp ops i && okCut ops n (ls.setIfInBounds i true) t
  | _, _, _ => false

def okAny (ops : Array Oper) : Nat → Array Bool → Tr → Bool
  | n, ls, .cut t => okCut ops n ls t
  | _, ls, .done => (Region.ready .any ops ls).isEmpty
  | n + 1, ls, .pure i t => (Region.ready .any ops ls).contains i && Region.free .any ops ls i && okAny ops n (ls.setIfInBounds i true) t
  | n + 1, ls, .act i t => Region.ready .any ops ls == [i] && okAny ops n (ls.setIfInBounds i true) t
  | n + 1, ls, .act2 i t j u => Region.ready .any ops ls == [i, j] && okAny ops n (ls.setIfInBounds i true) t && okAny ops n (ls.setIfInBounds j true) u
  | n + 1, ls, .act3 i t j u l v => Region.ready .any ops ls == [i, j, l] && okAny ops n (ls.setIfInBounds i true) t && okAny ops n (ls.setIfInBounds j true) u && okAny ops n (ls.setIfInBounds l true) v
  | n + 1, ls, .acto i t => Region.ready .any ops ls == [i] && cutOp ops i && okAny ops n (ls.setIfInBounds i true) t
  | 0, _, _ => false
  | _, _, .opn _ => false
/-- operations that all others stand behind, then a drawn rest from the world that they leave -/
def okPre (ops : Array Oper) : Nat → Array Bool → Tr → Bool
  | n, ls, .opn t => okAny ops n ls t
  | n + 1, ls, .pure i t => Region.ready .any ops ls == [i] && okPre ops n (ls.setIfInBounds i true) t
  | n + 1, ls, .act i t => Region.ready .any ops ls == [i] && okPre ops n (ls.setIfInBounds i true) t
  | _, _, _ => false

section
variable {P : Program} {r : Option Nat} {k : Ks} {ops : Array Oper} {b : World × Bs}

theorem AnyW.wpAnyIn : ∀ (n : Nat) (b : World × Bs) (ls : Array Bool) (a : Act) (w : World), AnyW P r k ops n b ls a w → wpAnyIn (Fw r) 0 P .any ops k.q n ls a w
  | 0, _, _, _, _, h => h
  | n + 1, _, _, _, _, h => ⟨h.1, fun i hi => ((h.2 i hi).mono fun a' w' h' => (let ⟨b', _, h''⟩ := h'; AnyW.wpAnyIn n b' _ a' w' h'')).wpOpIn⟩

theorem YlG.put {oi oj : Oper} {v : Value} {a : Act} {w w' : World} (hs : ∀ cs b, oi.op ≠ .select cs b) (h3 : ∀ d, oj.dst = some d → d ∉ oi.looksAt ops) (u : Value) (hy : YlG P (some b) ops w a oi v) :
    YlG P (some b) ops w' (a.put oj.dst u) oi v := by
  unfold YlG Yl at *
  rw [wanted_put oi a oj.dst u h3, execOp_put oi hs a oj.dst u h3]
  exact hy

theorem plain_sel {o : Oper} (h : (match o.op with | .defer _ => false | .select .. => false | _ => true) = true) (cs : Array SelectCase) (b : Bool) : o.op ≠ .select cs b := by
  intro e; simp [e] at h

theorem OpG.put {j : Nat} {oi oj : Oper} {v : Value} {K : Act → World → Prop} {a : Act} {w : World} (hp : plainOps ops = true) {i : Nat} (hoi : ops[i]? = some oi) (hoj : ops[j]? = some oj) (hap : oi.apart ops oj = true)
    (hy : YlG P (some b) ops w a oi v) (h : OpG P r k ops j K (a.put oi.dst v) w) : OpG P r k ops j (fun a' w' => YlG P (some b) ops w' a' oi v ∧ K (a'.put oi.dst v) w') a w := by
  obtain ⟨h1, h2, h3⟩ := Oper.apart_spec hap
  have hsi := plain_sel (plain_of hp hoi)
  have hsj := plain_sel (plain_of hp hoj)
  obtain ⟨o, ho, hw1, hw2⟩ := h
  rw [hoj] at ho
  cases ho
  rw [wanted_put oj a oi.dst v h1] at hw1 hw2
  refine ⟨oj, hoj, fun hw => ?_, fun hw => ?_⟩
  · have hw1 := hw1 hw
    unfold OpW at *
    rw [semAt_of_plain (plain_of hp hoj)] at *
    rw [execOp_put oj hsj a oi.dst v h1] at hw1
    generalize (execOp a.eval oj).run P w = x at *
    cases x with
    | ok x w' =>
      cases x <;> simp only [Oper.uponIn] at hw1 ⊢
      case value u => exact ⟨hy.put hsi h3 u, by rw [← Act.put_comm a v u h2]; exact hw1⟩
      case skip => exact ⟨hy.put hsi h3 _, by rw [← Act.put_comm a v undef h2]; exact hw1⟩
      case defer d =>
        refine ⟨YlG.put (a := { a with defers := d :: a.defers }) hsi h3 _ hy, ?_⟩
        rw [← Act.put_comm _ v undef h2, ← Act.put_defers]
        exact hw1
      case enter f args =>
        refine ⟨hw1.1, CallsIn.mono hw1.2 fun e w'' he => ?_⟩
        cases e with
        | returned u => exact ⟨hy.put hsi h3 u, by rw [← Act.put_comm a v u h2]; exact he⟩
        | panicked c => exact he
        | outgrown => exact he
      case row row args => exact ⟨hw1.1, RowsIn.mono hw1.2 fun u w'' he => ⟨hy.put hsi h3 u, by rw [← Act.put_comm a v u h2]; exact he⟩⟩
      case round =>
        refine ⟨hw1.1, RoundIn.mono hw1.2 fun e w'' he => ?_⟩
        cases e with
        | returned u => exact ⟨hy.put hsi h3 u, by rw [← Act.put_comm a v u h2]; exact he⟩
        | panicked c => exact he
        | outgrown => exact he
    | halt x w' =>
      cases x <;> simp only [Oper.uponIn] at hw1 ⊢
      case panic u => exact hw1
  · exact ⟨hy.put hsi h3 _, by rw [← Act.put_comm a v undef h2]; exact hw2 hw⟩

theorem YlG.mv {o : Oper} {v : Value} {a : Act} {w w' : World} {md : Md} (hm : isMv o = true) (hy : YlG P (some b) ops w a o v) : YlG P md ops w' a o v := by
  obtain ⟨dst, op, ty, pos, af, g⟩ := o
  cases op <;> simp [isMv] at hm
  rename_i x
  refine ⟨fun hw u _ => ?_, hy.2⟩
  have h1 := hy.1 hw b.1 (Ext.refl _ _)
  simp only [execOp] at h1 ⊢
  have e : a.eval x = v := by simpa using h1
  rw [e]; rfl

theorem AnyW.first {i : Nat} {oi : Oper} {v : Value} (hp : plainOps ops = true) (hi : ops[i]? = some oi) : ∀ (n : Nat) (b : World × Bs) (ls : Array Bool) (a : Act) (w : World),
    (∀ j oj, ops[j]? = some oj → j ≠ i → ls.getD j true = false → (∀ e ∈ oj.after, Region.binds .any e = true → e.on ≠ i) → oi.apart ops oj = true) →
    Dc ops ls → i ∈ Region.ready .any ops ls → YlG P (some b) ops w a oi v → (isMv oi = false → Hold (some b) w) →
    AnyW P r k ops n b (ls.setIfInBounds i true) (a.put oi.dst v) w → AnyW P r k ops (n + 1) b ls a w := by
  intro n
  induction n with
  | zero =>
    intro b ls a w _ hD hr hy hS H
    refine ⟨fun h => (by rw [h] at hr; cases hr), fun j hj => ?_⟩
    by_cases hji : j = i
    · subst hji
      cases hmv : isMv oi with
      | false => exact YlG.opG (md := some b) hp hi (Near.self (hS hmv)) hy ⟨b, fun _ => ⟨rfl, fun _ => hS hmv⟩, H⟩
      | true => exact YlG.opG (md := none) hp hi rfl (hy.mv hmv) ⟨b, fun _ => ⟨rfl, fun hw => hw (by simp only [isMvI, hi, hmv])⟩, H⟩
    · have := ready_mono hj hji
      rw [H.1] at this
      cases this
  | succ n ih =>
    intro b ls a w hfree hD hr hy hS H
    refine ⟨fun h => (by rw [h] at hr; cases hr), fun j hj => ?_⟩
    by_cases hji : j = i
    · subst hji
      cases hmv : isMv oi with
      | false => exact YlG.opG (md := some b) hp hi (Near.self (hS hmv)) hy ⟨b, fun _ => ⟨rfl, fun _ => hS hmv⟩, H⟩
      | true => exact YlG.opG (md := none) hp hi rfl (hy.mv hmv) ⟨b, fun _ => ⟨rfl, fun hw => hw (by simp only [isMvI, hi, hmv])⟩, H⟩
    · have h1 := H.2 j (ready_mono hj hji)
      obtain ⟨hjun, oj, hoj, hall⟩ := mem_ready.1 hj
      have hnot : ∀ e ∈ oj.after, Region.binds .any e = true → e.on ≠ i := fun e he hb heq => by
        have h1 := hall e he hb
        have h0 := (mem_ready.1 hr).1
        rw [heq] at h1
        rcases Nat.lt_or_ge i ls.size with h' | h'
        · simp [h'] at h0 h1; rw [h0] at h1; cases h1
        · simp [Array.getElem?_eq_none h'] at h1
      have h2 := OpG.put hp hi hoj (hfree j oj hoj hji hjun hnot) hy h1
      have hfree' : ∀ k ok, ops[k]? = some ok → k ≠ i → (ls.setIfInBounds j true).getD k true = false →
          (∀ e ∈ ok.after, Region.binds .any e = true → e.on ≠ i) → oi.apart ops ok = true := fun k ok hk hki hun hno => by
        refine hfree k ok hk hki ?_ hno
        by_cases hjk : j = k
        · subst hjk; exact hjun
        · rw [getD_set_ne true hjk] at hun; exact hun
      refine h2.mono fun a' w' h3 => ?_
      obtain ⟨hy', b', hc, hA⟩ := h3
      have hcf := fun hmv : isMv oi = false => hc (cut_false hD hr hj hji (by simp only [isMvI, hi, hmv]))
      refine ⟨b', hc, ih b' (ls.setIfInBounds j true) a' w' hfree' (hD.set hj) (ready_mono hr (Ne.symm hji)) ?_ (fun hmv => ?_) ?_⟩
      · cases hmv : isMv oi with
        | false => rw [(hcf hmv).1]; exact hy'
        | true => exact hy'.mv hmv
      · rw [(hcf hmv).1]; exact (hcf hmv).2 (fun _ => hS hmv)
      · rw [Array.setIfInBounds_comm _ _ hji]
        exact hA

theorem RW.cut (hp : plainOps ops = true) : ∀ (t : Tr) (n : Nat) (ls : Array Bool) (a : Act) (w : World), okCut ops n ls t = true → RW P r k ops none t a w → AnyW P r k ops n b ls a w := by
  intro t
  induction t with
  | done =>
    intro n ls a w hok h
    have hr : Region.ready .any ops ls = [] := by cases n <;> simpa [okCut, List.isEmpty_iff] using hok
    cases n with
    | zero => exact ⟨hr, h⟩
    | succ n => exact ⟨fun _ => h, by rw [hr]; simp⟩
  | pure i t ih =>
    intro n ls a w hok h
    cases n with
    | zero => simp [okCut] at hok
    | succ n =>
      simp only [okCut, Bool.and_eq_true, beq_iff_eq] at hok
      obtain ⟨o, v, ho, hy, hr⟩ := h
      refine ⟨fun h0 => (by rw [hok.1.1] at h0; cases h0), fun j hj => ?_⟩
      rw [hok.1.1] at hj
      cases List.mem_singleton.1 hj
      exact YlG.opG (k := k) (md := none) hp ho rfl hy ⟨b, fun hc => (by rw [hok.1.2] at hc; cases hc), ih _ _ _ _ hok.2 hr⟩
  | act i t ih =>
    intro n ls a w hok h
    cases n with
    | zero => simp [okCut] at hok
    | succ n =>
      simp only [okCut, Bool.and_eq_true, beq_iff_eq] at hok
      refine ⟨fun h0 => (by rw [hok.1.1] at h0; cases h0), fun j hj => ?_⟩
      rw [hok.1.1] at hj
      cases List.mem_singleton.1 hj
      exact OpG.mono h fun a' w' h' => ⟨b, fun hc => (by rw [hok.1.2] at hc; cases hc), ih _ _ _ _ hok.2 h'.2⟩
  | act2 i t j u _ _ => intro n ls a w hok; cases n <;> simp [okCut] at hok
  | act3 i t j u l v _ _ _ => intro n ls a w hok; cases n <;> simp [okCut] at hok
  | cut t _ => intro n ls a w hok; cases n <;> simp [okCut] at hok
  | opn t _ => intro n ls a w hok; cases n <;> simp [okCut] at hok
  | acto i t _ => intro n ls a w hok; cases n <;> simp [okCut] at hok

theorem RW.any (hp : plainOps ops = true) : ∀ (t : Tr) (n : Nat) (b : World × Bs) (ls : Array Bool) (a : Act) (w : World), okAny ops n ls t = true → Dc ops ls → Hold (some b) w → RW P r k ops (some b) t a w → AnyW P r k ops n b ls a w := by
  intro t
  induction t with
  | done =>
    intro n b ls a w hok hD hS h
    have hr : Region.ready .any ops ls = [] := by cases n <;> simpa [okAny, List.isEmpty_iff] using hok
    cases n with
    | zero => exact ⟨hr, h⟩
    | succ n => exact ⟨fun _ => h, by rw [hr]; simp⟩
  | pure i t ih =>
    intro n b ls a w hok hD hS h
    obtain ⟨o, v, ho, hy, hr⟩ := h
    cases n with
    | zero => simp [okAny] at hok
    | succ n =>
      simp only [okAny, Bool.and_eq_true] at hok
      have hir : i ∈ Region.ready .any ops ls := by simpa using hok.1.1
      exact AnyW.first hp ho n b ls a w (fun j oj hj => Region.free_spec ho hok.1.2 j oj hj) hD hir hy (fun _ => hS) (ih _ _ _ _ _ hok.2 (hD.set hir) hS hr)
  | act i t ih =>
    intro n b ls a w hok hD hS h
    cases n with
    | zero => simp [okAny] at hok
    | succ n =>
      simp only [okAny, Bool.and_eq_true, beq_iff_eq] at hok
      refine ⟨fun h0 => (by rw [hok.1] at h0; cases h0), fun j hj => ?_⟩
      have hd := hD.set hj
      rw [hok.1] at hj
      cases List.mem_singleton.1 hj
      exact OpG.mono h fun a' w' h' => ⟨b, fun _ => ⟨rfl, fun _ => h'.1⟩, ih _ _ _ _ _ hok.2 hd h'.1 h'.2⟩
  | act2 i t j u ih1 ih2 =>
    intro n b ls a w hok hD hS h
    cases n with
    | zero => simp [okAny] at hok
    | succ n =>
      simp only [okAny, Bool.and_eq_true, beq_iff_eq] at hok
      obtain ⟨⟨hr, o1⟩, o2⟩ := hok
      refine ⟨fun h0 => (by rw [hr] at h0; cases h0), fun l hl => ?_⟩
      have hd := hD.set hl
      rw [hr] at hl
      rcases List.mem_cons.1 hl with rfl | hl
      · exact OpG.mono h.1 fun a' w' h' => ⟨b, fun _ => ⟨rfl, fun _ => h'.1⟩, ih1 _ _ _ _ _ o1 hd h'.1 h'.2⟩
      · cases List.mem_singleton.1 hl
        exact OpG.mono h.2 fun a' w' h' => ⟨b, fun _ => ⟨rfl, fun _ => h'.1⟩, ih2 _ _ _ _ _ o2 hd h'.1 h'.2⟩
  | act3 i t j u l v ih1 ih2 ih3 =>
    intro n b ls a w hok hD hS h
    cases n with
    | zero => simp [okAny] at hok
    | succ n =>
      simp only [okAny, Bool.and_eq_true, beq_iff_eq] at hok
      obtain ⟨⟨⟨hr, o1⟩, o2⟩, o3⟩ := hok
      refine ⟨fun h0 => (by rw [hr] at h0; cases h0), fun m hm => ?_⟩
      have hd := hD.set hm
      rw [hr] at hm
      rcases List.mem_cons.1 hm with rfl | hm
      · exact OpG.mono h.1 fun a' w' h' => ⟨b, fun _ => ⟨rfl, fun _ => h'.1⟩, ih1 _ _ _ _ _ o1 hd h'.1 h'.2⟩
      · rcases List.mem_cons.1 hm with rfl | hm
        · exact OpG.mono h.2.1 fun a' w' h' => ⟨b, fun _ => ⟨rfl, fun _ => h'.1⟩, ih2 _ _ _ _ _ o2 hd h'.1 h'.2⟩
        · cases List.mem_singleton.1 hm
          exact OpG.mono h.2.2 fun a' w' h' => ⟨b, fun _ => ⟨rfl, fun _ => h'.1⟩, ih3 _ _ _ _ _ o3 hd h'.1 h'.2⟩
  | cut t _ =>
    intro n b ls a w hok hD hS h
    exact RW.cut hp t n ls a w (by cases n <;> exact hok) h
  | opn t _ => intro n b ls a w hok; cases n <;> simp [okAny] at hok
  | acto i t ih =>
    intro n b ls a w hok hD hS h
    cases n with
    | zero => simp [okAny] at hok
    | succ n =>
      simp only [okAny, Bool.and_eq_true, beq_iff_eq] at hok
      refine ⟨fun h0 => (by rw [hok.1.1] at h0; cases h0), fun j hj => ?_⟩
      have hd := hD.set hj
      rw [hok.1.1] at hj
      cases List.mem_singleton.1 hj
      refine OpG.mono h fun a' w' h' => ?_
      obtain ⟨Y, h'⟩ := h'
      exact ⟨(w', Y), fun hc => (by rw [hok.1.2] at hc; cases hc), ih _ _ _ _ _ hok.2 hd (Ext.refl _ _) h'⟩
theorem RW.pre (hp : plainOps ops = true) : ∀ (t : Tr) (n : Nat) (ls : Array Bool) (a : Act) (w : World), okPre ops n ls t = true → Dc ops ls → RW P r k ops none t a w → wpAnyIn (Fw r) 0 P .any ops k.q n ls a w := by
  intro t
  induction t with
  | pure i t ih =>
    intro n ls a w hok hD h
    cases n with
    | zero => simp [okPre] at hok
    | succ n =>
      simp only [okPre, Bool.and_eq_true, beq_iff_eq] at hok
      obtain ⟨o, v, ho, hy, hr⟩ := h
      refine ⟨fun h0 => (by rw [hok.1] at h0; cases h0), fun j hj => ?_⟩
      have hd := hD.set hj
      rw [hok.1] at hj
      cases List.mem_singleton.1 hj
      exact (YlG.opG (k := k) (md := none) hp ho rfl hy (ih _ _ _ _ hok.2 hd hr)).wpOpIn
  | act i t ih =>
    intro n ls a w hok hD h
    cases n with
    | zero => simp [okPre] at hok
    | succ n =>
      simp only [okPre, Bool.and_eq_true, beq_iff_eq] at hok
      refine ⟨fun h0 => (by rw [hok.1] at h0; cases h0), fun j hj => ?_⟩
      have hd := hD.set hj
      rw [hok.1] at hj
      cases List.mem_singleton.1 hj
      exact (OpG.mono h fun a' w' h' => ih _ _ _ _ hok.2 hd h'.2).wpOpIn
  | opn t _ =>
    intro n ls a w hok hD h
    obtain ⟨Y, h⟩ := h
    exact AnyW.wpAnyIn _ _ _ _ _ (RW.any hp t _ (w, Y) _ _ _ (by cases n <;> exact hok) hD (Ext.refl _ _) h)
  | done => intro n ls a w hok; cases n <;> simp [okPre] at hok
  | act2 i t j u _ _ => intro n ls a w hok; cases n <;> simp [okPre] at hok
  | act3 i t j u l v _ _ _ => intro n ls a w hok; cases n <;> simp [okPre] at hok
  | cut t _ => intro n ls a w hok; cases n <;> simp [okPre] at hok
  | acto i t _ => intro n ls a w hok; cases n <;> simp [okPre] at hok
end

/-- A region whose order is drawn: Y: the blocks that it may turn. -/
theorem W_draw {P : Program} {r : Option Nat} {k : Ks} {a : Act} {w : World} {c : Code} (t : Tr) (Y : Bs) (hm : P.follows .mixedOrders = true)
    (hc : (match c with | .region _ o d => d && plainOps o && okAny o o.size (Array.replicate o.size false) t | _ => false) = true)
    (h : ∀ w', Ext Y w w' → w'.heap = w.heap → RW P r k (opsC c) (some (w', Y)) t a w') : W P r c k a w := by
  cases c <;> simp at hc
  rename_i id o d
  obtain ⟨⟨hd, hp⟩, ht⟩ := hc
  subst hd
  refine wpIn_region_any hm ?_
  exact AnyW.wpAnyIn _ ({ w with drawn := w.drawn + 1 }, Y) _ _ _ (RW.any hp t _ _ _ _ _ ht (Dc.start _) (Ext.refl _ _) (h _ (Ext.drew w) rfl))
/-- A region whose order is drawn, after operations that all others stand behind. -/
theorem W_pre {P : Program} {r : Option Nat} {k : Ks} {a : Act} {w : World} {c : Code} (t : Tr) (hm : P.follows .mixedOrders = true)
    (hc : (match c with | .region _ o d => d && plainOps o && okPre o o.size (Array.replicate o.size false) t | _ => false) = true)
    (h : ∀ w', Ext No w w' → w'.heap = w.heap → RW P r k (opsC c) none t a w') : W P r c k a w := by
  cases c <;> simp at hc
  rename_i id o d
  obtain ⟨⟨hd, hp⟩, ht⟩ := hc
  subst hd
  refine wpIn_region_any hm ?_
  exact RW.pre hp t _ _ _ _ ht (Dc.start _) (h _ (Ext.drew w) rfl)
end Go.Cx
