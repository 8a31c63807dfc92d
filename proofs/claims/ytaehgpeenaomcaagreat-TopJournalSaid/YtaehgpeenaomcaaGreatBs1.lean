/- The program logic of these proofs and the plain laws of the layers below, part 1. No condition. -/
import Derived.ChangeKeysEq
import Derived.KernelRfl
import Derived.Laws.Append
import Derived.Laws.Cells
import Derived.Laws.CopyRow
import Derived.Laws.Entries
import Derived.Laws.IdiomStrings
import Derived.Laws.MakeOwn
import Derived.Laws.Sem
import Derived.Laws.StructEq
import Derived.Laws.Tables
import Derived.Laws.World
import Derived.OrdersIn
import Derived.RangeFuncLeaves
import Derived.RangeFuncNested
import Derived.Tactics
namespace Go.Cx
set_option linter.unusedVariables false
set_option linter.unusedSimpArgs false
open Go

/-- The wide fence, for an activation (none) or a round of loop l (some l). -/
def Fw (r : Option Nat) : Fence := { fn := fun _ => True, depth := none, alive := false, round := r }

theorem calls_fw {r : Option Nat} {n : Nat} {P : Program} {f : FuncId} {args : Array Value} {w : World} {R : Ending → World → Prop} :
    CallsIn (Fw r) n P f args w R ↔ Calls P f args w R := callsIn_wide (n := n)

/-- Where a piece of code may end: normally, at a return, at an exit. It never panics. -/
structure Ks where
  norm : Act → World → Prop
  ret : Act → World → Prop
  ex : Nat → Act → World → Prop

def Ks.q (k : Ks) : Exit → Act → World → Prop
  | .normal => k.norm
  | .ret => k.ret
  | .exit i => k.ex i
  | _ => fun _ _ => False

def W (P : Program) (r : Option Nat) (c : Code) (k : Ks) (a : Act) (w : World) : Prop := Code.wpIn (Fw r) 0 P c k.q a w

def fstC : Code → Code | .seq a _ => a | c => c
def sndC : Code → Code | .seq _ b => b | c => c
def isSeq : Code → Bool | .seq _ _ => true | _ => false
def conC : Code → Option Operand | .cond c _ _ => some c | _ => none
def thnC : Code → Code | .cond _ a _ => a | c => c
def elsC : Code → Code | .cond _ _ b => b | c => c
def blkI : Code → Option Nat | .block i _ => some i | _ => none
def blkC : Code → Code | .block _ c => c | c => c
def lopC : Code → Option Code | .loop c => some c | _ => none
def lopB : Code → Code | .loop c => c | c => c
def extI : Code → Option Nat | .exit i => some i | _ => none
def isRet : Code → Bool | .ret => true | _ => false
def isSkip : Code → Bool | .skip => true | _ => false
def regO : Code → Option (Nat × Array Oper × Bool) | .region i o d => some (i, o, d) | _ => none
def opsC : Code → Array Oper | .region _ o _ => o | _ => #[]
def rngC : Code → Option (Operand × Array Tmp) | .rangeFunc g ps _ _ => some (g, ps) | _ => none
def rngA : Code → Code | .rangeFunc _ _ a _ => a | c => c
def rngB : Code → Code | .rangeFunc _ _ _ b => b | c => c
def bodC (fn : Func) : Code := fn.body.getD .skip

section
variable {P : Program} {r : Option Nat} {k : Ks} {a : Act} {w : World} {c : Code}

theorem W_mono {k' : Ks} (h : W P r c k a w) (hn : ∀ a w, k.norm a w → k'.norm a w) (hr : ∀ a w, k.ret a w → k'.ret a w) (he : ∀ i a w, k.ex i a w → k'.ex i a w) : W P r c k' a w :=
  wpIn_mono h fun e a w hq => by cases e <;> first | exact hn _ _ hq | exact hr _ _ hq | exact he _ _ _ hq | exact hq

theorem W_seq (hc : isSeq c = true) (h : W P r (fstC c) { k with norm := fun a w => W P r (sndC c) k a w } a w) : W P r c k a w := by
  cases c <;> simp [isSeq] at hc
  refine wpIn_seq (wpIn_mono h fun e a w hq => ?_)
  cases e <;> exact hq

theorem W_skip (hc : isSkip c = true) (h : k.norm a w) : W P r c k a w := by
  cases c <;> simp [isSkip] at hc
  exact wpIn_skip h

theorem W_ret (hc : isRet c = true) (h : k.ret a w) : W P r c k a w := by
  cases c <;> simp [isRet] at hc
  exact wpIn_ret h

theorem W_exit {i : Nat} (hc : extI c = some i) (h : k.ex i a w) : W P r c k a w := by
  cases c <;> simp [extI] at hc
  subst hc
  exact wpIn_exit h

theorem W_cond {x : Operand} {b : Bool} (hc : conC c = some x) (hb : a.eval x = .bool b) (ht : b = true → W P r (thnC c) k a w) (hf : b = false → W P r (elsC c) k a w) : W P r c k a w := by
  cases c <;> simp [conC] at hc
  subst hc
  exact wpIn_cond_split hb ht hf

theorem W_block {i : Nat} (hc : blkI c = some i) (h : W P r (blkC c) { k with ex := fun j a w => if j = i then k.norm a w else k.ex j a w } a w) : W P r c k a w := by
  cases c <;> simp [blkI] at hc
  subst hc
  refine wpIn_block (wpIn_mono h fun e a w hq => ?_)
  cases e <;> exact hq

theorem W_loop {b : Code} (hc : lopC c = some b) (I : Act → World → Prop) (μ : Act → World → Nat) (h0 : I a w)
    (round : ∀ a w, I a w → W P r (lopB c) { k with norm := fun a' w' => I a' w' ∧ μ a' w' < μ a w } a w) : W P r c k a w := by
  cases c <;> simp [lopC] at hc
  refine wpIn_loop I μ h0 fun a w hI => wpIn_mono (round a w hI) fun e a w hq => ?_
  cases e <;> exact hq
end

/-! ### Operations -/

/-- One operation. -/
def OpW (P : Program) (r : Option Nat) (k : Ks) (o : Oper) (K : Act → World → Prop) (a : Act) (w : World) : Prop :=
  o.uponIn (Fw r) 0 P a K k.q ((o.semAt r a.eval).run P w)

/-- Operation number i of a region, if it is wanted. -/
def OpG (P : Program) (r : Option Nat) (k : Ks) (ops : Array Oper) (i : Nat) (K : Act → World → Prop) (a : Act) (w : World) : Prop :=
  ∃ o, ops[i]? = some o ∧ (Region.wanted o (yielded ops a.tmps) = true → OpW P r k o K a w) ∧ (Region.wanted o (yielded ops a.tmps) = false → K (a.put o.dst undef) w)

section
variable {P : Program} {r : Option Nat} {k : Ks} {a : Act} {w : World} {ops : Array Oper}

theorem OpG.wpOpIn {i : Nat} {K : Act → World → Prop} (h : OpG P r k ops i K a w) : wpOpIn (Fw r) 0 P ops k.q i K a w := by
  obtain ⟨o, ho, h1, h2⟩ := h
  unfold Go.wpOpIn
  simp only [ho]
  split
  · rename_i hw
    exact ⟨fun _ _ => trivial, h1 hw⟩
  · rename_i hw
    exact ⟨fun _ _ => trivial, h2 (by simpa using hw)⟩

theorem OpW.mono {o : Oper} {K K' : Act → World → Prop} (h : OpW P r k o K a w) (hk : ∀ a w, K a w → K' a w) : OpW P r k o K' a w :=
  (Oper.wpIn_mono (F := Fw r) (n := 0) (Q := k.q) hk ⟨fun _ _ => trivial, h⟩).2

theorem OpG.mono {i : Nat} {K K' : Act → World → Prop} (h : OpG P r k ops i K a w) (hk : ∀ a w, K a w → K' a w) : OpG P r k ops i K' a w := by
  obtain ⟨o, ho, h1, h2⟩ := h
  exact ⟨o, ho, fun hw => (h1 hw).mono hk, fun hw => hk _ _ (h2 hw)⟩
end

/-- Sets of blocks. -/
abbrev Bs := Nat → Prop
abbrev No : Bs := fun _ => False
abbrev All : Bs := fun _ => True
abbrev Mn (l : List Nat) : Bs := fun k => k ∈ l

/-- w' is w with new blocks and, of the old ones, at most those of Y turned; the streams are as they were. -/
structure Ext (Y : Bs) (w w' : World) : Prop where
  os : w'.os = w.os
  tape : w'.tape = w.tape
  output : w'.output = w.output
  size : w.heap.size ≤ w'.heap.size
  same : ∀ k, k < w.heap.size → ¬ Y k → w'.heap[k]? = w.heap[k]?

theorem Ext.refl (Y : Bs) (w : World) : Ext Y w w := ⟨rfl, rfl, rfl, Nat.le_refl _, fun _ _ _ => rfl⟩
theorem Ext.trans {Y : Bs} {a b c : World} (h : Ext Y a b) (g : Ext Y b c) : Ext Y a c :=
  ⟨g.os.trans h.os, g.tape.trans h.tape, g.output.trans h.output, Nat.le_trans h.size g.size, fun k hk hY => (g.same k (Nat.lt_of_lt_of_le hk h.size) hY).trans (h.same k hk hY)⟩
theorem Ext.mono {Y Y' : Bs} {a b : World} (h : Ext Y a b) (hY : ∀ y, Y y → Y' y) : Ext Y' a b :=
  ⟨h.os, h.tape, h.output, h.size, fun k hk hk' => h.same k hk fun hm => hk' (hY k hm)⟩
theorem Ext.weak {Y : Bs} {a b : World} (h : Ext No a b) : Ext Y a b := h.mono fun _ h => h.elim
theorem Ext.drew {Y : Bs} (w : World) : Ext Y w { w with drawn := w.drawn + 1 } := ⟨rfl, rfl, rfl, Nat.le_refl _, fun _ _ _ => rfl⟩

/-- The worlds in which an operation that is taken first may truly come up. None: a region in text order: the world at hand. Some: a drawn region that began in this world and turns at most these blocks. -/
abbrev Md := Option (World × Bs)
def Near (md : Md) (w u : World) : Prop := match md with | none => u = w | some (b, Y) => Ext Y b u
def Hold (md : Md) (w : World) : Prop := match md with | none => True | some (b, Y) => Ext Y b w

theorem Near.self {md : Md} {w : World} (h : Hold md w) : Near md w w := by
  cases md with
  | none => rfl
  | some x => exact h
theorem Hold.ext {md : Md} {w w' : World} (h : Hold md w) (hx : Ext No w w') : Hold md w' := by
  cases md with
  | none => trivial
  | some x => exact Ext.trans h hx.weak

/-- The operation yields v in every such world and turns nothing. -/
def Yl (P : Program) (md : Md) (w : World) (a : Act) (o : Oper) (v : Value) : Prop :=
  ∀ u, Near md w u → (execOp a.eval o).run P u = .ok (.value v) u
def YlG (P : Program) (md : Md) (ops : Array Oper) (w : World) (a : Act) (o : Oper) (v : Value) : Prop :=
  (Region.wanted o (yielded ops a.tmps) = true → Yl P md w a o v) ∧ (Region.wanted o (yielded ops a.tmps) = false → v = undef)

/-- The order in which a region is walked: operations taken first (pure), operations that come up alone (act), or two or three that may come up in either order. -/
inductive Tr where
  | done
  | pure (i : Nat) (t : Tr)
  | act (i : Nat) (t : Tr)
  | act2 (i : Nat) (t : Tr) (j : Nat) (u : Tr)
  | act3 (i : Nat) (t : Tr) (j : Nat) (u : Tr) (l : Nat) (v : Tr)
  | cut (t : Tr)
  | opn (t : Tr)
  | acto (i : Nat) (t : Tr)

def RW (P : Program) (r : Option Nat) (k : Ks) (ops : Array Oper) : Md → Tr → Act → World → Prop
  | _, .cut t, a, w => RW P r k ops none t a w
  | _, .opn t, a, w => ∃ Y, RW P r k ops (some (w, Y)) t a w
  | _, .acto i t, a, w => OpG P r k ops i (fun a' w' => ∃ Y, RW P r k ops (some (w', Y)) t a' w') a w
  | md, .done, a, w => k.norm a w
  | md, .pure i t, a, w => ∃ o v, ops[i]? = some o ∧ YlG P md ops w a o v ∧ RW P r k ops md t (a.put o.dst v) w
  | md, .act i t, a, w => OpG P r k ops i (fun a' w' => Hold md w' ∧ RW P r k ops md t a' w') a w
  | md, .act2 i t j u, a, w => OpG P r k ops i (fun a' w' => Hold md w' ∧ RW P r k ops md t a' w') a w ∧ OpG P r k ops j (fun a' w' => Hold md w' ∧ RW P r k ops md u a' w') a w
  | md, .act3 i t j u l v, a, w => OpG P r k ops i (fun a' w' => Hold md w' ∧ RW P r k ops md t a' w') a w ∧ OpG P r k ops j (fun a' w' => Hold md w' ∧ RW P r k ops md u a' w') a w ∧
      OpG P r k ops l (fun a' w' => Hold md w' ∧ RW P r k ops md v a' w') a w

/-- The order is one that the region's edges allow: text order. -/
def okText (n : Nat) : Nat → Tr → Bool
  | i, .done => i == n
  | i, .pure j t => j == i && Nat.blt i n && okText n (i + 1) t
  | i, .act j t => j == i && Nat.blt i n && okText n (i + 1) t
  | _, _ => false

def plainOps (ops : Array Oper) : Bool := ops.all fun o => match o.op with | .defer _ => false | .select .. => false | _ => true

theorem semAt_of_plain {r : Option Nat} {ρ : Operand → Value} {o : Oper} (h : (match o.op with | .defer _ => false | .select .. => false | _ => true) = true) : o.semAt r ρ = execOp ρ o := by
  unfold Oper.semAt
  cases r <;> cases ho : o.op <;> simp_all

theorem plain_of {ops : Array Oper} (h : plainOps ops = true) {i : Nat} {o : Oper} (ho : ops[i]? = some o) : (match o.op with | .defer _ => false | .select .. => false | _ => true) = true :=
  Array.all_eq_true_iff_forall_mem.1 h o (Array.mem_of_getElem? ho)

section
variable {P : Program} {r : Option Nat} {k : Ks} {ops : Array Oper} {md : Md}

theorem YlG.opG {i : Nat} {o : Oper} {v : Value} {K : Act → World → Prop} {a : Act} {w : World} (hp : plainOps ops = true) (ho : ops[i]? = some o) (hS : Near md w w) (hy : YlG P md ops w a o v) (h : K (a.put o.dst v) w) :
    OpG P r k ops i K a w := by
  refine ⟨o, ho, fun hw => ?_, fun hw => ?_⟩
  · unfold OpW
    rw [semAt_of_plain (plain_of hp ho), hy.1 hw w hS]
    exact h
  · rw [← hy.2 hw]
    exact h

theorem RW.text (hp : plainOps ops = true) : ∀ (t : Tr) (i : Nat) (a : Act) (w : World), okText ops.size i t = true → RW P r k ops none t a w → wpOpsIn (Fw r) 0 P ops k.q (List.range' i (ops.size - i)) a w := by
  intro t
  induction t with
  | done =>
    intro i a w hok h
    have : ops.size - i = 0 := by simp [okText] at hok; omega
    rw [this]
    exact h
  | pure j t ih =>
    intro i a w hok h
    simp only [okText, Bool.and_eq_true, beq_iff_eq, Nat.blt_eq] at hok
    obtain ⟨⟨rfl, hlt⟩, hok⟩ := hok
    obtain ⟨o, v, ho, hy, hr⟩ := h
    rw [show ops.size - j = (ops.size - (j + 1)) + 1 by omega, List.range'_succ, wpOpsIn_cons]
    exact (YlG.opG (k := k) (md := none) hp ho (show Near none w w from rfl) hy (ih _ _ _ hok hr)).wpOpIn
  | act j t ih =>
    intro i a w hok h
    simp only [okText, Bool.and_eq_true, beq_iff_eq, Nat.blt_eq] at hok
    obtain ⟨⟨rfl, hlt⟩, hok⟩ := hok
    rw [show ops.size - j = (ops.size - (j + 1)) + 1 by omega, List.range'_succ, wpOpsIn_cons]
    exact (OpG.mono h fun a w h => ih _ _ _ hok h.2).wpOpIn
  | act2 => intro i a w hok; simp [okText] at hok
  | act3 => intro i a w hok; simp [okText] at hok
  | cut => intro i a w hok; simp [okText] at hok
  | opn => intro i a w hok; simp [okText] at hok
  | acto => intro i a w hok; simp [okText] at hok
end

/-- A region that runs in the order of the text. -/
theorem W_text {P : Program} {r : Option Nat} {k : Ks} {a : Act} {w : World} {c : Code} (t : Tr) (hc : (match c with | .region _ o d => !d && plainOps o && okText o.size 0 t | _ => false) = true)
    (h : RW P r k (opsC c) none t a w) : W P r c k a w := by
  cases c <;> simp at hc
  rename_i id o d
  obtain ⟨⟨hd, hp⟩, ht⟩ := hc
  subst hd
  have := RW.text hp t 0 a w ht h
  rw [Nat.sub_zero] at this
  exact wpIn_region (by rw [List.range_eq_range']; exact this)

/-! ### A region whose order is drawn -/

def memN (x : Nat) : List Nat → Bool
  | [] => false
  | y :: r => Nat.beq x y || memN x r
theorem memN_iff {x : Nat} : ∀ {l : List Nat}, memN x l = true ↔ x ∈ l
  | [] => by simp [memN]
  | y :: r => by simp [memN, memN_iff (l := r)]
/-- the operations that stand ahead of operation i, directly -/
def predsOf (ops : Array Oper) (i : Nat) : List Nat := match ops[i]? with
  | some o => (o.after.toList.filter fun e => Region.binds .any e).map (·.on)
  | none => []
/-- .. or through others -/
def closL (ops : Array Oper) : Nat → List Nat → List Nat → List Nat
  | 0, _, seen => seen
  | _ + 1, [], seen => seen
  | f + 1, x :: todo, seen => bif memN x seen then closL ops f todo seen else closL ops f (predsOf ops x ++ todo) (x :: seen)
/-- an operation that looks at no memory at all -/
def isMv (o : Oper) : Bool := match o.op with | .move _ => true | _ => false
def isMvI (ops : Array Oper) (i : Nat) : Bool := match ops[i]? with | some o => isMv o | none => false
/-- every other operation stands ahead of operation i or behind it, or is a mere move -/
def cutOp (ops : Array Oper) (i : Nat) : Bool :=
  (fun m => (List.range ops.size).all fun j => Nat.beq j i || isMvI ops j || memN j m || memN i (closL ops 4096 (predsOf ops j) [])) (closL ops 4096 (predsOf ops i) [])
/-- what stands ahead of a listed operation is listed -/
def Dc (ops : Array Oper) (ls : Array Bool) : Prop := ∀ x, ls.getD x false = true → ∀ y ∈ predsOf ops x, ls.getD y false = true
theorem closL_listed {ops : Array Oper} {ls : Array Bool} (hD : Dc ops ls) : ∀ (f : Nat) (todo seen : List Nat), (∀ x ∈ todo, ls.getD x false = true) → (∀ x ∈ seen, ls.getD x false = true) → ∀ x ∈ closL ops f todo seen, ls.getD x false = true
  | 0, _, _, _, hs => hs
  | _ + 1, [], _, _, hs => hs
  | f + 1, x :: todo, seen, ht, hs => by
    unfold closL
    have hx := ht x (by simp)
    cases hm : memN x seen with
    | true => exact closL_listed hD f todo seen (fun y hy => ht y (by simp [hy])) hs
    | false =>
      refine closL_listed hD f _ _ (fun y hy => ?_) (fun y hy => ?_)
      · rcases List.mem_append.1 hy with hy | hy
        · exact hD x hx y hy
        · exact ht y (by simp [hy])
      · rcases List.mem_cons.1 hy with rfl | hy
        · exact hx
        · exact hs y hy
theorem ready_preds {ops : Array Oper} {ls : Array Bool} {i : Nat} (h : i ∈ Region.ready .any ops ls) : ∀ y ∈ predsOf ops i, ls.getD y false = true := fun y hy => by
  obtain ⟨_, o, ho, hall⟩ := mem_ready.1 h
  unfold predsOf at hy
  rw [ho] at hy
  obtain ⟨e, he, rfl⟩ := List.mem_map.1 hy
  obtain ⟨he, hb⟩ := List.mem_filter.1 he
  exact hall e (by simpa using he) hb
theorem Dc.set {ops : Array Oper} {ls : Array Bool} {i : Nat} (hD : Dc ops ls) (h : i ∈ Region.ready .any ops ls) : Dc ops (ls.setIfInBounds i true) := fun x hx y hy => by
  by_cases hxi : i = x
  · subst hxi; exact getD_set_true (ready_preds h y hy)
  · rw [getD_set_ne false hxi] at hx
    exact getD_set_true (hD x hx y hy)
theorem Dc.start (ops : Array Oper) : Dc ops (Array.replicate ops.size false) := fun x hx => by
  have : (Array.replicate ops.size false).getD x false = false := by
    simp only [Array.getD_eq_getD_getElem?, Array.getElem?_replicate]
    split <;> rfl
  rw [this] at hx; cases hx
theorem cut_false {ops : Array Oper} {ls : Array Bool} {i j : Nat} (hD : Dc ops ls) (hi : i ∈ Region.ready .any ops ls) (hj : j ∈ Region.ready .any ops ls) (hne : j ≠ i) (hmv : isMvI ops i = false) : cutOp ops j = false := by
  cases hc : cutOp ops j with
  | false => rfl
  | true =>
    have h0 := (mem_ready.1 hi).1
    have h1 := (mem_ready.1 hj).1
    obtain ⟨_, o, ho, _⟩ := mem_ready.1 hi
    have hlt : i < ops.size := (Array.getElem?_eq_some_iff.1 ho).1
    have un : ∀ k : Nat, ls.getD k true = false → ls.getD k false = true → False := fun k h h' => by
      simp only [Array.getD_eq_getD_getElem?] at h h'
      cases hk : ls[k]? with
      | none => rw [hk] at h; cases h
      | some b => rw [hk] at h h'; simp only [Option.getD_some] at h h'; rw [h] at h'; cases h'
    unfold cutOp at hc
    rw [List.all_eq_true] at hc
    have := hc i (List.mem_range.2 hlt)
    simp only [hmv, Bool.or_false, Bool.or_eq_true, Nat.beq_eq] at this
    rcases this with (h | h) | h
    · exact absurd h.symm hne
    · exact (un i h0 (closL_listed hD _ _ _ (ready_preds hj) (by simp) i (memN_iff.1 h))).elim
    · exact (un j h1 (closL_listed hD _ _ _ (ready_preds hi) (by simp) j (memN_iff.1 h))).elim

/-- Whatever order is picked from here on, and 'Hold' behind every operation that is carried out and beside which another one may come up. -/
def AnyW (P : Program) (r : Option Nat) (k : Ks) (ops : Array Oper) : Nat → World × Bs → Array Bool → Act → World → Prop
  | 0, _, ls, a, w => Region.ready .any ops ls = [] ∧ k.norm a w
  | n + 1, b, ls, a, w => (Region.ready .any ops ls = [] → k.norm a w) ∧
    ∀ i ∈ Region.ready .any ops ls, OpG P r k ops i (fun a' w' => ∃ b' : World × Bs, (cutOp ops i = false → b' = b ∧ ((isMvI ops i = true → Hold (some b) w) → Hold (some b) w')) ∧ AnyW P r k ops n b' (ls.setIfInBounds i true) a' w') a w

/-- From here on every operation comes up alone, the others standing ahead of it or behind it. -/
def okCut (ops : Array Oper) : Nat → Array Bool → Tr → Bool
  | _, ls, .done => (Region.ready .any ops ls).isEmpty
  | n + 1, ls, .pure i t => Region.ready .any ops ls == [i] && cutOp ops i && okCut ops n (ls.setIfInBounds i true) t
  | n + 1, ls, .act i t => Region.ready .any ops ls == [i] && cutOp ops i && okCut ops n (ls.setIfInBounds i true) t
  | _, _, _ => false

def okAny (ops : Array Oper) : Nat → Array Bool → Tr → Bool
  | n, ls, .cut t => okCut ops n ls t
  | _, ls, .done => (Region.ready .any ops ls).isEmpty
  | n + 1, ls, .pure i t => (Region.ready .any ops ls).contains i && Region.free .any ops ls i && okAny ops n (ls.setIfInBounds i true) t
  | n + 1, ls, .act i t => Region.ready .any ops ls == [i] && okAny ops n (ls.setIfInBounds i true) t
  | n + 1, ls, .act2 i t j u => Region.ready .any ops ls == [i, j] && okAny ops n (ls.setIfInBounds i true) t && okAny ops n (ls.setIfInBounds j true) u
  | n + 1, ls, .act3 i t j u l v => Region.ready .any ops ls == [i, j, l] && okAny ops n (ls.setIfInBounds i true) t && okAny ops n (ls.setIfInBounds j true) u && okAny ops n (ls.setIfInBounds l true) v
  | n + 1, ls, .acto i t => Region.ready .any ops ls == [i] && cutOp ops i && okAny ops n (ls.setIfInBounds i true) t
  | 0, _, _ => false
  | _, _, .opn _ => false
/-- operations that all others stand behind, then a drawn rest from the world that they leave -/
def okPre (ops : Array Oper) : Nat → Array Bool → Tr → Bool
  | n, ls, .opn t => okAny ops n ls t
  | n + 1, ls, .pure i t => Region.ready .any ops ls == [i] && okPre ops n (ls.setIfInBounds i true) t
  | n + 1, ls, .act i t => Region.ready .any ops ls == [i] && okPre ops n (ls.setIfInBounds i true) t
  | _, _, _ => false

section
variable {P : Program} {r : Option Nat} {k : Ks} {ops : Array Oper} {b : World × Bs}

theorem AnyW.wpAnyIn : ∀ (n : Nat) (b : World × Bs) (ls : Array Bool) (a : Act) (w : World), AnyW P r k ops n b ls a w → wpAnyIn (Fw r) 0 P .any ops k.q n ls a w
  | 0, _, _, _, _, h => h
  | n + 1, _, _, _, _, h => ⟨h.1, fun i hi => ((h.2 i hi).mono fun a' w' h' => (let ⟨b', _, h''⟩ := h'; AnyW.wpAnyIn n b' _ a' w' h'')).wpOpIn⟩

theorem YlG.put {oi oj : Oper} {v : Value} {a : Act} {w w' : World} (hs : ∀ cs b, oi.op ≠ .select cs b) (h3 : ∀ d, oj.dst = some d → d ∉ oi.looksAt ops) (u : Value) (hy : YlG P (some b) ops w a oi v) :
    YlG P (some b) ops w' (a.put oj.dst u) oi v := by
  unfold YlG Yl at *
  rw [wanted_put oi a oj.dst u h3, execOp_put oi hs a oj.dst u h3]
  exact hy

theorem plain_sel {o : Oper} (h : (match o.op with | .defer _ => false | .select .. => false | _ => true) = true) (cs : Array SelectCase) (b : Bool) : o.op ≠ .select cs b := by
  intro e; simp [e] at h

theorem OpG.put {j : Nat} {oi oj : Oper} {v : Value} {K : Act → World → Prop} {a : Act} {w : World} (hp : plainOps ops = true) {i : Nat} (hoi : ops[i]? = some oi) (hoj : ops[j]? = some oj) (hap : oi.apart ops oj = true)
    (hy : YlG P (some b) ops w a oi v) (h : OpG P r k ops j K (a.put oi.dst v) w) : OpG P r k ops j (fun a' w' => YlG P (some b) ops w' a' oi v ∧ K (a'.put oi.dst v) w') a w := by
  obtain ⟨h1, h2, h3⟩ := Oper.apart_spec hap
  have hsi := plain_sel (plain_of hp hoi)
  have hsj := plain_sel (plain_of hp hoj)
  obtain ⟨o, ho, hw1, hw2⟩ := h
  rw [hoj] at ho
  cases ho
  rw [wanted_put oj a oi.dst v h1] at hw1 hw2
  refine ⟨oj, hoj, fun hw => ?_, fun hw => ?_⟩
  · have hw1 := hw1 hw
    unfold OpW at *
    rw [semAt_of_plain (plain_of hp hoj)] at *
    rw [execOp_put oj hsj a oi.dst v h1] at hw1
    generalize (execOp a.eval oj).run P w = x at *
    cases x with
    | ok x w' =>
      cases x <;> simp only [Oper.uponIn] at hw1 ⊢
      case value u => exact ⟨hy.put hsi h3 u, by rw [← Act.put_comm a v u h2]; exact hw1⟩
      case skip => exact ⟨hy.put hsi h3 _, by rw [← Act.put_comm a v undef h2]; exact hw1⟩
      case defer d =>
        refine ⟨YlG.put (a := { a with defers := d :: a.defers }) hsi h3 _ hy, ?_⟩
        rw [← Act.put_comm _ v undef h2, ← Act.put_defers]
        exact hw1
      case enter f args =>
        refine ⟨hw1.1, CallsIn.mono hw1.2 fun e w'' he => ?_⟩
        cases e with
        | returned u => exact ⟨hy.put hsi h3 u, by rw [← Act.put_comm a v u h2]; exact he⟩
        | panicked c => exact he
        | outgrown => exact he
      case row row args => exact ⟨hw1.1, RowsIn.mono hw1.2 fun u w'' he => ⟨hy.put hsi h3 u, by rw [← Act.put_comm a v u h2]; exact he⟩⟩
      case round =>
        refine ⟨hw1.1, RoundIn.mono hw1.2 fun e w'' he => ?_⟩
        cases e with
        | returned u => exact ⟨hy.put hsi h3 u, by rw [← Act.put_comm a v u h2]; exact he⟩
        | panicked c => exact he
        | outgrown => exact he
    | halt x w' =>
      cases x <;> simp only [Oper.uponIn] at hw1 ⊢
      case panic u => exact hw1
  · exact ⟨hy.put hsi h3 _, by rw [← Act.put_comm a v undef h2]; exact hw2 hw⟩

theorem YlG.mv {o : Oper} {v : Value} {a : Act} {w w' : World} {md : Md} (hm : isMv o = true) (hy : YlG P (some b) ops w a o v) : YlG P md ops w' a o v := by
  obtain ⟨dst, op, ty, pos, af, g⟩ := o
  cases op <;> simp [isMv] at hm
  rename_i x
  refine ⟨fun hw u _ => ?_, hy.2⟩
  have h1 := hy.1 hw b.1 (Ext.refl _ _)
  simp only [execOp] at h1 ⊢
  have e : a.eval x = v := by simpa using h1
  rw [e]; rfl

theorem AnyW.first {i : Nat} {oi : Oper} {v : Value} (hp : plainOps ops = true) (hi : ops[i]? = some oi) : ∀ (n : Nat) (b : World × Bs) (ls : Array Bool) (a : Act) (w : World),
    (∀ j oj, ops[j]? = some oj → j ≠ i → ls.getD j true = false → (∀ e ∈ oj.after, Region.binds .any e = true → e.on ≠ i) → oi.apart ops oj = true) →
    Dc ops ls → i ∈ Region.ready .any ops ls → YlG P (some b) ops w a oi v → (isMv oi = false → Hold (some b) w) →
    AnyW P r k ops n b (ls.setIfInBounds i true) (a.put oi.dst v) w → AnyW P r k ops (n + 1) b ls a w := by
  intro n
  induction n with
  | zero =>
    intro b ls a w _ hD hr hy hS H
    refine ⟨fun h => (by rw [h] at hr; cases hr), fun j hj => ?_⟩
    by_cases hji : j = i
    · subst hji
      cases hmv : isMv oi with
      | false => exact YlG.opG (md := some b) hp hi (Near.self (hS hmv)) hy ⟨b, fun _ => ⟨rfl, fun _ => hS hmv⟩, H⟩
      | true => exact YlG.opG (md := none) hp hi rfl (hy.mv hmv) ⟨b, fun _ => ⟨rfl, fun hw => hw (by simp only [isMvI, hi, hmv])⟩, H⟩
    · have := ready_mono hj hji
      rw [H.1] at this
      cases this
  | succ n ih =>
    intro b ls a w hfree hD hr hy hS H
    refine ⟨fun h => (by rw [h] at hr; cases hr), fun j hj => ?_⟩
    by_cases hji : j = i
    · subst hji
      cases hmv : isMv oi with
      | false => exact YlG.opG (md := some b) hp hi (Near.self (hS hmv)) hy ⟨b, fun _ => ⟨rfl, fun _ => hS hmv⟩, H⟩
      | true => exact YlG.opG (md := none) hp hi rfl (hy.mv hmv) ⟨b, fun _ => ⟨rfl, fun hw => hw (by simp only [isMvI, hi, hmv])⟩, H⟩
    · have h1 := H.2 j (ready_mono hj hji)
      obtain ⟨hjun, oj, hoj, hall⟩ := mem_ready.1 hj
      have hnot : ∀ e ∈ oj.after, Region.binds .any e = true → e.on ≠ i := fun e he hb heq => by
        have h1 := hall e he hb
        have h0 := (mem_ready.1 hr).1
        rw [heq] at h1
        rcases Nat.lt_or_ge i ls.size with h' | h'
        · simp [h'] at h0 h1; rw [h0] at h1; cases h1
        · simp [Array.getElem?_eq_none h'] at h1
      have h2 := OpG.put hp hi hoj (hfree j oj hoj hji hjun hnot) hy h1
      have hfree' : ∀ k ok, ops[k]? = some ok → k ≠ i → (ls.setIfInBounds j true).getD k true = false →
          (∀ e ∈ ok.after, Region.binds .any e = true → e.on ≠ i) → oi.apart ops ok = true := fun k ok hk hki hun hno => by
        refine hfree k ok hk hki ?_ hno
        by_cases hjk : j = k
        · subst hjk; exact hjun
        · rw [getD_set_ne true hjk] at hun; exact hun
      refine h2.mono fun a' w' h3 => ?_
      obtain ⟨hy', b', hc, hA⟩ := h3
      have hcf := fun hmv : isMv oi = false => hc (cut_false hD hr hj hji (by simp only [isMvI, hi, hmv]))
      refine ⟨b', hc, ih b' (ls.setIfInBounds j true) a' w' hfree' (hD.set hj) (ready_mono hr (Ne.symm hji)) ?_ (fun hmv => ?_) ?_⟩
      · cases hmv : isMv oi with
        | false => rw [(hcf hmv).1]; exact hy'
        | true => exact hy'.mv hmv
      · rw [(hcf hmv).1]; exact (hcf hmv).2 (fun _ => hS hmv)
      · rw [Array.setIfInBounds_comm _ _ hji]
        exact hA

theorem RW.cut (hp : plainOps ops = true) : ∀ (t : Tr) (n : Nat) (ls : Array Bool) (a : Act) (w : World), okCut ops n ls t = true → RW P r k ops none t a w → AnyW P r k ops n b ls a w := by
  intro t
  induction t with
  | done =>
    intro n ls a w hok h
    have hr : Region.ready .any ops ls = [] := by cases n <;> simpa [okCut, List.isEmpty_iff] using hok
    cases n with
    | zero => exact ⟨hr, h⟩
    | succ n => exact ⟨fun _ => h, by rw [hr]; simp⟩
  | pure i t ih =>
    intro n ls a w hok h
    cases n with
    | zero => simp [okCut] at hok
    | succ n =>
      simp only [okCut, Bool.and_eq_true, beq_iff_eq] at hok
      obtain ⟨o, v, ho, hy, hr⟩ := h
      refine ⟨fun h0 => (by rw [hok.1.1] at h0; cases h0), fun j hj => ?_⟩
      rw [hok.1.1] at hj
      cases List.mem_singleton.1 hj
      exact YlG.opG (k := k) (md := none) hp ho rfl hy ⟨b, fun hc => (by rw [hok.1.2] at hc; cases hc), ih _ _ _ _ hok.2 hr⟩
  | act i t ih =>
    intro n ls a w hok h
    cases n with
    | zero => simp [okCut] at hok
    | succ n =>
      simp only [okCut, Bool.and_eq_true, beq_iff_eq] at hok
      refine ⟨fun h0 => (by rw [hok.1.1] at h0; cases h0), fun j hj => ?_⟩
      rw [hok.1.1] at hj
      cases List.mem_singleton.1 hj
      exact OpG.mono h fun a' w' h' => ⟨b, fun hc => (by rw [hok.1.2] at hc; cases hc), ih _ _ _ _ hok.2 h'.2⟩
  | act2 i t j u _ _ => intro n ls a w hok; cases n <;> simp [okCut] at hok
  | act3 i t j u l v _ _ _ => intro n ls a w hok; cases n <;> simp [okCut] at hok
  | cut t _ => intro n ls a w hok; cases n <;> simp [okCut] at hok
  | opn t _ => intro n ls a w hok; cases n <;> simp [okCut] at hok
  | acto i t _ => intro n ls a w hok; cases n <;> simp [okCut] at hok

theorem RW.any (hp : plainOps ops = true) : ∀ (t : Tr) (n : Nat) (b : World × Bs) (ls : Array Bool) (a : Act) (w : World), okAny ops n ls t = true → Dc ops ls → Hold (some b) w → RW P r k ops (some b) t a w → AnyW P r k ops n b ls a w := by
  intro t
  induction t with
  | done =>
    intro n b ls a w hok hD hS h
    have hr : Region.ready .any ops ls = [] := by cases n <;> simpa [okAny, List.isEmpty_iff] using hok
    cases n with
    | zero => exact ⟨hr, h⟩
    | succ n => exact ⟨fun _ => h, by rw [hr]; simp⟩
  | pure i t ih =>
    intro n b ls a w hok hD hS h
    obtain ⟨o, v, ho, hy, hr⟩ := h
    cases n with
    | zero => simp [okAny] at hok
    | succ n =>
      simp only [okAny, Bool.and_eq_true] at hok
      have hir : i ∈ Region.ready .any ops ls := by simpa using hok.1.1
      exact AnyW.first hp ho n b ls a w (fun j oj hj => Region.free_spec ho hok.1.2 j oj hj) hD hir hy (fun _ => hS) (ih _ _ _ _ _ hok.2 (hD.set hir) hS hr)
  | act i t ih =>
    intro n b ls a w hok hD hS h
    cases n with
    | zero => simp [okAny] at hok
    | succ n =>
      simp only [okAny, Bool.and_eq_true, beq_iff_eq] at hok
      refine ⟨fun h0 => (by rw [hok.1] at h0; cases h0), fun j hj => ?_⟩
      have hd := hD.set hj
      rw [hok.1] at hj
      cases List.mem_singleton.1 hj
      exact OpG.mono h fun a' w' h' => ⟨b, fun _ => ⟨rfl, fun _ => h'.1⟩, ih _ _ _ _ _ hok.2 hd h'.1 h'.2⟩
  | act2 i t j u ih1 ih2 =>
    intro n b ls a w hok hD hS h
    cases n with
    | zero => simp [okAny] at hok
    | succ n =>
      simp only [okAny, Bool.and_eq_true, beq_iff_eq] at hok
      obtain ⟨⟨hr, o1⟩, o2⟩ := hok
      refine ⟨fun h0 => (by rw [hr] at h0; cases h0), fun l hl => ?_⟩
      have hd := hD.set hl
      rw [hr] at hl
      rcases List.mem_cons.1 hl with rfl | hl
      · exact OpG.mono h.1 fun a' w' h' => ⟨b, fun _ => ⟨rfl, fun _ => h'.1⟩, ih1 _ _ _ _ _ o1 hd h'.1 h'.2⟩
      · cases List.mem_singleton.1 hl
        exact OpG.mono h.2 fun a' w' h' => ⟨b, fun _ => ⟨rfl, fun _ => h'.1⟩, ih2 _ _ _ _ _ o2 hd h'.1 h'.2⟩
  | act3 i t j u l v ih1 ih2 ih3 =>
    intro n b ls a w hok hD hS h
    cases n with
    | zero => simp [okAny] at hok
    | succ n =>
      simp only [okAny, Bool.and_eq_true, beq_iff_eq] at hok
      obtain ⟨⟨⟨hr, o1⟩, o2⟩, o3⟩ := hok
      refine ⟨fun h0 => (by rw [hr] at h0; cases h0), fun m hm => ?_⟩
      have hd := hD.set hm
      rw [hr] at hm
      rcases List.mem_cons.1 hm with rfl | hm
      · exact OpG.mono h.1 fun a' w' h' => ⟨b, fun _ => ⟨rfl, fun _ => h'.1⟩, ih1 _ _ _ _ _ o1 hd h'.1 h'.2⟩
      · rcases List.mem_cons.1 hm with rfl | hm
        · exact OpG.mono h.2.1 fun a' w' h' => ⟨b, fun _ => ⟨rfl, fun _ => h'.1⟩, ih2 _ _ _ _ _ o2 hd h'.1 h'.2⟩
        · cases List.mem_singleton.1 hm
          exact OpG.mono h.2.2 fun a' w' h' => ⟨b, fun _ => ⟨rfl, fun _ => h'.1⟩, ih3 _ _ _ _ _ o3 hd h'.1 h'.2⟩
  | cut t _ =>
    intro n b ls a w hok hD hS h
    exact RW.cut hp t n ls a w (by cases n <;> exact hok) h
  | opn t _ => intro n b ls a w hok; cases n <;> simp [okAny] at hok
  | acto i t ih =>
    intro n b ls a w hok hD hS h
    cases n with
    | zero => simp [okAny] at hok
    | succ n =>
      simp only [okAny, Bool.and_eq_true, beq_iff_eq] at hok
      refine ⟨fun h0 => (by rw [hok.1.1] at h0; cases h0), fun j hj => ?_⟩
      have hd := hD.set hj
      rw [hok.1.1] at hj
      cases List.mem_singleton.1 hj
      refine OpG.mono h fun a' w' h' => ?_
      obtain ⟨Y, h'⟩ := h'
      exact ⟨(w', Y), fun hc => (by rw [hok.1.2] at hc; cases hc), ih _ _ _ _ _ hok.2 hd (Ext.refl _ _) h'⟩
theorem RW.pre (hp : plainOps ops = true) : ∀ (t : Tr) (n : Nat) (ls : Array Bool) (a : Act) (w : World), okPre ops n ls t = true → Dc ops ls → RW P r k ops none t a w → wpAnyIn (Fw r) 0 P .any ops k.q n ls a w := by
  intro t
  induction t with
  | pure i t ih =>
    intro n ls a w hok hD h
    cases n with
    | zero => simp [okPre] at hok
    | succ n =>
      simp only [okPre, Bool.and_eq_true, beq_iff_eq] at hok
      obtain ⟨o, v, ho, hy, hr⟩ := h
      refine ⟨fun h0 => (by rw [hok.1] at h0; cases h0), fun j hj => ?_⟩
      have hd := hD.set hj
      rw [hok.1] at hj
      cases List.mem_singleton.1 hj
      exact (YlG.opG (k := k) (md := none) hp ho rfl hy (ih _ _ _ _ hok.2 hd hr)).wpOpIn
  | act i t ih =>
    intro n ls a w hok hD h
    cases n with
    | zero => simp [okPre] at hok
    | succ n =>
      simp only [okPre, Bool.and_eq_true, beq_iff_eq] at hok
      refine ⟨fun h0 => (by rw [hok.1] at h0; cases h0), fun j hj => ?_⟩
      have hd := hD.set hj
      rw [hok.1] at hj
      cases List.mem_singleton.1 hj
      exact (OpG.mono h fun a' w' h' => ih _ _ _ _ hok.2 hd h'.2).wpOpIn
  | opn t _ =>
    intro n ls a w hok hD h
    obtain ⟨Y, h⟩ := h
    exact AnyW.wpAnyIn _ _ _ _ _ (RW.any hp t _ (w, Y) _ _ _ (by cases n <;> exact hok) hD (Ext.refl _ _) h)
  | done => intro n ls a w hok; cases n <;> simp [okPre] at hok
  | act2 i t j u _ _ => intro n ls a w hok; cases n <;> simp [okPre] at hok
  | act3 i t j u l v _ _ _ => intro n ls a w hok; cases n <;> simp [okPre] at hok
  | cut t _ => intro n ls a w hok; cases n <;> simp [okPre] at hok
  | acto i t _ => intro n ls a w hok; cases n <;> simp [okPre] at hok
end

/-- A region whose order is drawn: Y: the blocks that it may turn. -/
theorem W_draw {P : Program} {r : Option Nat} {k : Ks} {a : Act} {w : World} {c : Code} (t : Tr) (Y : Bs) (hm : P.follows .mixedOrders = true)
    (hc : (match c with | .region _ o d => d && plainOps o && okAny o o.size (Array.replicate o.size false) t | _ => false) = true)
    (h : ∀ w', Ext Y w w' → w'.heap = w.heap → RW P r k (opsC c) (some (w', Y)) t a w') : W P r c k a w := by
  cases c <;> simp at hc
  rename_i id o d
  obtain ⟨⟨hd, hp⟩, ht⟩ := hc
  subst hd
  refine wpIn_region_any hm ?_
  exact AnyW.wpAnyIn _ ({ w with drawn := w.drawn + 1 }, Y) _ _ _ (RW.any hp t _ _ _ _ _ ht (Dc.start _) (Ext.refl _ _) (h _ (Ext.drew w) rfl))
/-- A region whose order is drawn, after operations that all others stand behind. -/
theorem W_pre {P : Program} {r : Option Nat} {k : Ks} {a : Act} {w : World} {c : Code} (t : Tr) (hm : P.follows .mixedOrders = true)
    (hc : (match c with | .region _ o d => d && plainOps o && okPre o o.size (Array.replicate o.size false) t | _ => false) = true)
    (h : ∀ w', Ext No w w' → w'.heap = w.heap → RW P r k (opsC c) none t a w') : W P r c k a w := by
  cases c <;> simp at hc
  rename_i id o d
  obtain ⟨⟨hd, hp⟩, ht⟩ := hc
  subst hd
  refine wpIn_region_any hm ?_
  exact RW.pre hp t _ _ _ _ ht (Dc.start _) (h _ (Ext.drew w) rfl)
end Go.Cx

namespace Go.Cx
set_option linter.unusedVariables false
set_option linter.unusedSimpArgs false
open Go

/-! ### Frames -/
def look : List (Nat × Value) → Nat → Option Value
  | [], _ => none
  | (k, v) :: r, i => bif Nat.beq k i then some v else look r i

def ev (S : List (Nat × Value)) : Operand → Option Value
  | .tmp t => look S t
  | .const v => some v
  | .global g => some (.pointer (some ⟨g, 0, none⟩))
  | .func f => some (.func (.func f) #[] #[])

def evs (S : List (Nat × Value)) : List Operand → Option (List Value)
  | [] => some []
  | x :: r => match ev S x with
    | none => none
    | some v => match evs S r with
      | none => none
      | some vs => some (v :: vs)

structure Fr (a : Act) (n : Nat) (D : List Deferred) (S : List (Nat × Value)) : Prop where
  size : a.tmps.size = n
  defers : a.defers = D
  get : ∀ i v, look S i = some v → a.tmps[i]? = some v

section
variable {a : Act} {n : Nat} {D : List Deferred} {S : List (Nat × Value)}

theorem Fr.eval (h : Fr a n D S) {x : Operand} {v : Value} (hx : ev S x = some v) : a.eval x = v := by
  cases x with
  | tmp t => have := h.get t v hx; simp [Act.eval, Array.getD_eq_getD_getElem?, this]
  | const c => exact Option.some.inj hx
  | global g => exact Option.some.inj hx
  | func f => exact Option.some.inj hx

theorem Fr.evals (h : Fr a n D S) {xs : List Operand} {vs : List Value} (hx : evs S xs = some vs) : xs.map a.eval = vs := by
  induction xs generalizing vs with
  | nil => simpa [evs] using hx
  | cons x r ih =>
    simp only [evs] at hx
    split at hx
    · cases hx
    · rename_i v hv
      split at hx
      · cases hx
      · rename_i vs' hvs
        cases hx
        simp [h.eval hv, ih hvs]

theorem Fr.put (h : Fr a n D S) {d : Nat} (v : Value) (hd : Nat.blt d n = true) : Fr (a.put (some d) v) n D ((d, v) :: S) := by
  have hd' : d < n := by simpa using hd
  refine ⟨by simp [Act.put, h.size], h.defers, fun i u hi => ?_⟩
  simp only [look] at hi
  by_cases e : Nat.beq d i = true
  · simp only [e, cond_true, Option.some.injEq] at hi
    have : d = i := by simpa using e
    subst this
    simp [Act.put, h.size, hd', hi]
  · have e' : Nat.beq d i = false := Bool.eq_false_iff.2 e
    simp only [e', cond_false] at hi
    have hne : d ≠ i := fun hh => by subst hh; simp at e'
    simp [Act.put, Array.getElem?_setIfInBounds_ne hne, h.get i u hi]

theorem Fr.nop (h : Fr a n D S) (v : Value) : Fr (a.put none v) n D S := h

def slots : Nat → List Value → List (Nat × Value)
  | _, [] => []
  | i, v :: r => (i, v) :: slots (i + 1) r

theorem look_slots : ∀ (l : List Value) (i j : Nat) (v : Value), look (slots i l) j = some v → i ≤ j ∧ l[j - i]? = some v
  | [], _, _, _, h => by simp [slots, look] at h
  | u :: r, i, j, v, h => by
    simp only [slots, look] at h
    by_cases e : Nat.beq i j = true
    · have : i = j := by simpa using e
      subst this
      simp at h
      simp [h]
    · have e' : Nat.beq i j = false := Bool.eq_false_iff.2 e
      simp only [e', cond_false] at h
      obtain ⟨h1, h2⟩ := look_slots r (i + 1) j v h
      refine ⟨by omega, ?_⟩
      rw [show j - i = (j - (i + 1)) + 1 by omega]
      simpa using h2

theorem Fr.init (l : List Value) (n : Nat) (hn : l.length ≤ n) : Fr { tmps := l.toArray ++ Array.replicate (n - l.toArray.size) undef, defers := [] } n [] (slots 0 l) := by
  refine ⟨by simp; omega, rfl, fun i v h => ?_⟩
  obtain ⟨_, h2⟩ := look_slots l 0 i v h
  rw [Nat.sub_zero] at h2
  have hlt : i < l.length := (List.getElem?_eq_some_iff.1 h2).1
  simpa [Array.getElem?_append, hlt] using (List.getElem?_eq_some_iff.1 h2).2

theorem Fr.sub (h : Fr a n D S) {T : List (Nat × Value)} (hT : ∀ i v, look T i = some v → look S i = some v) : Fr a n D T :=
  ⟨h.size, h.defers, fun i v hi => h.get i v (hT i v hi)⟩
end

/-! ### Own memory -/
/-- A block: a row of cells; another object; or none yet (the place of a slice that has no block). -/
inductive Blk where
  | row (t : TypeId) (l : List Value)
  | obj (o : Obj)
  | gap

def Blk.toObj : Blk → Obj
  | .row t l => .cells ⟨l⟩ t (0, 0)
  | .obj o => o
  | .gap => .deferred none
def Blk.real : Blk → Bool
  | .gap => false
  | _ => true

def nth : List Value → Nat → Option Value
  | [], _ => none
  | v :: _, 0 => some v
  | _ :: r, n + 1 => nth r n

def upd : List Value → Nat → Value → List Value
  | [], _, _ => []
  | _ :: r, 0, u => u :: r
  | v :: r, n + 1, u => v :: upd r n u

def nths (l : List Value) (o : Nat) : Nat → Option (List Value)
  | 0 => some []
  | m + 1 => match nth l o with
    | none => none
    | some v => match nths l (o + 1) m with
      | none => none
      | some r => some (v :: r)

def upds (l : List Value) (o : Nat) : List Value → List Value
  | [] => l
  | u :: r => upds (upd l o u) (o + 1) r

def blk : List (Nat × Blk) → Nat → Option (Nat × Blk)
  | [], _ => none
  | b :: _, 0 => some b
  | _ :: r, k + 1 => blk r k

def setB : List (Nat × Blk) → Nat → Blk → List (Nat × Blk)
  | [], _, _ => []
  | (n, _) :: r, 0, x => (n, x) :: r
  | b :: r, k + 1, x => b :: setB r k x

/-- the k-th entry is now q -/
def setE : List (Nat × Blk) → Nat → Nat × Blk → List (Nat × Blk)
  | [], _, _ => []
  | _ :: r, 0, q => q :: r
  | b :: r, k + 1, q => b :: setE r k q
/-- the blocks that are there -/
def reals (L : List (Nat × Blk)) : List Nat := (L.filter (·.2.real)).map (·.1)

theorem nth_eq : ∀ (l : List Value) (i : Nat), nth l i = l[i]?
  | [], _ => by simp [nth]
  | v :: r, 0 => by simp [nth]
  | v :: r, i + 1 => by simp [nth, nth_eq r i]
theorem upd_eq : ∀ (l : List Value) (i : Nat) (u : Value), upd l i u = l.set i u
  | [], _, _ => by simp [upd]
  | v :: r, 0, u => by simp [upd]
  | v :: r, i + 1, u => by simp [upd, upd_eq r i u]
theorem upds_length : ∀ (us l : List Value) (o : Nat), (upds l o us).length = l.length
  | [], _, _ => rfl
  | u :: r, l, o => by simp [upds, upds_length r, upd_eq]
theorem blk_eq : ∀ (L : List (Nat × Blk)) (k : Nat), blk L k = L[k]?
  | [], _ => by simp [blk]
  | v :: r, 0 => by simp [blk]
  | v :: r, i + 1 => by simp [blk, blk_eq r i]
theorem setB_fst : ∀ (L : List (Nat × Blk)) (k : Nat) (x : Blk), (setB L k x).map (·.1) = L.map (·.1)
  | [], _, _ => rfl
  | (n, b) :: r, 0, x => rfl
  | (n, b) :: r, k + 1, x => by simp [setB, setB_fst r k x]

theorem reals_cons (q : Nat × Blk) (L : List (Nat × Blk)) : reals (q :: L) = if q.2.real = true then q.1 :: reals L else reals L := by
  unfold reals
  by_cases h : q.2.real = true <;> simp [h]
theorem mem_reals {n : Nat} {L : List (Nat × Blk)} : n ∈ reals L ↔ ∃ b, (n, b) ∈ L ∧ b.real = true := by
  simp only [reals, List.mem_map, List.mem_filter]
  constructor
  · rintro ⟨⟨m, b⟩, ⟨h1, h2⟩, rfl⟩; exact ⟨b, h1, h2⟩
  · rintro ⟨b, h1, h2⟩; exact ⟨(n, b), ⟨h1, h2⟩, rfl⟩
theorem reals_setB : ∀ (L : List (Nat × Blk)) (k n : Nat) (b x : Blk), blk L k = some (n, b) → b.real = x.real → reals (setB L k x) = reals L
  | [], _, _, _, _, h, _ => by simp [blk] at h
  | (m, c) :: r, 0, n, b, x, h, hb => by
    simp only [blk, Option.some.injEq, Prod.mk.injEq] at h
    obtain ⟨rfl, rfl⟩ := h
    simp only [setB, reals_cons, hb]
  | (m, c) :: r, k + 1, n, b, x, h, hb => by
    simp only [blk] at h
    simp only [setB, reals_cons, reals_setB r k n b x h hb]

/-- Since w0 (the world in which the call began) only the blocks of X (handed over by the caller) and new ones have turned; the blocks of L are the call's own now. -/
structure Mem (w0 w : World) (X : Bs) (L : List (Nat × Blk)) : Prop where
  os : w.os = w0.os
  tape : w.tape = w0.tape
  output : w.output = w0.output
  size : w0.heap.size ≤ w.heap.size
  same : ∀ k, k < w0.heap.size → ¬ X k → w.heap[k]? = w0.heap[k]?
  own : ∀ p, p ∈ L → p.2.real = true → w.heap[p.1]? = some p.2.toObj
  fresh : ∀ p, p ∈ L → p.2.real = true → X p.1 ∨ w0.heap.size ≤ p.1
  nodup : (reals L).Nodup

section
variable {w0 w w' : World} {X : Bs} {L : List (Nat × Blk)}

theorem Mem.start (w : World) : Mem w w No [] := ⟨rfl, rfl, rfl, Nat.le_refl _, fun _ _ _ => rfl, by simp, by simp, by simp [reals]⟩

theorem Mem.to (h : Mem w0 w X L) : Ext X w0 w := ⟨h.os, h.tape, h.output, h.size, h.same⟩

theorem blk_mem {k n : Nat} {b : Blk} (hk : blk L k = some (n, b)) : (n, b) ∈ L := List.mem_of_getElem? ((blk_eq L k).symm.trans hk)
theorem Mem.getR (h : Mem w0 w X L) {k : Nat} {n : Nat} {b : Blk} (hk : blk L k = some (n, b)) (hr : b.real = true) : w.heap[n]? = some b.toObj := h.own (n, b) (blk_mem hk) hr
theorem Mem.get (h : Mem w0 w X L) {k : Nat} {n : Nat} {b : Blk} (hk : blk L k = some (n, b)) (hr : b.real = true := by rfl) : w.heap[n]? = some b.toObj := h.getR hk hr

theorem Mem.lt (h : Mem w0 w X L) {p : Nat × Blk} (hp : p ∈ L) (hr : p.2.real = true := by rfl) : p.1 < w.heap.size := (Array.getElem?_eq_some_iff.1 (h.own p hp hr)).1

theorem Mem.ext (h : Mem w0 w X L) (hx : Ext No w w') : Mem w0 w' X L :=
  ⟨hx.os.trans h.os, hx.tape.trans h.tape, hx.output.trans h.output, Nat.le_trans h.size hx.size,
    fun k hk hX => (hx.same k (Nat.lt_of_lt_of_le hk h.size) id).trans (h.same k hk hX),
    fun p hp hr => (hx.same p.1 (h.lt hp hr) id).trans (h.own p hp hr), h.fresh, h.nodup⟩

theorem Mem.alloc (h : Mem w0 w X L) (b : Blk) : Mem w0 (w.alloc b.toObj) X ((w.heap.size, b) :: L) := by
  have ho : ∀ k, k < w.heap.size → (w.alloc b.toObj).heap[k]? = w.heap[k]? := fun k hk => by
    show (w.heap.push _)[k]? = _
    rw [Array.getElem?_push, if_neg (by omega)]
  refine ⟨h.os, h.tape, h.output, by have := h.size; simp; omega, fun k hk hX => (ho k (Nat.lt_of_lt_of_le hk h.size)).trans (h.same k hk hX), fun p hp hr => ?_, fun p hp hr => ?_, ?_⟩
  · rcases List.mem_cons.1 hp with rfl | hp
    · show (w.heap.push _)[w.heap.size]? = _
      simp
    · exact (ho _ (h.lt hp hr)).trans (h.own p hp hr)
  · rcases List.mem_cons.1 hp with rfl | hp
    · exact .inr h.size
    · exact h.fresh p hp hr
  · rw [reals_cons]
    split
    · rw [List.nodup_cons]
      refine ⟨fun hm => ?_, h.nodup⟩
      obtain ⟨c, hc, hr⟩ := mem_reals.1 hm
      have := h.lt hc hr
      simp only at this
      omega
    · exact h.nodup
/-- a place for a slice that has no block yet -/
theorem Mem.gapIn (h : Mem w0 w X L) : Mem w0 w X ((0, .gap) :: L) :=
  ⟨h.os, h.tape, h.output, h.size, h.same, fun p hp hr => (List.mem_cons.1 hp).elim (fun e => by subst e; cases hr) fun hp => h.own p hp hr, fun p hp hr => (List.mem_cons.1 hp).elim (fun e => by subst e; cases hr) fun hp => h.fresh p hp hr,
    by rw [reals_cons]; exact h.nodup⟩

theorem Mem.ofEq (h : Mem w0 w X L) (he : w'.heap = w.heap) (ho : w'.os = w.os) (ht : w'.tape = w.tape) (hp : w'.output = w.output) : Mem w0 w' X L :=
  ⟨ho.trans h.os, ht.trans h.tape, hp.trans h.output, by rw [he]; exact h.size, fun k hk hX => by rw [he]; exact h.same k hk hX, fun p hp hr => by rw [he]; exact h.own p hp hr, h.fresh, h.nodup⟩

theorem setB_mem : ∀ (L : List (Nat × Blk)) (k n : Nat) (b x : Blk), blk L k = some (n, b) → b.real = true → (reals L).Nodup → ∀ p, p ∈ setB L k x → p = (n, x) ∨ (p ∈ L ∧ (p.2.real = true → p.1 ≠ n))
  | [], _, _, _, _, h, _, _, _, _ => by simp [blk] at h
  | (m, c) :: r, 0, n, b, x, h, hb, hn, p, hp => by
    simp only [blk, Option.some.injEq, Prod.mk.injEq] at h
    obtain ⟨rfl, rfl⟩ := h
    simp only [setB, List.mem_cons] at hp
    rcases hp with rfl | hp
    · exact .inl rfl
    · refine .inr ⟨by simp [hp], fun hr e => ?_⟩
      rw [reals_cons, if_pos hb, List.nodup_cons] at hn
      exact hn.1 (mem_reals.2 ⟨p.2, by rw [← e]; exact hp, hr⟩)
  | (m, c) :: r, k + 1, n, b, x, h, hb, hn, p, hp => by
    simp only [blk] at h
    simp only [setB, List.mem_cons] at hp
    have hn' : (reals r).Nodup := by
      rw [reals_cons] at hn
      split at hn
      · exact (List.nodup_cons.1 hn).2
      · exact hn
    rcases hp with rfl | hp
    · refine .inr ⟨by simp, fun hr e => ?_⟩
      rw [reals_cons, if_pos hr, List.nodup_cons] at hn
      exact hn.1 (mem_reals.2 ⟨b, by have e' : m = n := e; rw [e']; exact blk_mem h, hb⟩)
    · rcases setB_mem r k n b x h hb hn' p hp with h1 | ⟨h1, h2⟩
      · exact .inl h1
      · exact .inr ⟨by simp [h1], h2⟩

/-- Block k of the own ones is now x; nothing else has turned. -/
theorem Mem.set (h : Mem w0 w X L) {k n : Nat} {b : Blk} (hk : blk L k = some (n, b)) (x : Blk) (ho : w'.os = w.os) (ht : w'.tape = w.tape) (hu : w'.output = w.output) (hs : w'.heap.size = w.heap.size)
    (hn : w'.heap[n]? = some x.toObj) (hr : ∀ j, j ≠ n → w'.heap[j]? = w.heap[j]?) (hb : b.real = true := by rfl) (hx : x.real = true := by rfl) : Mem w0 w' X (setB L k x) := by
  have hin := blk_mem hk
  refine ⟨ho.trans h.os, ht.trans h.tape, hu.trans h.output, by rw [hs]; exact h.size, fun j hj hX => ?_, fun p hp hpr => ?_, fun p hp hpr => ?_, by rw [reals_setB L k n b x hk (hb.trans hx.symm)]; exact h.nodup⟩
  · rw [hr j fun e => ?_]
    · exact h.same j hj hX
    · rcases h.fresh _ hin hb with h1 | h1
      · exact hX (e ▸ h1)
      · have e' : j = n := e; simp only at h1; omega
  · rcases setB_mem L k n b x hk hb h.nodup p hp with rfl | ⟨h1, h2⟩
    · exact hn
    · rw [hr _ (h2 hpr)]; exact h.own p h1 hpr
  · rcases setB_mem L k n b x hk hb h.nodup p hp with rfl | ⟨h1, _⟩
    · exact h.fresh (n, b) hin hb
    · exact h.fresh p h1 hpr
end

/-- An own block in every world near. -/
theorem Mem.nt {w0 w : World} {X : Bs} {L : List (Nat × Blk)} (h : Mem w0 w X L) (j : Nat) {m : Nat} {b : Blk} (hk : blk L j = some (m, b)) (hr : b.real = true := by rfl) : ∀ u, Near none w u → u.heap[m]? = some b.toObj := fun u hu => by cases hu; exact h.getR hk hr
theorem Mem.nd {w0 w b : World} {X Y : Bs} {L : List (Nat × Blk)} (h : Mem w0 b X L) (j : Nat) {m : Nat} {x : Blk} (hk : blk L j = some (m, x)) (hY : ¬ Y m) (hr : x.real = true := by rfl) : ∀ u, Near (some (b, Y)) w u → u.heap[m]? = some x.toObj := fun _ hu =>
  (Ext.same hu m (h.lt (p := (m, x)) (blk_mem hk) hr) hY).trans (h.getR hk hr)
theorem reals_ne : ∀ (L : List (Nat × Blk)) (i j m n : Nat) (b c : Blk), (reals L).Nodup → blk L i = some (m, b) → blk L j = some (n, c) → b.real = true → c.real = true → i < j → m ≠ n
  | [], _, _, _, _, _, _, _, h, _, _, _, _ => by simp [blk] at h
  | (q, d) :: r, 0, j + 1, m, n, b, c, hn, hi, hj, hb, hc, _ => by
    simp only [blk, Option.some.injEq, Prod.mk.injEq] at hi hj
    obtain ⟨rfl, rfl⟩ := hi
    rw [reals_cons, if_pos hb, List.nodup_cons] at hn
    intro e
    exact hn.1 (mem_reals.2 ⟨c, by rw [e]; exact blk_mem hj, hc⟩)
  | (q, d) :: r, i + 1, j + 1, m, n, b, c, hn, hi, hj, hb, hc, hlt => by
    simp only [blk] at hi hj
    have hn' : (reals r).Nodup := by
      rw [reals_cons] at hn
      split at hn
      · exact (List.nodup_cons.1 hn).2
      · exact hn
    exact reals_ne r i j m n b c hn' hi hj hb hc (by omega)
  | _ :: _, _, 0, _, _, _, _, _, _, _, _, _, h => by omega
theorem Mem.ne {w0 w : World} {X : Bs} {L : List (Nat × Blk)} (h : Mem w0 w X L) (i j : Nat) {m n : Nat} {b c : Blk} (hi : blk L i = some (m, b)) (hj : blk L j = some (n, c)) (hij : Nat.beq i j = false) (hb : b.real = true := by rfl) (hc : c.real = true := by rfl) : m ≠ n := by
  rcases Nat.lt_or_ge i j with hlt | hge
  · exact reals_ne L i j m n b c h.nodup hi hj hb hc hlt
  · exact fun e => reals_ne L j i n m c b h.nodup hj hi hc hb (by
      rcases Nat.lt_or_eq_of_le hge with h1 | h1
      · exact h1
      · subst h1; simp at hij) e.symm

/-! ### Triples over frames -/
def HR (P : Program) (r : Option Nat) (k : Ks) (ops : Array Oper) (md : Md) (n : Nat) (D : List Deferred) (S : List (Nat × Value)) (t : Tr) (w : World) : Prop :=
  ∀ a, Fr a n D S → RW P r k ops md t a w
def HW (P : Program) (r : Option Nat) (c : Code) (k : Ks) (n : Nat) (D : List Deferred) (S : List (Nat × Value)) (w : World) : Prop :=
  ∀ a, Fr a n D S → W P r c k a w

/-! ### Where code goes on -/
def Ks.sq (k : Ks) (P : Program) (r : Option Nat) (c : Code) : Ks := { k with norm := fun a w => W P r c k a w }
def Ks.bl (k : Ks) (i : Nat) : Ks := { k with ex := fun j a w => if j = i then k.norm a w else k.ex j a w }
def Ks.lp {ι : Type} (k : Ks) (Sx : ι → List (Nat × Value)) (M : ι → World → Prop) (μ : ι → Nat) (x : ι) (n : Nat) (D : List Deferred) : Ks := { k with norm := fun a w => ∃ y, μ y < μ x ∧ M y w ∧ Fr a n D (Sx y) }
/-- from these slots in this world: on to K -/
def GoD (K : Act → World → Prop) (n : Nat) (D : List Deferred) (S : List (Nat × Value)) (w : World) : Prop := ∀ a, Fr a n D S → K a w
def GN (k : Ks) (n : Nat) (D : List Deferred) (S : List (Nat × Value)) (w : World) : Prop := ∀ a, Fr a n D S → k.norm a w
def GR (k : Ks) (n : Nat) (D : List Deferred) (S : List (Nat × Value)) (w : World) : Prop := ∀ a, Fr a n D S → k.ret a w
def GX (k : Ks) (i : Nat) (n : Nat) (D : List Deferred) (S : List (Nat × Value)) (w : World) : Prop := ∀ a, Fr a n D S → k.ex i a w
section
variable {P : Program} {r : Option Nat} {k : Ks} {c : Code} {n : Nat} {D : List Deferred} {S : List (Nat × Value)} {w : World} {i j : Nat}
theorem toN (h : GoD k.norm n D S w) : GN k n D S w := h
theorem toR (h : GoD k.ret n D S w) : GR k n D S w := h
theorem gn_sq (h : HW P r c k n D S w) : GN (k.sq P r c) n D S w := h
theorem gn_bl (h : GN k n D S w) : GN (k.bl i) n D S w := h
theorem gr_sq (h : GR k n D S w) : GR (k.sq P r c) n D S w := h
theorem gr_bl (h : GR k n D S w) : GR (k.bl i) n D S w := h
theorem gx_sq (h : GX k i n D S w) : GX (k.sq P r c) i n D S w := h
theorem gx_here (h : GN k n D S w) : GX (k.bl i) i n D S w := fun a hf => by
  show (if i = i then k.norm a w else k.ex i a w)
  rw [if_pos rfl]; exact h a hf
theorem gx_up (hne : i ≠ j) (h : GX k i n D S w) : GX (k.bl j) i n D S w := fun a hf => by
  show (if i = j then k.norm a w else k.ex i a w)
  rw [if_neg hne]; exact h a hf
variable {ι : Type} {Sx : ι → List (Nat × Value)} {M : ι → World → Prop} {μ : ι → Nat} {x : ι} {m : Nat} {D' : List Deferred}
theorem gr_lp (h : GR k n D S w) : GR (k.lp Sx M μ x m D') n D S w := h
theorem gx_lp (h : GX k i n D S w) : GX (k.lp Sx M μ x m D') i n D S w := h
end

/-- is operation o wanted, its guard's slot (if any) being in S? -/
def met (ops : Array Oper) (S : List (Nat × Value)) : Option (Nat × Bool) → Bool
  | none => true
  | some (g, b) => match ops[g]? with
    | some og => match og.dst with
      | some gd => match look S gd with | some (.bool c) => (match c, b with | true, true => true | false, false => true | _, _ => false) | _ => false
      | none => false
    | none => false
/-- Operation number i, unguarded or its guard as wanted, with its slot. -/
def opu (ops : Array Oper) (S : List (Nat × Value)) (i : Nat) : Option (Oper × Nat) :=
  match ops[i]? with
  | some o => match met ops S o.guard, o.dst with | true, some d => some (o, d) | _, _ => none
  | none => none
/-- .. without a slot -/
def opn (ops : Array Oper) (S : List (Nat × Value)) (i : Nat) : Option Oper :=
  match ops[i]? with
  | some o => match met ops S o.guard, o.dst with | true, none => some o | _, _ => none
  | none => none
/-- Operation number i, guarded: the slot of its guard and what is wanted there; its slot. -/
def opg (ops : Array Oper) (i : Nat) : Option (Oper × Nat × Nat × Bool) :=
  match ops[i]? with
  | some o => match o.guard, o.dst with
    | some (g, b), some d => match ops[g]? with
      | some og => match og.dst with | some gd => some (o, d, gd, b) | none => none
      | none => none
    | _, _ => none
  | none => none

theorem met_spec {ops : Array Oper} {a : Act} {n : Nat} {D : List Deferred} {S : List (Nat × Value)} {o : Oper} (h : met ops S o.guard = true) (hf : Fr a n D S) : Region.wanted o (yielded ops a.tmps) = true := by
  unfold met at h
  split at h
  · rename_i hg; simp [Region.wanted, hg]
  · rename_i g b hg
    split at h
    · rename_i og hog
      split at h
      · rename_i gd hgd
        split at h
        · rename_i c hl
          have := hf.get gd _ hl
          have hcb : c = b := by cases c <;> cases b <;> simp_all
          simp [Region.wanted, hg, yielded, hog, hgd, this, hcb]
        · cases h
      · cases h
    · cases h
theorem opu_spec {ops : Array Oper} {a : Act} {n : Nat} {D : List Deferred} {S : List (Nat × Value)} {i : Nat} {o : Oper} {d : Nat} (h : opu ops S i = some (o, d)) (hf : Fr a n D S) : ops[i]? = some o ∧ Region.wanted o (yielded ops a.tmps) = true ∧ o.dst = some d := by
  unfold opu at h
  split at h
  · rename_i o' ho
    split at h
    · rename_i hg hd; cases h; exact ⟨ho, met_spec hg hf, hd⟩
    · cases h
  · cases h
theorem opn_spec {ops : Array Oper} {a : Act} {n : Nat} {D : List Deferred} {S : List (Nat × Value)} {i : Nat} {o : Oper} (h : opn ops S i = some o) (hf : Fr a n D S) : ops[i]? = some o ∧ Region.wanted o (yielded ops a.tmps) = true ∧ o.dst = none := by
  unfold opn at h
  split at h
  · rename_i o' ho
    split at h
    · rename_i hg hd; cases h; exact ⟨ho, met_spec hg hf, hd⟩
    · cases h
  · cases h
theorem opg_spec {ops : Array Oper} {i : Nat} {o : Oper} {d gd : Nat} {b : Bool} (h : opg ops i = some (o, d, gd, b)) : ops[i]? = some o ∧ o.dst = some d ∧ ∃ g og, o.guard = some (g, b) ∧ ops[g]? = some og ∧ og.dst = some gd := by
  unfold opg at h
  split at h
  · rename_i o' ho
    split at h
    · rename_i g b' d' hg hd
      split at h
      · rename_i og hog
        split at h
        · rename_i gd' hgd; cases h; exact ⟨ho, hd, g, og, hg, hog, hgd⟩
        · cases h
      · cases h
    · cases h
  · cases h

section
variable {P : Program} {r : Option Nat} {k : Ks} {ops : Array Oper} {md : Md} {n : Nat} {D : List Deferred} {S : List (Nat × Value)} {w : World}

theorem wanted_of {a : Act} {o : Oper} {g gd : Nat} {b c : Bool} {og : Oper} (hf : Fr a n D S) (hg : o.guard = some (g, b)) (hog : ops[g]? = some og) (hgd : og.dst = some gd) (hl : look S gd = some (.bool c)) :
    Region.wanted o (yielded ops a.tmps) = (c == b) := by
  have := hf.get gd _ hl
  simp [Region.wanted, hg, yielded, hog, hgd, this]

/-- A value that is there only if the guard's Bool is as wanted. -/
def gv (c b : Bool) (v : Value) : Value := bif (c == b) then v else undef

theorem rw_done (h : GN k n D S w) : HR P r k ops md n D S .done w := h

theorem rw_p {i : Nat} {t : Tr} {o : Oper} {d : Nat} {v : Value} (ho : opu ops S i = some (o, d)) (hd : Nat.blt d n = true) (hy : ∀ a, Fr a n D S → Yl P md w a o v)
    (h : HR P r k ops md n D ((d, v) :: S) t w) : HR P r k ops md n D S (.pure i t) w := fun a hf => by
  obtain ⟨h1, h2, h3⟩ := opu_spec ho hf
  refine ⟨o, v, h1, ⟨fun _ => hy a hf, fun hw => by rw [h2] at hw; cases hw⟩, ?_⟩
  rw [h3]
  exact h _ (hf.put v hd)

/-- a guarded operation whose guard is c, whatever c is -/
theorem rw_g {i : Nat} {t : Tr} {o : Oper} {d gd : Nat} {b c : Bool} {v : Value} (ho : opg ops i = some (o, d, gd, b)) (hl : look S gd = some (.bool c)) (hd : Nat.blt d n = true) (hy : c = b → ∀ a, Fr a n D S → Yl P md w a o v)
    (h : HR P r k ops md n D ((d, gv c b v) :: S) t w) : HR P r k ops md n D S (.pure i t) w := fun a hf => by
  obtain ⟨h1, h3, g, og, hg, hog, hgd⟩ := opg_spec ho
  have hw := wanted_of (ops := ops) hf hg hog hgd hl
  refine ⟨o, gv c b v, h1, ⟨fun hh => ?_, fun hh => ?_⟩, ?_⟩
  · rw [hw] at hh
    have : gv c b v = v := by simp [gv, hh]
    rw [this]
    exact hy (by simpa using hh) a hf
  · rw [hw] at hh
    simp [gv, hh]
  · rw [h3]
    exact h _ (hf.put _ hd)

theorem wanted_gv {a : Act} {o : Oper} {g gd : Nat} {b b' c d : Bool} {og : Oper} (hf : Fr a n D S) (hg : o.guard = some (g, b')) (hog : ops[g]? = some og) (hgd : og.dst = some gd) (hl : look S gd = some (gv c b (.bool d))) :
    Region.wanted o (yielded ops a.tmps) = (c == b && d == b') := by
  have := hf.get gd _ hl
  by_cases h : c = b
  · simp [Region.wanted, hg, yielded, hog, hgd, this, gv, h]
  · have e : (c == b) = false := by simpa using h
    simp [Region.wanted, hg, yielded, hog, hgd, this, gv, e, undef]
/-- a guarded operation whose guard is guarded itself -/
theorem rw_gg {i : Nat} {t : Tr} {o : Oper} {dd gd : Nat} {b b' c d : Bool} {v : Value} (ho : opg ops i = some (o, dd, gd, b')) (hl : look S gd = some (gv c b (.bool d))) (hd : Nat.blt dd n = true) (hy : (c == b && d == b') = true → ∀ a, Fr a n D S → Yl P md w a o v)
    (h : HR P r k ops md n D ((dd, gv (c == b && d == b') true v) :: S) t w) : HR P r k ops md n D S (.pure i t) w := fun a hf => by
  obtain ⟨h1, h3, g, og, hg, hog, hgd⟩ := opg_spec ho
  have hw := wanted_gv (ops := ops) hf hg hog hgd hl
  refine ⟨o, gv (c == b && d == b') true v, h1, ⟨fun hh => ?_, fun hh => ?_⟩, ?_⟩
  · rw [hw] at hh
    have : gv (c == b && d == b') true v = v := by simp only [gv, hh]; rfl
    rw [this]
    exact hy hh a hf
  · rw [hw] at hh
    simp only [gv, hh]; rfl
  · rw [h3]
    exact h _ (hf.put _ hd)

/-- .. whose guard was not carried out itself -/
theorem wanted_un {a : Act} {o : Oper} {g gd : Nat} {b : Bool} {og : Oper} (hf : Fr a n D S) (hg : o.guard = some (g, b)) (hog : ops[g]? = some og) (hgd : og.dst = some gd) (hl : look S gd = some undef) : Region.wanted o (yielded ops a.tmps) = false := by
  have := hf.get gd _ hl
  simp [Region.wanted, hg, yielded, hog, hgd, this, undef]
theorem rw_gu {i : Nat} {t : Tr} {o : Oper} {d gd : Nat} {b : Bool} (ho : opg ops i = some (o, d, gd, b)) (hl : look S gd = some undef) (hd : Nat.blt d n = true)
    (h : HR P r k ops md n D ((d, undef) :: S) t w) : HR P r k ops md n D S (.pure i t) w := fun a hf => by
  obtain ⟨h1, h3, g, og, hg, hog, hgd⟩ := opg_spec ho
  have hw := wanted_un (ops := ops) hf hg hog hgd hl
  refine ⟨o, undef, h1, ⟨fun hh => (by rw [hw] at hh; cases hh), fun _ => rfl⟩, ?_⟩
  rw [h3]
  exact h _ (hf.put _ hd)

/-- .. whose guard is as wanted -/
theorem rw_gt {i : Nat} {t : Tr} {o : Oper} {d gd : Nat} {b c : Bool} {v : Value} (ho : opg ops i = some (o, d, gd, b)) (hl : look S gd = some (.bool c)) (hc : c = b) (hd : Nat.blt d n = true) (hy : ∀ a, Fr a n D S → Yl P md w a o v)
    (h : HR P r k ops md n D ((d, v) :: S) t w) : HR P r k ops md n D S (.pure i t) w := by
  refine rw_g ho hl hd (fun _ => hy) ?_
  have : gv c b v = v := by simp [gv, hc]
  rw [this]; exact h

/-- .. whose guard is not as wanted: it is not carried out -/
theorem rw_gf {i : Nat} {t : Tr} {o : Oper} {d gd : Nat} {b c : Bool} (ho : opg ops i = some (o, d, gd, b)) (hl : look S gd = some (.bool c)) (hc : c ≠ b) (hd : Nat.blt d n = true)
    (h : HR P r k ops md n D ((d, undef) :: S) t w) : HR P r k ops md n D S (.pure i t) w := by
  have e : (c == b) = false := by simpa using hc
  refine rw_g (v := undef) ho hl hd (fun hh => absurd hh hc) ?_
  have : gv c b undef = undef := by simp [gv]
  rw [this]; exact h
end
end Go.Cx

namespace Go.Cx
set_option linter.unusedVariables false
set_option linter.unusedSimpArgs false
open Go

/-! ### Facts off the program's table of types, as closed functions -/
def scal (P : Program) (t : TypeId) : Bool := match P.underlying t with | some (.struct _) => false | some (.array _ _) => false | some _ => true | none => false
def aggS (P : Program) (t : TypeId) : Option Nat := match P.underlying t, P.info? t with
  | some (.struct _), some i => some i.size
  | some (.array _ _), some i => some i.size
  | _, _ => none
def szO (P : Program) (t : TypeId) : Option Nat := (P.info? t).map (·.size)
def fldO (P : Program) (s f : Nat) : Option Nat := match P.underlying s with
  | some (.struct fs) => match fs[f]? with
    | some fd => match P.info? fd.type with | some i => if i.size = 0 then none else some fd.offset | none => none
    | none => none
  | _ => none
def zer (P : Program) (t : TypeId) : Option (List Value) := (P.info? t).bind fun i => i.zero.map fun v => v.cells.toList
/-- a slice type: its element's type, that type's cells and bytes -/
def slcO (P : Program) (t : TypeId) : Option (TypeId × Nat × Nat) := match P.underlying t with
  | some (.slice e) => match P.info? e with | some i => some (e, i.size, i.bytes) | none => none
  | _ => none
def intO (P : Program) (t : TypeId) : Option IntKind := match P.underlying t with | some (.int k) => some k | _ => none
def arrO (P : Program) (t : TypeId) : Option (Nat × TypeId × Nat) := match P.underlying t with
  | some (.array n e) => match P.info? e with | some i => some (n, e, i.size) | none => none
  | _ => none

section
variable {P : Program} {w : World}

theorem run_und {t : TypeId} {d : TypeDesc} (h : P.underlying t = some d) : (underlying t).run P w = .ok d w := run_underlying h w
theorem run_isAgg_f {t : TypeId} (h : scal P t = true) : (isAgg t).run P w = .ok false w := by
  unfold scal at h
  cases hu : P.underlying t with
  | none => simp [hu] at h
  | some d =>
    simp only [isAgg, Sem.run_bind, run_und hu, Result.andThen_ok]
    cases d <;> simp [hu] at h ⊢
theorem run_isAgg_t {t : TypeId} {m : Nat} (h : aggS P t = some m) : (isAgg t).run P w = .ok true w := by
  unfold aggS at h
  cases hu : P.underlying t with
  | none => simp [hu] at h
  | some d =>
    simp only [isAgg, Sem.run_bind, run_und hu, Result.andThen_ok]
    cases d <;> simp [hu] at h ⊢
theorem szO_aggS {t : TypeId} {m : Nat} (h : aggS P t = some m) : szO P t = some m := by
  unfold aggS at h
  unfold szO
  cases hu : P.underlying t with
  | none => simp [hu] at h
  | some d =>
    cases hi : P.info? t with
    | none => cases d <;> simp [hu, hi] at h
    | some i => cases d <;> simp [hu, hi] at h <;> simp [h]
theorem run_szO {t : TypeId} {m : Nat} (h : szO P t = some m) : (sizeOf t).run P w = .ok m w := by
  unfold szO at h
  cases hi : P.info? t with
  | none => simp [hi] at h
  | some i =>
    simp [hi] at h
    simp [sizeOf, typeInfo, hi, h]
theorem run_zer {t : TypeId} {l : List Value} (h : zer P t = some l) : ∃ v, (zeroValue t).run P w = .ok v w ∧ v.cells = ⟨l⟩ := by
  unfold zer at h
  cases hi : P.info? t with
  | none => simp [hi] at h
  | some i =>
    cases hz : i.zero with
    | none => simp [hi, hz] at h
    | some v =>
      simp [hi, hz] at h
      refine ⟨v, by simp [zeroValue, typeInfo, hi, hz], ?_⟩
      subst h
      simp

theorem cell_row {n off : Nat} {e : TypeId} {l : List Value} (h : w.heap[n]? = some (Blk.row e l).toObj) : w.cell? ⟨n, off, none⟩ = l[off]? := by
  simp [World.cell?, h, Blk.toObj]
theorem frozen_row {n off : Nat} {e : TypeId} {l : List Value} (h : w.heap[n]? = some (Blk.row e l).toObj) : w.frozen? ⟨n, off, none⟩ = false := by
  simp [World.frozen?, h, Blk.toObj]

theorem nths_get : ∀ (m o : Nat) (l vs : List Value), nths l o m = some vs → vs.length = m ∧ ∀ j v, vs[j]? = some v → l[o + j]? = some v
  | 0, o, l, vs, h => by simp [nths] at h; subst h; simp
  | m + 1, o, l, vs, h => by
    simp only [nths] at h
    split at h
    · cases h
    · rename_i v hv
      split at h
      · cases h
      · rename_i r hr
        cases h
        obtain ⟨h1, h2⟩ := nths_get m (o + 1) l r hr
        refine ⟨by simp [h1], fun j u hj => ?_⟩
        cases j with
        | zero => simp at hj; subst hj; rw [nth_eq] at hv; simpa using hv
        | succ j => simp at hj; rw [show o + (j + 1) = (o + 1) + j by omega]; exact h2 j u hj

theorem run_loadVar_s {n off : Nat} {t e : TypeId} {l : List Value} {v : Value} (hs : scal P t = true) (h : w.heap[n]? = some (Blk.row e l).toObj) (hv : nth l off = some v) :
    (loadVar t ⟨n, off, none⟩).run P w = .ok v w := by
  have hc : w.cell? ⟨n, off, none⟩ = some v := by rw [cell_row h, ← nth_eq]; exact hv
  simp [loadVar, run_isAgg_f hs, hc]

theorem run_loadVar_a {n off m : Nat} {t e : TypeId} {l vs : List Value} (hs : aggS P t = some m) (h : w.heap[n]? = some (Blk.row e l).toObj) (hv : nths l off m = some vs) :
    (loadVar t ⟨n, off, none⟩).run P w = .ok (.agg ⟨vs⟩) w := by
  obtain ⟨h1, h2⟩ := nths_get m off l vs hv
  have hl : (loadCells ⟨n, off, none⟩ m).run P w = .ok ⟨vs⟩ w := by
    rw [← h1]
    refine (run_loadCells_list (P := P) w ⟨n, off, none⟩ vs fun j v hj => ?_)
    have := h2 j v hj
    rw [← cell_row h] at this
    by_cases hj0 : j = 0
    · subst hj0; simpa [Addr.add] using this
    · simpa [Addr.add, hj0] using this
  simp [loadVar, run_isAgg_t hs, run_szO (szO_aggS hs), hl]
end

section
variable {P : Program} {md : Md} {w : World} {n : Nat} {D : List Deferred} {S : List (Nat × Value)} {dst : Option Tmp} {ty : TypeId} {pos : String} {af : Array Edge} {g : Option (Nat × Bool)}

theorem y_move {x : Operand} {v : Value} (hx : ev S x = some v) : ∀ a, Fr a n D S → Yl P md w a ⟨dst, .move x, ty, pos, af, g⟩ v := fun a hf u _ => by
  simp [execOp, hf.eval hx]
theorem y_assign {x : Operand} {v : Value} (hx : ev S x = some v) : ∀ a, Fr a n D S → Yl P md w a ⟨dst, .assign x, ty, pos, af, g⟩ v := fun a hf u _ => by
  simp [execOp, hf.eval hx]

theorem y_pick {c x y : Operand} {b : Bool} {vx vy v : Value} (hc : ev S c = some (.bool b)) (hx : ev S x = some vx) (hy : ev S y = some vy) (hv : (bif b then vx else vy) = v) :
    ∀ a, Fr a n D S → Yl P md w a ⟨dst, .pick c x y, ty, pos, af, g⟩ v := fun a hf u _ => by
  subst hv
  cases b <;> simp [execOp, hf.eval hc, hf.eval hx, hf.eval hy, asBool]
theorem y_and {c x y : Operand} {b d : Bool} (hc : ev S c = some (.bool b)) (hx : ev S x = some (gv b true (.bool d))) (hy : ev S y = some (.bool false)) :
    ∀ a, Fr a n D S → Yl P md w a ⟨dst, .pick c x y, ty, pos, af, g⟩ (.bool (b && d)) := y_pick hc hx hy (by cases b <;> simp [gv])
theorem y_or {c x y : Operand} {b d : Bool} (hc : ev S c = some (.bool b)) (hx : ev S x = some (.bool true)) (hy : ev S y = some (gv b false (.bool d))) :
    ∀ a, Fr a n D S → Yl P md w a ⟨dst, .pick c x y, ty, pos, af, g⟩ (.bool (b || d)) := y_pick hc hx hy (by cases b <;> simp [gv])

theorem y_load {t e : TypeId} {x : Operand} {m off : Nat} {l : List Value} {v : Value} (hx : ev S x = some (.pointer (some ⟨m, off, none⟩))) (hs : scal P t = true)
    (hN : ∀ u, Near md w u → u.heap[m]? = some (Blk.row e l).toObj) (hv : nth l off = some v) : ∀ a, Fr a n D S → Yl P md w a ⟨dst, .load t x, ty, pos, af, g⟩ v := fun a hf u hu => by
  simp [execOp, hf.eval hx, Instr.loadAt, Instr.sureAddr, run_loadVar_s hs (hN u hu) hv]
theorem y_loadA {t e : TypeId} {x : Operand} {m off s : Nat} {l vs : List Value} (hx : ev S x = some (.pointer (some ⟨m, off, none⟩))) (hs : aggS P t = some s)
    (hN : ∀ u, Near md w u → u.heap[m]? = some (Blk.row e l).toObj) (hv : nths l off s = some vs) : ∀ a, Fr a n D S → Yl P md w a ⟨dst, .load t x, ty, pos, af, g⟩ (.agg ⟨vs⟩) := fun a hf u hu => by
  simp [execOp, hf.eval hx, Instr.loadAt, Instr.sureAddr, run_loadVar_a hs (hN u hu) hv]
/-- a load from wherever: the cell's fact in every world near -/
theorem y_loadC {t : TypeId} {x : Operand} {ad : Addr} {v : Value} (hx : ev S x = some (.pointer (some ad))) (hs : scal P t = true)
    (hc : ∀ u, Near md w u → u.cell? ad = some v) : ∀ a, Fr a n D S → Yl P md w a ⟨dst, .load t x, ty, pos, af, g⟩ v := fun a hf u hu => by
  simp [execOp, hf.eval hx, Instr.loadAt, Instr.sureAddr, loadVar, run_isAgg_f hs, hc u hu]
theorem y_loadCA {t : TypeId} {x : Operand} {m off s : Nat} {vs : List Value} (hx : ev S x = some (.pointer (some ⟨m, off, none⟩))) (hs : aggS P t = some s) (hl : vs.length = s)
    (hc : ∀ u, Near md w u → ∀ j v, vs[j]? = some v → u.cell? ⟨m, off + j, none⟩ = some v) : ∀ a, Fr a n D S → Yl P md w a ⟨dst, .load t x, ty, pos, af, g⟩ (.agg ⟨vs⟩) := fun a hf u hu => by
  have h1 : (loadCells ⟨m, off, none⟩ s).run P u = .ok ⟨vs⟩ u := by
    subst hl
    refine (run_loadCells_list (P := P) u ⟨m, off, none⟩ vs fun j v hj => ?_)
    have := hc u hu j v hj
    by_cases hj0 : j = 0
    · subst hj0; simpa [Addr.add] using this
    · simpa [Addr.add, hj0] using this
  simp [execOp, hf.eval hx, Instr.loadAt, Instr.sureAddr, loadVar, run_isAgg_t hs, run_szO (szO_aggS hs), h1]

theorem y_nil {x : Operand} {ad : Addr} (hx : ev S x = some (.pointer (some ad))) : ∀ a, Fr a n D S → Yl P md w a ⟨dst, .nilCheck x, ty, pos, af, g⟩ (.pointer (some ad)) := fun a hf u _ => by
  simp [execOp, hf.eval hx]
theorem y_nilF {x : Operand} {f : FuncId} {l1 l2 : Array Value} (hx : ev S x = some (.func (.func f) l1 l2)) : ∀ a, Fr a n D S → Yl P md w a ⟨dst, .nilCheck x, ty, pos, af, g⟩ (.func (.func f) l1 l2) := fun a hf u _ => by
  simp [execOp, hf.eval hx]
theorem y_nilY {x : Operand} {f : Nat} {l1 l2 : Array Value} (hx : ev S x = some (.func (.yield f) l1 l2)) : ∀ a, Fr a n D S → Yl P md w a ⟨dst, .nilCheck x, ty, pos, af, g⟩ (.func (.yield f) l1 l2) := fun a hf u _ => by
  simp [execOp, hf.eval hx]

theorem y_fieldAddr {s fi : Nat} {x : Operand} {m off fo : Nat} (hx : ev S x = some (.pointer (some ⟨m, off, none⟩))) (hfo : fldO P s fi = some fo) :
    ∀ a, Fr a n D S → Yl P md w a ⟨dst, .fieldAddr s x fi, ty, pos, af, g⟩ (.pointer (some ⟨m, off + fo, none⟩)) := fun a hf u _ => by
  unfold fldO at hfo
  cases hu : P.underlying s with
  | none => simp [hu] at hfo
  | some d =>
    cases d <;> simp [hu] at hfo
    rename_i fs
    cases hfd : fs[fi]? with
    | none => simp [hfd] at hfo
    | some fd =>
      cases hi : P.info? fd.type with
      | none => simp [hfd, hi] at hfo
      | some i =>
        simp [hfd, hi] at hfo
        obtain ⟨h1, h2⟩ := hfo
        have hsz : (sizeOf fd.type).run P u = .ok i.size u := by simp [sizeOf, typeInfo, hi]
        subst h2
        by_cases h0 : fd.offset = 0
        · simp [execOp, hf.eval hx, Instr.fieldAt, Instr.sureAddr, run_und hu, hfd, fieldPlace, hsz, h1, Addr.add, h0]
        · simp [execOp, hf.eval hx, Instr.fieldAt, Instr.sureAddr, run_und hu, hfd, fieldPlace, hsz, h1, Addr.add, h0]

/-- field out of a struct's value -/
theorem y_field {s fi : Nat} {x : Operand} {cs : List Value} {v : Value} (hx : ev S x = some (.agg ⟨cs⟩)) (hv : ∀ u, (Instr.field s (.agg ⟨cs⟩) fi).run P u = .ok v u) :
    ∀ a, Fr a n D S → Yl P md w a ⟨dst, .field s x fi, ty, pos, af, g⟩ v := fun a hf u _ => by
  simp [execOp, hf.eval hx, hv u]

theorem y_extract {x : Operand} {vs : Array Value} {i : Nat} {v : Value} (hx : ev S x = some (.tuple vs)) (hv : vs[i]? = some v) :
    ∀ a, Fr a n D S → Yl P md w a ⟨dst, .extract x i, ty, pos, af, g⟩ v := fun a hf u _ => by
  simp [execOp, hf.eval hx, Instr.extract, hv]

/-! ### A struct or an array built of parts -/
def fldT (P : Program) (t : TypeId) : Option (List (Nat × Nat)) := match P.underlying t with
  | some (.struct fs) => fs.toList.mapM fun f => (P.info? f.type).map fun i => (f.offset, i.size)
  | some (.array n e) => (P.info? e).map fun i => (List.range n).map fun j => (j * i.size, i.size)
  | _ => none
def cellsL (v : Value) : List Value := v.cells.toList
def blds (fs : List (Nat × Nat)) : List Value → List (Nat × Value) → List Value
  | l, [] => l
  | l, (i, v) :: r => blds fs (upds l ((fs[i]?.getD (0, 0)).1) (cellsL v)) r
def okB (fs : List (Nat × Nat)) (len : Nat) : List (Nat × Value) → Bool
  | [] => true
  | (i, v) :: r => match fs[i]? with
    | some (o, s) => Nat.beq (cellsL v).length s && Nat.ble (o + s) len && okB fs len r
    | none => false

theorem fill_step : ∀ (us : List Value) (l : List Value) (o k : Nat), ((us.zipIdx k).foldl (fun (cs : Array Value) (x : Value × Nat) => cs.setIfInBounds (o + x.2) x.1) ⟨l⟩) = ⟨upds l (o + k) us⟩
  | [], l, o, k => rfl
  | u :: r, l, o, k => by
    simp only [List.zipIdx_cons, List.foldl_cons, upds]
    rw [show (⟨l⟩ : Array Value).setIfInBounds (o + k) u = ⟨upd l (o + k) u⟩ by rw [upd_eq]; apply Array.ext'; simp]
    rw [fill_step r _ o (k + 1)]
    rfl

theorem run_fill (fs : List (Nat × Nat)) (place : Nat → Option (Nat × Nat)) (hp : ∀ (i : Nat) (x : Nat × Nat), fs[i]? = some x → place i = some x) : ∀ (ps : List (Nat × Value)) (l : List Value), okB fs l.length ps = true → Instr.fill place ⟨l⟩ ps = some ⟨blds fs l ps⟩
  | [], l, _ => rfl
  | (i, v) :: r, l, h => by
    simp only [okB] at h
    cases hfi : fs[i]? with
    | none => simp [hfi] at h
    | some x =>
      obtain ⟨o, s⟩ := x
      simp only [hfi, Bool.and_eq_true, Nat.beq_eq, Nat.ble_eq] at h
      obtain ⟨⟨h1, h2⟩, h3⟩ := h
      simp only [Instr.fill, hp i _ hfi, blds, hfi, Option.getD_some]
      have hsz : v.cells.size = s := by rw [← h1]; rfl
      rw [if_neg (by simp only [hsz, List.size_toArray, Bool.or_eq_true, decide_eq_true_eq, ne_eq, not_true_eq_false, false_or]; simp; omega)]
      have hf : v.cells.zipIdx.foldl (fun (cs : Array Value) (x : Value × Nat) => cs.setIfInBounds (o + x.2) x.1) ⟨l⟩ = ⟨upds l o (cellsL v)⟩ := by
        rw [← Array.foldl_toList, Array.toList_zipIdx]
        exact fill_step (cellsL v) l o 0
      have hlen : (upds l o (cellsL v)).length = l.length := by
        have : ∀ (us l : List Value) (o : Nat), (upds l o us).length = l.length := fun us => by
          induction us with
          | nil => intro l o; rfl
          | cons u r ih => intro l o; rw [upds, ih, upd_eq, List.length_set]
        exact this _ _ _
      have := run_fill fs place hp r (upds l o (cellsL v)) (by rw [hlen]; exact h3)
      rw [← hf] at this
      exact this

theorem run_mapM (P : Program) (w : World) : ∀ (l : List Field) (ps : List (Nat × Nat)), l.mapM (fun f => (P.info? f.type).map fun i => (f.offset, i.size)) = some ps →
    (l.mapM (fun f => (do pure (f.offset, ← sizeOf f.type) : Sem (Nat × Nat)))).run P w = .ok ps w
  | [], ps, h => by simp at h; subst h; rfl
  | f :: r, ps, h => by
    simp only [List.mapM_cons, Option.bind_eq_bind, Option.pure_def] at h
    cases hi : P.info? f.type with
    | none => simp [hi] at h
    | some i =>
      cases hr : r.mapM (fun f => (P.info? f.type).map fun i => (f.offset, i.size)) with
      | none => simp [hi, hr] at h
      | some qs =>
        simp only [hi, hr, Option.map_some, Option.bind_some, Option.some.injEq] at h
        subst h
        have hsz : (sizeOf f.type).run P w = .ok i.size w := by simp [sizeOf, typeInfo, hi]
        simp only [List.mapM_cons, Sem.run_bind, hsz, Result.andThen_ok, Sem.run_pure, run_mapM P w r qs hr]

theorem nths_all : ∀ (l pre : List Value), nths (pre ++ l) pre.length l.length = some l
  | [], _ => rfl
  | v :: r, pre => by
    have h1 : nth (pre ++ v :: r) pre.length = some v := by rw [nth_eq]; simp
    have h2 := nths_all r (pre ++ [v])
    simp only [List.append_assoc, List.singleton_append, List.length_append, List.length_cons, List.length_nil, Nat.zero_add] at h2
    simp only [List.length_cons, nths, h1, h2]

theorem zip_parts {n : Nat} {D : List Deferred} {S : List (Nat × Value)} {a : Act} (hf : Fr a n D S) {ps : Array (Nat × Operand)} {xs : List Operand} {is : List Nat} {vs : List Value} (hxs : ps.toList.map (·.2) = xs) (his : ps.toList.map (·.1) = is) (hx : evs S xs = some vs) :
    (ps.map fun (i, x) => (i, a.eval x)) = (is.zip vs).toArray := by
  have h2 := hf.evals hx
  have key : ∀ l : List (Nat × Operand), (l.map fun (i, x) => (i, a.eval x)) = (l.map (·.1)).zip ((l.map (·.2)).map a.eval) := fun l => by
    induction l with
    | nil => rfl
    | cons p r ih => simp only [List.map_cons, List.zip_cons_cons, ih]
  rw [← h2, ← hxs, ← his, ← key]
  obtain ⟨l⟩ := ps
  simp

theorem run_build {P : Program} {t : TypeId} {fs : List (Nat × Nat)} {z : List Value} {ps : List (Nat × Value)} (hz : zer P t = some z) (hf : fldT P t = some fs) (hok : okB fs z.length ps = true) (u : World) :
    (Instr.build t ps.toArray).run P u = .ok (.agg ⟨blds fs z ps⟩) u := by
  obtain ⟨zv, hzv, hzc⟩ := run_zer (w := u) hz
  unfold fldT at hf
  cases hu : P.underlying t with
  | none => simp [hu] at hf
  | some d =>
    cases d <;> simp only [hu] at hf <;> try (cases hf)
    case array m e =>
      cases hi : P.info? e with
      | none => simp [hi] at hf
      | some i =>
        simp only [hi, Option.map_some, Option.some.injEq] at hf
        have hsz : (sizeOf e).run P u = .ok i.size u := by simp [sizeOf, typeInfo, hi]
        have hfill := run_fill fs (fun j => some (j * i.size, i.size)) (fun j x hx => by
          subst hf
          rw [List.getElem?_map] at hx
          cases hr : (List.range m)[j]? with
          | none => rw [hr] at hx; simp at hx
          | some q =>
            have hq : j = q := by
              obtain ⟨h1, h2⟩ := List.getElem?_eq_some_iff.1 hr
              simpa using h2
            rw [hr] at hx
            subst hq
            simpa using hx) ps z hok
        simp only [Instr.build, Sem.run_bind, hzv, Result.andThen_ok, hzc, run_und hu, hsz, hfill, Sem.run_pure]
    case struct fl =>
      have hm := run_mapM P u fl.toList fs hf
      have hfill := run_fill fs (fun j => (⟨fs⟩ : Array (Nat × Nat))[j]?) (fun j x hx => by simpa using hx) ps z hok
      simp only [Instr.build, Sem.run_bind, hzv, Result.andThen_ok, hzc, run_und hu]
      rw [Array.mapM_eq_mapM_toList]
      simp only [Sem.run_map, hm, Result.andThen_ok]
      have hfill' : Instr.fill (fun x => fs.toArray[x]?) { toList := z } ps = some { toList := blds fs z ps } := hfill
      rw [hfill']
      rfl

theorem y_build {t : TypeId} {ps : Array (Nat × Operand)} {xs : List Operand} {is : List Nat} {fs : List (Nat × Nat)} {vs cs z : List Value} (hz : zer P t = some z) (hfs : fldT P t = some fs) (hxs : ps.toList.map (·.2) = xs) (his : ps.toList.map (·.1) = is) (hx : evs S xs = some vs)
    (hok : okB fs z.length (is.zip vs) = true) (hcs : nths (blds fs z (is.zip vs)) 0 (blds fs z (is.zip vs)).length = some cs) : ∀ a, Fr a n D S → Yl P md w a ⟨dst, .build t ps, ty, pos, af, g⟩ (.agg ⟨cs⟩) := fun a hf u _ => by
  have h1 := zip_parts hf hxs his hx
  have h2 := nths_all (blds fs z (is.zip vs)) []
  simp only [List.nil_append, List.length_nil] at h2
  rw [h2] at hcs
  cases hcs
  simp only [execOp, h1, Sem.run_bind, run_build hz hfs hok u, Result.andThen_ok, Sem.run_pure]

theorem y_func {f : Fn} {fi ca : Array Operand} {l1 l2 : List Value} (h1 : evs S fi.toList = some l1) (h2 : evs S ca.toList = some l2) :
    ∀ a, Fr a n D S → Yl P md w a ⟨dst, .makeFunc f fi ca, ty, pos, af, g⟩ (.func f ⟨l1⟩ ⟨l2⟩) := fun a hf u _ => by
  have e1 : fi.map a.eval = ⟨l1⟩ := by obtain ⟨l⟩ := fi; simpa using hf.evals h1
  have e2 : ca.map a.eval = ⟨l2⟩ := by obtain ⟨l⟩ := ca; simpa using hf.evals h2
  simp [execOp, Instr.makeFunc, e1, e2]

theorem y_iface {t : TypeId} {x : Operand} {v : Value} {d : TypeDesc} (hx : ev S x = some v) (hu : P.underlying t = some d) (hd : (match d with | .interface _ => false | _ => true) = true) :
    ∀ a, Fr a n D S → Yl P md w a ⟨dst, .makeInterface t x, ty, pos, af, g⟩ (.iface t v) := fun a hf u _ => by
  cases d <;> simp at hd <;> simp [execOp, hf.eval hx, Instr.makeInterface, run_und hu]

/-! integers -/
theorem y_bin {op : BinOp} {t yt : TypeId} {x y : Operand} {vx vy v : Value} (hx : ev S x = some vx) (hy : ev S y = some vy)
    (hb : ∀ u, (do eqGuard op t x y vx vy; binOp op t vx vy : Sem Value).run P u = .ok v u) : ∀ a, Fr a n D S → Yl P md w a ⟨dst, .binOp op t x y yt, ty, pos, af, g⟩ v := fun a hf u _ => by
  have := hb u
  simp only [execOp, hf.eval hx, hf.eval hy, Sem.run_bind] at this ⊢
  rw [this]
  rfl

theorem eqGuard_int {op : BinOp} {t : TypeId} {x y : Operand} {k k' : IntKind} {i j : Int} {u : World} : (eqGuard op t x y (.int k i) (.int k' j)).run P u = .ok () u := by
  unfold eqGuard
  cases op <;> simp

theorem y_add {t yt : TypeId} {x y : Operand} {k : IntKind} {i j z : Int} (hx : ev S x = some (.int k i)) (hy : ev S y = some (.int k j)) (hz : k.wrap (i + j) = z) :
    ∀ a, Fr a n D S → Yl P md w a ⟨dst, .binOp .add t x y yt, ty, pos, af, g⟩ (.int k z) := y_bin hx hy fun u => by
  subst hz; simp [eqGuard_int, binOp, Op.intArith]
theorem y_sub {t yt : TypeId} {x y : Operand} {k : IntKind} {i j z : Int} (hx : ev S x = some (.int k i)) (hy : ev S y = some (.int k j)) (hz : k.wrap (i - j) = z) :
    ∀ a, Fr a n D S → Yl P md w a ⟨dst, .binOp .sub t x y yt, ty, pos, af, g⟩ (.int k z) := y_bin hx hy fun u => by
  subst hz; simp [eqGuard_int, binOp, Op.intArith]
theorem y_mul {t yt : TypeId} {x y : Operand} {k : IntKind} {i j z : Int} (hx : ev S x = some (.int k i)) (hy : ev S y = some (.int k j)) (hz : k.wrap (i * j) = z) :
    ∀ a, Fr a n D S → Yl P md w a ⟨dst, .binOp .mul t x y yt, ty, pos, af, g⟩ (.int k z) := y_bin hx hy fun u => by
  subst hz; simp [eqGuard_int, binOp, Op.intArith]
theorem y_quo {t yt : TypeId} {x y : Operand} {k : IntKind} {i j z : Int} (hx : ev S x = some (.int k i)) (hy : ev S y = some (.int k j)) (hj : j ≠ 0) (hz : k.wrap (i.tdiv j) = z) :
    ∀ a, Fr a n D S → Yl P md w a ⟨dst, .binOp .quo t x y yt, ty, pos, af, g⟩ (.int k z) := y_bin hx hy fun u => by
  subst hz; simp [eqGuard_int, binOp, Op.intDiv, hj]
theorem y_rem {t yt : TypeId} {x y : Operand} {k : IntKind} {i j z : Int} (hx : ev S x = some (.int k i)) (hy : ev S y = some (.int k j)) (hj : j ≠ 0) (hz : i.tmod j = z) :
    ∀ a, Fr a n D S → Yl P md w a ⟨dst, .binOp .rem t x y yt, ty, pos, af, g⟩ (.int k z) := y_bin hx hy fun u => by
  subst hz; simp [eqGuard_int, binOp, Op.intDiv, hj]
theorem y_and_ {t yt : TypeId} {x y : Operand} {k : IntKind} {i j z : Int} (hx : ev S x = some (.int k i)) (hy : ev S y = some (.int k j)) (hz : k.wrap (BitVec.ofInt k.bits i &&& BitVec.ofInt k.bits j).toNat = z) :
    ∀ a, Fr a n D S → Yl P md w a ⟨dst, .binOp .and t x y yt, ty, pos, af, g⟩ (.int k z) := y_bin hx hy fun u => by
  subst hz; simp [eqGuard_int, binOp, Op.intBits]
theorem y_or_ {t yt : TypeId} {x y : Operand} {k : IntKind} {i j z : Int} (hx : ev S x = some (.int k i)) (hy : ev S y = some (.int k j)) (hz : k.wrap (BitVec.ofInt k.bits i ||| BitVec.ofInt k.bits j).toNat = z) :
    ∀ a, Fr a n D S → Yl P md w a ⟨dst, .binOp .or t x y yt, ty, pos, af, g⟩ (.int k z) := y_bin hx hy fun u => by
  subst hz; simp [eqGuard_int, binOp, Op.intBits]
theorem y_xor_ {t yt : TypeId} {x y : Operand} {k : IntKind} {i j z : Int} (hx : ev S x = some (.int k i)) (hy : ev S y = some (.int k j)) (hz : k.wrap (BitVec.ofInt k.bits i ^^^ BitVec.ofInt k.bits j).toNat = z) :
    ∀ a, Fr a n D S → Yl P md w a ⟨dst, .binOp .xor t x y yt, ty, pos, af, g⟩ (.int k z) := y_bin hx hy fun u => by
  subst hz; simp [eqGuard_int, binOp, Op.intBits]
theorem y_shl {t yt : TypeId} {x y : Operand} {k k' : IntKind} {i j z : Int} (hx : ev S x = some (.int k i)) (hy : ev S y = some (.int k' j)) (hj : 0 ≤ j) (hz : k.wrap (i * 2 ^ (min j.toNat k.bits)) = z) :
    ∀ a, Fr a n D S → Yl P md w a ⟨dst, .binOp .shl t x y yt, ty, pos, af, g⟩ (.int k z) := y_bin hx hy fun u => by
  subst hz; simp [eqGuard_int, binOp, Op.shift, Int.not_lt.2 hj]
theorem y_shr {t yt : TypeId} {x y : Operand} {k k' : IntKind} {i j z : Int} (hx : ev S x = some (.int k i)) (hy : ev S y = some (.int k' j)) (hj : 0 ≤ j) (hz : i.fdiv (2 ^ (min j.toNat k.bits)) = z) :
    ∀ a, Fr a n D S → Yl P md w a ⟨dst, .binOp .shr t x y yt, ty, pos, af, g⟩ (.int k z) := y_bin hx hy fun u => by
  subst hz; simp [eqGuard_int, binOp, Op.shift, Int.not_lt.2 hj]
theorem y_eq {t yt : TypeId} {x y : Operand} {k : IntKind} {i j : Int} (hx : ev S x = some (.int k i)) (hy : ev S y = some (.int k j)) :
    ∀ a, Fr a n D S → Yl P md w a ⟨dst, .binOp .eql t x y yt, ty, pos, af, g⟩ (.bool (decide (i = j))) := y_bin hx hy fun u => by
  simp [eqGuard_int, binOp, Op.intCmp]; by_cases h : i = j <;> simp [h]
theorem y_ne {t yt : TypeId} {x y : Operand} {k : IntKind} {i j : Int} (hx : ev S x = some (.int k i)) (hy : ev S y = some (.int k j)) :
    ∀ a, Fr a n D S → Yl P md w a ⟨dst, .binOp .neq t x y yt, ty, pos, af, g⟩ (.bool (decide (i ≠ j))) := y_bin hx hy fun u => by
  simp [eqGuard_int, binOp, Op.intCmp]; by_cases h : i = j <;> simp [h]
theorem y_lt {t yt : TypeId} {x y : Operand} {k : IntKind} {i j : Int} (hx : ev S x = some (.int k i)) (hy : ev S y = some (.int k j)) :
    ∀ a, Fr a n D S → Yl P md w a ⟨dst, .binOp .lss t x y yt, ty, pos, af, g⟩ (.bool (decide (i < j))) := y_bin hx hy fun u => by
  simp [eqGuard_int, binOp, Op.intCmp]
theorem y_le {t yt : TypeId} {x y : Operand} {k : IntKind} {i j : Int} (hx : ev S x = some (.int k i)) (hy : ev S y = some (.int k j)) :
    ∀ a, Fr a n D S → Yl P md w a ⟨dst, .binOp .leq t x y yt, ty, pos, af, g⟩ (.bool (decide (i ≤ j))) := y_bin hx hy fun u => by
  simp [eqGuard_int, binOp, Op.intCmp]
theorem y_gt {t yt : TypeId} {x y : Operand} {k : IntKind} {i j : Int} (hx : ev S x = some (.int k i)) (hy : ev S y = some (.int k j)) :
    ∀ a, Fr a n D S → Yl P md w a ⟨dst, .binOp .gtr t x y yt, ty, pos, af, g⟩ (.bool (decide (j < i))) := y_bin hx hy fun u => by
  simp [eqGuard_int, binOp, Op.intCmp]
theorem y_ge {t yt : TypeId} {x y : Operand} {k : IntKind} {i j : Int} (hx : ev S x = some (.int k i)) (hy : ev S y = some (.int k j)) :
    ∀ a, Fr a n D S → Yl P md w a ⟨dst, .binOp .geq t x y yt, ty, pos, af, g⟩ (.bool (decide (j ≤ i))) := y_bin hx hy fun u => by
  simp [eqGuard_int, binOp, Op.intCmp]
theorem y_not {t : TypeId} {x : Operand} {b : Bool} (hx : ev S x = some (.bool b)) : ∀ a, Fr a n D S → Yl P md w a ⟨dst, .unOp .not t x, ty, pos, af, g⟩ (.bool (!b)) := fun a hf u _ => by
  simp [execOp, hf.eval hx, Op.unary]
theorem y_neg {t : TypeId} {x : Operand} {k : IntKind} {i z : Int} (hx : ev S x = some (.int k i)) (hz : k.wrap (0 - i) = z) : ∀ a, Fr a n D S → Yl P md w a ⟨dst, .unOp .neg t x, ty, pos, af, g⟩ (.int k z) := fun a hf u _ => by
  subst hz; simp [execOp, hf.eval hx, Op.unary, Op.intArith]
theorem y_com {t : TypeId} {x : Operand} {k : IntKind} {i z : Int} (hx : ev S x = some (.int k i)) (hk : k.signed = false) (hz : k.wrap (BitVec.ofInt k.bits k.max ^^^ BitVec.ofInt k.bits i).toNat = z) :
    ∀ a, Fr a n D S → Yl P md w a ⟨dst, .unOp .xor t x, ty, pos, af, g⟩ (.int k z) := fun a hf u _ => by
  subst hz; simp [execOp, hf.eval hx, Op.unary, hk, Op.intBits]
theorem y_conv {s t : TypeId} {x : Operand} {k k' : IntKind} {i z : Int} (hx : ev S x = some (.int k i)) (hs : (P.underlying s).isSome = true) (ht : intO P t = some k') (hz : k'.wrap i = z) :
    ∀ a, Fr a n D S → Yl P md w a ⟨dst, .convert s t x, ty, pos, af, g⟩ (.int k' z) := fun a hf u _ => by
  subst hz
  obtain ⟨d, hd⟩ := Option.isSome_iff_exists.1 hs
  have ht' : P.underlying t = some (.int k') := by
    unfold intO at ht
    cases hu : P.underlying t with
    | none => simp [hu] at ht
    | some d => cases d <;> simp [hu] at ht; subst ht; rfl
  simp [execOp, hf.eval hx, convert, run_und hd, run_und ht', Conv.intToInt]

theorem y_len {t : TypeId} {x : Operand} {p : Option Addr} {l c : Nat} {ts : Array TypeId} {e : TypeId × Nat × Nat} (hx : ev S x = some (.slice p l c)) (hts : ts[0]? = some t) (ht : slcO P t = some e) :
    ∀ a, Fr a n D S → Yl P md w a ⟨dst, .call ⟨.builtin .len, #[x], ts⟩, ty, pos, af, g⟩ (.int .i64 l) := fun a hf u _ => by
  have ht' : ∃ e, P.underlying t = some (.slice e) := by
    unfold slcO at ht
    cases hu : P.underlying t with
    | none => simp [hu] at ht
    | some d => cases d <;> simp [hu] at ht ⊢
  obtain ⟨e', he⟩ := ht'
  simp [execOp, resolve, hf.eval hx, invoke, builtin, Builtin.len_, hts, run_und he, goInt]
theorem y_lenS {t : TypeId} {x : Operand} {s : ByteArray} {ts : Array TypeId} (hx : ev S x = some (.string s)) (hts : ts[0]? = some t) (ht : P.underlying t = some .string) :
    ∀ a, Fr a n D S → Yl P md w a ⟨dst, .call ⟨.builtin .len, #[x], ts⟩, ty, pos, af, g⟩ (.int .i64 s.size) := fun a hf u _ => by
  simp [execOp, resolve, hf.eval hx, invoke, builtin, Builtin.len_, hts, run_und ht, goInt]
theorem y_min {x y : Operand} {k : IntKind} {i j : Int} {ts : Array TypeId} (hx : ev S x = some (.int k i)) (hy : ev S y = some (.int k j)) :
    ∀ a, Fr a n D S → Yl P md w a ⟨dst, .call ⟨.builtin .min, #[x, y], ts⟩, ty, pos, af, g⟩ (.int k (min i j)) := fun a hf u _ => by
  have : (if j < i then j else i) = min i j := by omega
  simp [execOp, resolve, hf.eval hx, hf.eval hy, invoke, builtin, Builtin.min_, Builtin.min2, this]
theorem y_max {x y : Operand} {k : IntKind} {i j : Int} {ts : Array TypeId} (hx : ev S x = some (.int k i)) (hy : ev S y = some (.int k j)) :
    ∀ a, Fr a n D S → Yl P md w a ⟨dst, .call ⟨.builtin .max, #[x, y], ts⟩, ty, pos, af, g⟩ (.int k (max i j)) := fun a hf u _ => by
  have : (if i < j then j else i) = max i j := by omega
  simp [execOp, resolve, hf.eval hx, hf.eval hy, invoke, builtin, Builtin.max_, Builtin.max2, this]
end
end Go.Cx

namespace Go.Cx
set_option linter.unusedVariables false
set_option linter.unusedSimpArgs false
open Go

/-! ### Operations that make or turn memory -/
def ndef (o : Oper) : Bool := match o.op with | .defer _ => false | .select .. => false | _ => true

/-- A contract: the call returns, with no panic. -/
def Rt (R : Value → World → Prop) (e : Ending) (w : World) : Prop := ∃ v, e = .returned v ∧ R v w
def C (P : Program) (f : FuncId) (vs : List Value) (w : World) (R : Value → World → Prop) : Prop := Calls P f ⟨vs⟩ w (Rt R)
theorem C.mono {P : Program} {f : FuncId} {vs : List Value} {w : World} {R R' : Value → World → Prop} (h : C P f vs w R) (hr : ∀ v w, R v w → R' v w) : C P f vs w R' :=
  Calls.mono h fun _ _ ⟨v, he, h⟩ => ⟨v, he, hr _ _ h⟩

def isGo (P : Program) (f : FuncId) : Bool := match P.funcs[f]? with | some fn => fn.name != "runtime.NumGoroutine" && fn.body.isSome | none => false
theorem run_isGo {P : Program} {f : FuncId} (h : isGo P f = true) (args : Array Value) (w : World) : (callFunc f args).run P w = .ok (.enter f args) w := by
  unfold isGo at h
  cases hf : P.funcs[f]? with
  | none => simp [hf] at h
  | some fn =>
    simp [hf] at h
    cases hb : fn.body with
    | none => simp [hb] at h
    | some c => simp [callFunc, hf, h.1, hb]

theorem upds_eq : ∀ (us l : List Value) (o : Nat), o + us.length ≤ l.length → upds l o us = l.take o ++ us ++ l.drop (o + us.length)
  | [], l, o, _ => by simp [upds]
  | u :: r, l, o, h => by
    simp only [List.length_cons] at h
    rw [upds, upds_eq r _ _ (by simp [upd_eq]; omega), upd_eq]
    exact list_seg_step l o u r (by omega)

section
variable {P : Program} {r : Option Nat} {k : Ks} {ops : Array Oper} {md : Md} {n : Nat} {D : List Deferred} {S : List (Nat × Value)} {w : World} {i : Nat} {t : Tr}
variable {ty : TypeId} {pos : String} {af : Array Edge} {g : Option (Nat × Bool)} {dst : Option Tmp} {d : Nat} {w0 : World} {X : Bs} {L : List (Nat × Blk)}

theorem a_val {o : Oper} {v : Value} {w' : World} (ho : opu ops S i = some (o, d)) (hd : Nat.blt d n = true) (hp : ndef o = true) (hrun : ∀ a, Fr a n D S → (execOp a.eval o).run P w = .ok (.value v) w')
    (hh : Hold md w') (h : HR P r k ops md n D ((d, v) :: S) t w') : HR P r k ops md n D S (.act i t) w := fun a hf => by
  obtain ⟨h1, h2, h3⟩ := opu_spec ho hf
  refine ⟨o, h1, fun _ => ?_, fun hw => by rw [h2] at hw; cases hw⟩
  unfold OpW
  rw [semAt_of_plain hp, hrun a hf]
  refine ⟨hh, ?_⟩
  rw [h3]
  exact h _ (hf.put v hd)

theorem a_skp {o : Oper} {w' : World} (ho : opn ops S i = some o) (hp : ndef o = true) (hrun : ∀ a, Fr a n D S → (execOp a.eval o).run P w = .ok .skip w')
    (hh : Hold md w') (h : HR P r k ops md n D S t w') : HR P r k ops md n D S (.act i t) w := fun a hf => by
  obtain ⟨h1, h2, h3⟩ := opn_spec ho hf
  refine ⟨o, h1, fun _ => ?_, fun hw => by rw [h2] at hw; cases hw⟩
  unfold OpW
  rw [semAt_of_plain hp, hrun a hf]
  refine ⟨hh, ?_⟩
  rw [h3]
  exact h _ hf

/-- an operation taken where it stands that turns nothing -/
theorem a_pure {o : Oper} {v : Value} (ho : opu ops S i = some (o, d)) (hd : Nat.blt d n = true) (hp : ndef o = true) (hy : ∀ a, Fr a n D S → Yl P none w a o v) (hh : Hold md w)
    (h : HR P r k ops md n D ((d, v) :: S) t w) : HR P r k ops md n D S (.act i t) w := a_val ho hd hp (fun a hf => hy a hf w rfl) hh h

/-- block m was laid since the drawn region began -/
def Geq (md : Md) (m : Nat) : Prop := match md with | none => True | some (b, _) => b.heap.size ≤ m
theorem Hold.geq {md : Md} {w : World} (h : Hold md w) : Geq md w.heap.size := by
  cases md with
  | none => trivial
  | some x => exact Ext.size h

theorem ext_alloc (w : World) (o : Obj) : Ext No w (w.alloc o) := ⟨rfl, rfl, rfl, by simp, fun j hj _ => by
  show (w.heap.push _)[j]? = _
  rw [Array.getElem?_push, if_neg (by omega)]⟩

theorem a_alloc {e : TypeId} {l : List Value} (ho : opu ops S i = some (⟨dst, .alloc e, ty, pos, af, g⟩, d)) (hd : Nat.blt d n = true) (hz : zer P e = some l) (hm : Mem w0 w X L) (hh : Hold md w)
    (h : ∀ m w', Geq md m → Mem w0 w' X ((m, .row e l) :: L) → Hold md w' → HR P r k ops md n D ((d, .pointer (some ⟨m, 0, none⟩)) :: S) t w') : HR P r k ops md n D S (.act i t) w := by
  obtain ⟨v, hv, hc⟩ := run_zer (w := w) hz
  refine a_val (v := .pointer (some ⟨w.heap.size, 0, none⟩)) (w' := w.alloc (Blk.row e l).toObj) ho hd rfl (fun a hf => ?_) (hh.ext (ext_alloc _ _)) (h _ _ hh.geq (hm.alloc _) (hh.ext (ext_alloc _ _)))
  simp [execOp, Instr.alloc, hv, newVar, newRow, hc, Blk.toObj]

theorem a_box {e : TypeId} {x : Operand} {v : Value} {l : List Value} (ho : opu ops S i = some (⟨dst, .box e x, ty, pos, af, g⟩, d)) (hd : Nat.blt d n = true) (hx : ev S x = some v) (hl : v.cells = ⟨l⟩) (hm : Mem w0 w X L) (hh : Hold md w)
    (h : ∀ m w', Geq md m → Mem w0 w' X ((m, .row e l) :: L) → Hold md w' → HR P r k ops md n D ((d, .pointer (some ⟨m, 0, none⟩)) :: S) t w') : HR P r k ops md n D S (.act i t) w := by
  refine a_val (v := .pointer (some ⟨w.heap.size, 0, none⟩)) (w' := w.alloc (Blk.row e l).toObj) ho hd rfl (fun a hf => ?_) (hh.ext (ext_alloc _ _)) (h _ _ hh.geq (hm.alloc _) (hh.ext (ext_alloc _ _)))
  simp [execOp, hf.eval hx, Instr.box, newVar, newRow, hl, Blk.toObj]

def repZ (z : List Value) : Nat → List Value
  | 0 => []
  | n + 1 => z ++ repZ z n
theorem repZ_length (z : List Value) : ∀ n, (repZ z n).length = n * z.length
  | 0 => by simp [repZ]
  | n + 1 => by simp only [repZ, List.length_append, repZ_length z n, Nat.succ_mul]; omega
theorem repZ_get (z : List Value) (hz : 0 < z.length) : ∀ (n i : Nat), i < n * z.length → (repZ z n)[i]? = z[i % z.length]?
  | 0, i, h => by simp at h
  | n + 1, i, h => by
    simp only [repZ]
    by_cases hi : i < z.length
    · rw [List.getElem?_append_left hi, Nat.mod_eq_of_lt hi]
    · rw [List.getElem?_append_right (by omega), repZ_get z hz n (i - z.length) (by rw [Nat.succ_mul] at h; omega), ← Nat.mod_eq_sub_mod (by omega)]
theorem zeros_eq (z : List Value) (n : Nat) : ((Array.range (n * z.length)).map ((⟨z⟩ : Array Value)[· % (⟨z⟩ : Array Value).size]!)) = ⟨repZ z n⟩ := by
  apply Array.ext'
  apply List.ext_getElem?
  intro i
  simp only [Array.toList_map, Array.toList_range, List.getElem?_map]
  by_cases hi : i < n * z.length
  · have hz : 0 < z.length := by
      rcases Nat.eq_zero_or_pos z.length with h | h
      · rw [h] at hi; simp at hi
      · exact h
    rw [repZ_get z hz n i hi, List.getElem?_range hi]
    have hlt : i % z.length < z.length := Nat.mod_lt _ hz
    simp [hlt]
  · rw [List.getElem?_eq_none (by simp; omega), List.getElem?_eq_none (by rw [repZ_length]; omega)]
    rfl

theorem a_buildSlice {T e es bs : Nat} {len : Nat} {ps : Array (Nat × Operand)} {xs : List Operand} {is : List Nat} {vs l z : List Value} (ho : opu ops S i = some (⟨dst, .buildSlice T len ps, ty, pos, af, g⟩, d)) (hd : Nat.blt d n = true)
    (hT : slcO P T = some (e, es, bs)) (hz : zer P e = some z) (hzl : Nat.beq z.length es = true) (hbig : Nat.ble (len * es) 16777216 = true) (hxs : ps.toList.map (·.2) = xs) (his : ps.toList.map (·.1) = is) (hx : evs S xs = some vs)
    (hok : okB ((List.range len).map fun j => (j * es, es)) (repZ z len).length (is.zip vs) = true)
    (hl : nths (blds ((List.range len).map fun j => (j * es, es)) (repZ z len) (is.zip vs)) 0 (blds ((List.range len).map fun j => (j * es, es)) (repZ z len) (is.zip vs)).length = some l) (hm : Mem w0 w X L) (hh : Hold md w)
    (h : ∀ m w', Geq md m → Mem w0 w' X ((m, .row e l) :: L) → Hold md w' → HR P r k ops md n D ((d, .slice (some ⟨m, 0, none⟩) len len) :: S) t w') : HR P r k ops md n D S (.act i t) w := by
  have hlen : z.length = es := by simpa using hzl
  have h2 := nths_all (blds ((List.range len).map fun j => (j * es, es)) (repZ z len) (is.zip vs)) []
  simp only [List.nil_append, List.length_nil] at h2
  rw [h2] at hl
  cases hl
  refine a_val (v := .slice (some ⟨w.heap.size, 0, none⟩) len len) (w' := w.alloc (Blk.row e (blds ((List.range len).map fun j => (j * es, es)) (repZ z len) (is.zip vs))).toObj) ho hd rfl (fun a hf => ?_) (hh.ext (ext_alloc _ _)) (h _ _ hh.geq (hm.alloc _) (hh.ext (ext_alloc _ _)))
  have h1 := zip_parts hf hxs his hx
  obtain ⟨zv, hzv, hzc⟩ := run_zer (w := w) hz
  have hsl : P.underlying T = some (.slice e) ∧ (sizeOf e).run P w = .ok es w := by
    unfold slcO at hT
    cases hu : P.underlying T with
    | none => simp [hu] at hT
    | some dd =>
      cases dd <;> simp [hu] at hT
      rename_i e'
      cases hi : P.info? e' with
      | none => simp [hi] at hT
      | some ii =>
        simp [hi] at hT
        obtain ⟨rfl, h3, _⟩ := hT
        exact ⟨rfl, by simp [sizeOf, typeInfo, hi, h3]⟩
  have hfill := run_fill ((List.range len).map fun j => (j * es, es)) (fun j => some (j * es, es)) (fun j x hx => by
    rw [List.getElem?_map] at hx
    cases hr : (List.range len)[j]? with
    | none => rw [hr] at hx; simp at hx
    | some q =>
      have hq : j = q := by
        obtain ⟨h1, h2⟩ := List.getElem?_eq_some_iff.1 hr
        simpa using h2
      rw [hr] at hx
      subst hq
      simpa using hx) (is.zip vs) (repZ z len) hok
  have hb : ¬ (len * es > 2 ^ 24) := by have := Nat.le_of_ble_eq_true hbig; omega
  have hrep : ((Array.range (len * es)).map ((⟨z⟩ : Array Value)[· % (⟨z⟩ : Array Value).size]!)) = ⟨repZ z len⟩ := by
    rw [← zeros_eq z len, hlen]
  have hnr : ∀ (cs : Array Value) (u : World), (newRow e cs).run P u = .ok ⟨u.heap.size, 0, none⟩ (u.alloc (.cells cs e)) := fun cs u => by simp [newRow]
  by_cases h0 : len * es = 0
  · have hz0 : repZ z len = [] := List.length_eq_zero_iff.1 (by rw [repZ_length, hlen]; exact h0)
    rw [hz0] at hfill
    simp only [execOp, h1, Sem.run_bind, Instr.buildSlice, run_und hsl.1, Result.andThen_ok, hsl.2, h0, if_true, Sem.run_pure]
    have hr0 : ∀ f : Nat → Value, (Array.range 0).map f = (⟨[]⟩ : Array Value) := fun f => by simp
    have hb0 : ¬ (0 > 2 ^ 24) := by decide
    simp only [hb0, if_false, hr0, hfill, Sem.run_bind, hnr, Result.andThen_ok, Sem.run_pure, hz0]
    rfl
  · simp only [execOp, h1, Sem.run_bind, Instr.buildSlice, run_und hsl.1, Result.andThen_ok, hsl.2, hb, if_false, h0, hzv, hzc, Sem.run_pure, hrep, hfill, hnr]
    rfl

theorem setRow_mem {j m : Nat} {e : TypeId} {l l' : List Value} (hm : Mem w0 w X L) (hk : blk L j = some (m, .row e l)) : Mem w0 (w.setRow m ⟨l'⟩) X (setB L j (.row e l')) := by
  refine hm.set hk _ rfl rfl rfl (by simp [World.setRow]) ?_ ?_
  · exact setRow_heap w m ⟨l⟩ ⟨l'⟩ e (0, 0) (hm.get hk)
  · intro q hq
    simp only [World.setRow, Array.getElem?_modify]
    rw [if_neg (by omega)]

theorem run_storeVar_mid {m off : Nat} {T e : TypeId} {l vs : List Value} {v : Value} (hc : v.cells = ⟨vs⟩) (hs : szO P T = some vs.length) (h1 : vs.all (·.oneCell') = true) (hlt : Nat.ble (off + vs.length) l.length = true)
    (h : w.heap[m]? = some (Blk.row e l).toObj) : (storeVar T ⟨m, off, none⟩ v).run P w = .ok () (w.setRow m ⟨upds l off vs⟩) := by
  have hle : off + vs.length ≤ l.length := by simpa using hlt
  have := run_storeCells_at P m off e vs 0 ⟨l⟩ w h (by simpa using hle) (by simpa using h1)
  simp only [Nat.add_zero] at this
  rw [← upds_eq vs l off hle] at this
  simp [storeVar, run_szO hs, hc, this]

/-- a store into an own block, in text order -/
theorem a_store {T e : TypeId} {x y : Operand} {m off : Nat} {l vs : List Value} {v : Value} (ho : opn ops S i = some ⟨dst, .store T x y, ty, pos, af, g⟩) (hx : ev S x = some (.pointer (some ⟨m, off, none⟩))) (hy : ev S y = some v)
    (hc : v.cells = ⟨vs⟩) (hs : szO P T = some vs.length) (h1 : vs.all (·.oneCell') = true) (hm : Mem w0 w X L) (j : Nat) (hk : blk L j = some (m, .row e l)) (hlt : Nat.ble (off + vs.length) l.length = true)
    (h : ∀ w', Mem w0 w' X (setB L j (.row e (upds l off vs))) → HR P r k ops none n D S t w') : HR P r k ops none n D S (.act i t) w := by
  refine a_skp (w' := w.setRow m ⟨upds l off vs⟩) ho rfl (fun a hf => ?_) trivial (h _ (setRow_mem hm hk))
  simp [execOp, hf.eval hx, hf.eval hy, Instr.storeAt, Instr.sureAddr, run_storeVar_mid hc hs h1 hlt (hm.get hk)]

/-- .. in a drawn region, into a block that was laid since the region began or that the region may turn -/
theorem a_storeN {b : World} {Y : Bs} {T e : TypeId} {x y : Operand} {m off : Nat} {l vs : List Value} {v : Value} (ho : opn ops S i = some ⟨dst, .store T x y, ty, pos, af, g⟩) (hx : ev S x = some (.pointer (some ⟨m, off, none⟩))) (hy : ev S y = some v)
    (hc : v.cells = ⟨vs⟩) (hs : szO P T = some vs.length) (h1 : vs.all (·.oneCell') = true) (hm : Mem w0 w X L) (j : Nat) (hk : blk L j = some (m, .row e l)) (hlt : Nat.ble (off + vs.length) l.length = true) (hh : Hold (some (b, Y)) w) (hb : Geq (some (b, Y)) m ∨ Y m)
    (h : ∀ w', Mem w0 w' X (setB L j (.row e (upds l off vs))) → Hold (some (b, Y)) w' → HR P r k ops (some (b, Y)) n D S t w') : HR P r k ops (some (b, Y)) n D S (.act i t) w := by
  have hh' : Hold (some (b, Y)) (w.setRow m ⟨upds l off vs⟩) := by
    have hh0 : Ext Y b w := hh
    show Ext Y b _
    refine ⟨hh0.os, hh0.tape, hh0.output, by simpa [World.setRow] using hh0.size, fun q hq hY => ?_⟩
    rw [← hh0.same q hq hY]
    simp only [World.setRow, Array.getElem?_modify]
    rw [if_neg]
    intro e; subst e
    rcases hb with hb | hb
    · have hb' : b.heap.size ≤ m := hb
      omega
    · exact hY hb
  refine a_skp (w' := w.setRow m ⟨upds l off vs⟩) ho rfl (fun a hf => ?_) hh' (h _ (setRow_mem hm hk) hh')
  simp [execOp, hf.eval hx, hf.eval hy, Instr.storeAt, Instr.sureAddr, run_storeVar_mid hc hs h1 hlt (hm.get hk)]

/-- a store into a block that is known, in text order -/
theorem a_storeW {T e : TypeId} {x y : Operand} {m off : Nat} {l vs : List Value} {v : Value} (ho : opn ops S i = some ⟨dst, .store T x y, ty, pos, af, g⟩) (hx : ev S x = some (.pointer (some ⟨m, off, none⟩))) (hy : ev S y = some v)
    (hc : v.cells = ⟨vs⟩) (hs : szO P T = some vs.length) (h1 : vs.all (·.oneCell') = true) (hk : w.heap[m]? = some (Blk.row e l).toObj) (hlt : Nat.ble (off + vs.length) l.length = true)
    (h : HR P r k ops none n D S t (w.setRow m ⟨upds l off vs⟩)) : HR P r k ops none n D S (.act i t) w := by
  refine a_skp (w' := w.setRow m ⟨upds l off vs⟩) ho rfl (fun a hf => ?_) trivial h
  simp [execOp, hf.eval hx, hf.eval hy, Instr.storeAt, Instr.sureAddr, run_storeVar_mid hc hs h1 hlt hk]

/-! ### Calls -/
theorem opW_enter {o : Oper} {f : FuncId} {args : Array Value} {R : Value → World → Prop} {K : Act → World → Prop} {a : Act} (hp : ndef o = true) (hrun : (execOp a.eval o).run P w = .ok (.enter f args) w) (hc : Calls P f args w (Rt R))
    (h : ∀ v w', R v w' → K (a.put o.dst v) w') : OpW P r k o K a w := by
  unfold OpW
  rw [semAt_of_plain hp, hrun]
  refine ⟨fun h => by simp [Fw] at h, calls_fw.2 (hc.mono fun e w' he => ?_)⟩
  obtain ⟨v, rfl, hR⟩ := he
  exact h _ _ hR

theorem run_call {c : Operand} {as : Array Operand} {ts : Array TypeId} {f : FuncId} {l1 l2 : Array Value} {vs : List Value} {a : Act} (hf : Fr a n D S) (hc : ev S c = some (.func (.func f) l1 l2)) (ha : evs S as.toList = some vs) (hg : isGo P f = true) :
    (execOp a.eval ⟨dst, .call ⟨.value c, as, ts⟩, ty, pos, af, g⟩).run P w = .ok (.enter f (l1 ++ ⟨vs⟩ ++ l2)) w := by
  have h1 : as.map a.eval = ⟨vs⟩ := by obtain ⟨l⟩ := as; simpa using hf.evals ha
  simp [execOp, resolve, hf.eval hc, h1, Deferred.ofValue, invoke, run_isGo hg]

theorem a_call {as : Array Operand} {ts : Array TypeId} {f : FuncId} {vs : List Value} {R : Value → World → Prop} (ho : opu ops S i = some (⟨dst, .call ⟨.value (.func f), as, ts⟩, ty, pos, af, g⟩, d)) (hd : Nat.blt d n = true)
    (ha : evs S as.toList = some vs) (hg : isGo P f = true) (hc : C P f vs w R) (h : ∀ v w', R v w' → Hold md w' ∧ HR P r k ops md n D ((d, v) :: S) t w') : HR P r k ops md n D S (.act i t) w := fun a hf => by
  obtain ⟨h1, h2, h3⟩ := opu_spec ho hf
  refine ⟨_, h1, fun _ => ?_, fun hw => by rw [h2] at hw; cases hw⟩
  refine opW_enter (f := f) (args := ⟨vs⟩) (R := R) rfl ?_ hc fun v w' hR => ⟨(h v w' hR).1, ?_⟩
  · rw [run_call hf (l1 := #[]) (l2 := #[]) rfl ha hg]; simp
  · rw [h3]
    exact (h v w' hR).2 _ (hf.put v hd)

theorem a_callV {c : Operand} {as : Array Operand} {ts : Array TypeId} {f : FuncId} {l1 l2 : Array Value} {vs : List Value} {R : Value → World → Prop} (ho : opu ops S i = some (⟨dst, .call ⟨.value c, as, ts⟩, ty, pos, af, g⟩, d)) (hd : Nat.blt d n = true)
    (hcv : ev S c = some (.func (.func f) l1 l2)) (ha : evs S as.toList = some vs) (hg : isGo P f = true) (hc : C P f (l1.toList ++ vs ++ l2.toList) w R) (h : ∀ v w', R v w' → Hold md w' ∧ HR P r k ops md n D ((d, v) :: S) t w') : HR P r k ops md n D S (.act i t) w := fun a hf => by
  obtain ⟨h1, h2, h3⟩ := opu_spec ho hf
  refine ⟨_, h1, fun _ => ?_, fun hw => by rw [h2] at hw; cases hw⟩
  refine opW_enter (f := f) (args := ⟨l1.toList ++ vs ++ l2.toList⟩) (R := R) rfl ?_ hc fun v w' hR => ⟨(h v w' hR).1, ?_⟩
  · rw [run_call hf hcv ha hg]; congr 2; obtain ⟨l1⟩ := l1; obtain ⟨l2⟩ := l2; simp
  · rw [h3]
    exact (h v w' hR).2 _ (hf.put v hd)

/-- a call that may be carried out or not (its guard is c): what it returns is v whenever it is -/
theorem a_callG {as : Array Operand} {ts : Array TypeId} {f : FuncId} {vs : List Value} {b c : Bool} {gd : Nat} {v : Value} (ho : opg ops i = some (⟨dst, .call ⟨.value (.func f), as, ts⟩, ty, pos, af, g⟩, d, gd, b)) (hl : look S gd = some (.bool c)) (hd : Nat.blt d n = true)
    (ha : c = b → evs S as.toList = some vs) (hg : isGo P f = true) (hc : c = b → C P f vs w (fun u w' => u = v ∧ Ext No w w')) (hh : Hold md w) (h : ∀ w', Ext No w w' → Hold md w' → HR P r k ops md n D ((d, gv c b v) :: S) t w') : HR P r k ops md n D S (.act i t) w := fun a hf => by
  obtain ⟨h1, h3, gi, og, hgg, hog, hgd⟩ := opg_spec ho
  have hw := wanted_of (ops := ops) hf hgg hog hgd hl
  refine ⟨_, h1, fun hh' => ?_, fun hh' => ?_⟩
  · rw [hw] at hh'
    have hcb : c = b := by simpa using hh'
    refine opW_enter (f := f) (args := ⟨vs⟩) rfl ?_ (hc hcb) fun u w' ⟨hu, hx⟩ => ⟨hh.ext hx, ?_⟩
    · rw [run_call hf (l1 := #[]) (l2 := #[]) rfl (ha hcb) hg]; simp
    · subst hu
      rw [h3]
      have := h w' hx (hh.ext hx) _ (hf.put _ hd)
      simpa [gv, hh'] using this
  · rw [hw] at hh'
    refine ⟨hh, ?_⟩
    rw [h3]
    have := h w (Ext.refl _ _) hh _ (hf.put (gv c b v) hd)
    simpa [gv, hh'] using this

/-- .. its guard being guarded itself -/
theorem a_callGG {as : Array Operand} {ts : Array TypeId} {f : FuncId} {vs : List Value} {b b' c e : Bool} {gd : Nat} {v : Value} (ho : opg ops i = some (⟨dst, .call ⟨.value (.func f), as, ts⟩, ty, pos, af, g⟩, d, gd, b')) (hl : look S gd = some (gv c b (.bool e))) (hd : Nat.blt d n = true)
    (ha : (c == b && e == b') = true → evs S as.toList = some vs) (hg : isGo P f = true) (hc : (c == b && e == b') = true → C P f vs w (fun u w' => u = v ∧ Ext No w w')) (hh : Hold md w) (h : ∀ w', Ext No w w' → Hold md w' → HR P r k ops md n D ((d, gv (c == b && e == b') true v) :: S) t w') : HR P r k ops md n D S (.act i t) w := fun a hf => by
  obtain ⟨h1, h3, gi, og, hgg, hog, hgd⟩ := opg_spec ho
  have hw := wanted_gv (ops := ops) hf hgg hog hgd hl
  refine ⟨_, h1, fun hh' => ?_, fun hh' => ?_⟩
  · rw [hw] at hh'
    refine opW_enter (f := f) (args := ⟨vs⟩) rfl ?_ (hc hh') fun u w' ⟨hu, hx⟩ => ⟨hh.ext hx, ?_⟩
    · rw [run_call hf (l1 := #[]) (l2 := #[]) rfl (ha hh') hg]; simp
    · subst hu
      rw [h3]
      have := h w' hx (hh.ext hx) _ (hf.put _ hd)
      simp only [gv, hh'] at this; exact this
  · rw [hw] at hh'
    refine ⟨hh, ?_⟩
    rw [h3]
    have := h w (Ext.refl _ _) hh _ (hf.put (gv (c == b && e == b') true v) hd)
    simp only [gv, hh'] at this; exact this

/-- a guarded operation whose guard is as wanted: as an unguarded one -/
theorem a_gt {o : Oper} {gd : Nat} {b c : Bool} {K : Act → World → Prop} {a : Act} (hf : Fr a n D S) (ho : opg ops i = some (o, d, gd, b)) (hl : look S gd = some (.bool c)) (hc : c = b) (h : OpW P r k o K a w) : OpG P r k ops i K a w := by
  obtain ⟨h1, h3, gi, og, hgg, hog, hgd⟩ := opg_spec ho
  have hw := wanted_of (ops := ops) hf hgg hog hgd hl
  refine ⟨_, h1, fun _ => h, fun hh => ?_⟩
  rw [hw, hc] at hh
  simp at hh

theorem a_callT {as : Array Operand} {ts : Array TypeId} {f : FuncId} {vs : List Value} {b c : Bool} {gd : Nat} {R : Value → World → Prop} (ho : opg ops i = some (⟨dst, .call ⟨.value (.func f), as, ts⟩, ty, pos, af, g⟩, d, gd, b)) (hl : look S gd = some (.bool c)) (hcb : c = b) (hd : Nat.blt d n = true)
    (ha : evs S as.toList = some vs) (hg : isGo P f = true) (hc : C P f vs w R) (h : ∀ v w', R v w' → Hold md w' ∧ HR P r k ops md n D ((d, v) :: S) t w') : HR P r k ops md n D S (.act i t) w := fun a hf => by
  obtain ⟨h1, h3, _⟩ := opg_spec ho
  refine a_gt hf ho hl hcb (opW_enter (f := f) (args := ⟨vs⟩) (R := R) rfl ?_ hc fun v w' hR => ⟨(h v w' hR).1, ?_⟩)
  · rw [run_call hf (l1 := #[]) (l2 := #[]) rfl ha hg]; simp
  · rw [h3]
    exact (h v w' hR).2 _ (hf.put v hd)

theorem a_valT {o : Oper} {gd : Nat} {b c : Bool} {v : Value} {w' : World} (ho : opg ops i = some (o, d, gd, b)) (hl : look S gd = some (.bool c)) (hcb : c = b) (hd : Nat.blt d n = true) (hp : ndef o = true) (hrun : ∀ a, Fr a n D S → (execOp a.eval o).run P w = .ok (.value v) w')
    (hh : Hold md w') (h : HR P r k ops md n D ((d, v) :: S) t w') : HR P r k ops md n D S (.act i t) w := fun a hf => by
  obtain ⟨h1, h3, _⟩ := opg_spec ho
  refine a_gt hf ho hl hcb ?_
  unfold OpW
  rw [semAt_of_plain hp, hrun a hf]
  refine ⟨hh, ?_⟩
  rw [h3]
  exact h _ (hf.put v hd)

theorem a_gu {o : Oper} {gd : Nat} {b : Bool} (ho : opg ops i = some (o, d, gd, b)) (hl : look S gd = some undef) (hd : Nat.blt d n = true) (hh : Hold md w)
    (h : HR P r k ops md n D ((d, undef) :: S) t w) : HR P r k ops md n D S (.act i t) w := fun a hf => by
  obtain ⟨h1, h3, gi, og, hgg, hog, hgd⟩ := opg_spec ho
  have hw := wanted_un (ops := ops) hf hgg hog hgd hl
  refine ⟨_, h1, fun hh' => (by rw [hw] at hh'; cases hh'), fun _ => ⟨hh, ?_⟩⟩
  rw [h3]
  exact h _ (hf.put _ hd)
/-- a guarded operation whose guard is not as wanted, where it comes up alone -/
theorem a_gf {o : Oper} {gd : Nat} {b c : Bool} (ho : opg ops i = some (o, d, gd, b)) (hl : look S gd = some (.bool c)) (hc : c ≠ b) (hd : Nat.blt d n = true) (hh : Hold md w)
    (h : HR P r k ops md n D ((d, undef) :: S) t w) : HR P r k ops md n D S (.act i t) w := fun a hf => by
  obtain ⟨h1, h3, gi, og, hgg, hog, hgd⟩ := opg_spec ho
  have hw := wanted_of (ops := ops) hf hgg hog hgd hl
  have e : (c == b) = false := by simpa using hc
  refine ⟨_, h1, fun hh' => (by rw [hw, e] at hh'; cases hh'), fun _ => ⟨hh, ?_⟩⟩
  rw [h3]
  exact h _ (hf.put _ hd)
end

/-! ### Code -/
section
variable {P : Program} {r : Option Nat} {c : Code} {k : Ks} {n : Nat} {D : List Deferred} {S : List (Nat × Value)} {w : World}

theorem HW_seq (hc : isSeq c = true) (h : HW P r (fstC c) (k.sq P r (sndC c)) n D S w) : HW P r c k n D S w := fun a hf => W_seq hc (h a hf)
theorem HW_skip (hc : isSkip c = true) (h : GN k n D S w) : HW P r c k n D S w := fun a hf => W_skip hc (h a hf)
theorem HW_ret (hc : isRet c = true) (h : GR k n D S w) : HW P r c k n D S w := fun a hf => W_ret hc (h a hf)
theorem HW_exit {i : Nat} (hc : extI c = some i) (h : GX k i n D S w) : HW P r c k n D S w := fun a hf => W_exit hc (h a hf)
theorem HW_cond {x : Operand} {b : Bool} (hc : conC c = some x) (hb : ev S x = some (.bool b)) (ht : b = true → HW P r (thnC c) k n D S w) (hf : b = false → HW P r (elsC c) k n D S w) : HW P r c k n D S w :=
  fun a hfr => W_cond hc (hfr.eval hb) (fun h => ht h a hfr) (fun h => hf h a hfr)
theorem HW_condT {x : Operand} {b : Bool} (hc : conC c = some x) (hb : ev S x = some (.bool b)) (hbt : b = true) (ht : HW P r (thnC c) k n D S w) : HW P r c k n D S w :=
  HW_cond hc hb (fun _ => ht) (fun h => by rw [hbt] at h; cases h)
theorem HW_condF {x : Operand} {b : Bool} (hc : conC c = some x) (hb : ev S x = some (.bool b)) (hbf : b = false) (hf : HW P r (elsC c) k n D S w) : HW P r c k n D S w :=
  HW_cond hc hb (fun h => by rw [hbf] at h; cases h) (fun _ => hf)
theorem HW_block {i : Nat} (hc : blkI c = some i) (h : HW P r (blkC c) (k.bl i) n D S w) : HW P r c k n D S w := fun a hf => W_block hc (h a hf)

theorem HW_text (t : Tr) (hc : (match c with | .region _ o d => !d && plainOps o && okText o.size 0 t | _ => false) = true) (h : HR P r k (opsC c) none n D S t w) : HW P r c k n D S w := fun a hf => W_text t hc (h a hf)
theorem HW_draw {w0 : World} {X : Bs} {L : List (Nat × Blk)} (t : Tr) (Y : Bs) (hm : P.follows .mixedOrders = true)
    (hc : (match c with | .region _ o d => d && plainOps o && okAny o o.size (Array.replicate o.size false) t | _ => false) = true) (hM : Mem w0 w X L)
    (h : ∀ w', w'.heap = w.heap → Mem w0 w' X L → Hold (some (w', Y)) w' → HR P r k (opsC c) (some (w', Y)) n D S t w') : HW P r c k n D S w := fun a hf =>
  W_draw t Y hm hc fun w' hx he =>
    have hx0 : Ext No w w' := ⟨hx.os, hx.tape, hx.output, hx.size, fun j _ _ => by rw [he]⟩
    h w' he (hM.ext hx0) (Ext.refl _ _) a hf

/-- T's slots are S's. -/
def Sub : List (Nat × Value) → List (Nat × Value) → Prop
  | [], _ => True
  | (i, v) :: r, S => look S i = some v ∧ Sub r S
theorem Sub.look : ∀ {T S : List (Nat × Value)}, Sub T S → ∀ i v, look T i = some v → look S i = some v
  | [], _, _, _, _, h => by simp [Cx.look] at h
  | (j, u) :: r, S, hs, i, v, h => by
    simp only [Cx.look] at h
    by_cases e : Nat.beq j i = true
    · simp only [e, cond_true, Option.some.injEq] at h
      have : j = i := by simpa using e
      subst this; subst h
      exact hs.1
    · have e' : Nat.beq j i = false := Bool.eq_false_iff.2 e
      simp only [e', cond_false] at h
      exact Sub.look hs.2 i v h
theorem HW_sub (T : List (Nat × Value)) (hT : Sub T S) (h : HW P r c k n D T w) : HW P r c k n D S w := fun a hf => h a (hf.sub hT.look)

theorem least (Q : Nat → Prop) (h : ∃ m, Q m) : ∃ m, Q m ∧ ∀ j, Q j → m ≤ j := by
  obtain ⟨m, hm⟩ := h
  induction m using Nat.strongRecOn with
  | _ m ih =>
    by_cases hx : ∃ j, j < m ∧ Q j
    · obtain ⟨j, hj, hq⟩ := hx
      exact ih j hj hq
    · exact ⟨m, hm, fun j hj => Nat.le_of_not_lt fun hlt => hx ⟨j, hlt, hj⟩⟩

/-- A loop: x is the state that the proof keeps: the slots Sx x hold at every round's head, and M x of the world; μ goes down. -/
theorem HW_loop {ι : Type} {b : Code} (hc : lopC c = some b) (Sx : ι → List (Nat × Value)) (M : ι → World → Prop) (μ : ι → Nat) (x0 : ι) (h0 : M x0 w) (hS : Sub (Sx x0) S)
    (round : ∀ x w, M x w → HW P r (lopB c) (k.lp Sx M μ x n D) n D (Sx x) w) : HW P r c k n D S w := fun a hf => by
  let Q : Act → World → Nat → Prop := fun a w m => ∃ x, μ x = m ∧ M x w ∧ Fr a n D (Sx x)
  let ms : Act → World → Nat := fun a w => open Classical in if h : ∃ m, Q a w m then Classical.choose (least _ h) else 0
  refine W_loop hc (fun a w => ∃ x, M x w ∧ Fr a n D (Sx x)) ms ⟨x0, h0, hf.sub hS.look⟩ ?_
  rintro a w ⟨x, hM, hF⟩
  have hex : ∃ m, Q a w m := ⟨μ x, x, rfl, hM, hF⟩
  have hms : ms a w = Classical.choose (least _ hex) := by simp only [ms]; rw [dif_pos hex]
  obtain ⟨⟨y, hy, hMy, hFy⟩, _⟩ := Classical.choose_spec (least _ hex)
  refine W_mono (round y w hMy a hFy) ?_ (fun _ _ h => h) (fun _ _ _ h => h)
  rintro a' w' ⟨z, hlt, hMz, hFz⟩
  refine ⟨⟨z, hMz, hFz⟩, ?_⟩
  have hex' : ∃ m, Q a' w' m := ⟨μ z, z, rfl, hMz, hFz⟩
  have hms' : ms a' w' = Classical.choose (least _ hex') := by simp only [ms]; rw [dif_pos hex']
  have hle := (Classical.choose_spec (least _ hex')).2 (μ z) ⟨z, rfl, hMz, hFz⟩
  rw [hms', hms]
  omega

/-- a round's end -/
theorem next {ι : Type} {Sx : ι → List (Nat × Value)} {M : ι → World → Prop} {μ : ι → Nat} {x : ι} (y : ι) (hμ : μ y < μ x) (hM : M y w) (hS : Sub (Sx y) S) : GN (k.lp Sx M μ x n D) n D S w :=
  fun _ hf => ⟨y, hμ, hM, hf.sub hS.look⟩

/-- T holds S's slots of these numbers. -/
inductive Pick (S : List (Nat × Value)) : List Nat → List (Nat × Value) → Prop where
  | nil : Pick S [] []
  | cons {i : Nat} {v : Value} {ks : List Nat} {T : List (Nat × Value)} (h : look S i = some v) (hr : Pick S ks T) : Pick S (i :: ks) ((i, v) :: T)
theorem Pick.sub {ks : List Nat} {T : List (Nat × Value)} (h : Pick S ks T) : Sub T S := by
  induction h with
  | nil => trivial
  | cons h _ ih => exact ⟨h, ih⟩
theorem Sub.app : ∀ {A T S : List (Nat × Value)}, Sub A S → Sub T S → Sub (A ++ T) S
  | [], _, _, _, h => h
  | (_, _) :: _, _, _, h, g => ⟨h.1, h.2.app g⟩
/-- .. as 'HW_loop', whatever slots ks stand as they are -/
theorem HW_loopK {ι : Type} {b : Code} (hc : lopC c = some b) {ks : List Nat} {T : List (Nat × Value)} (hp : Pick S ks T) (Vx : ι → List (Nat × Value)) (M : ι → World → Prop) (μ : ι → Nat) (x0 : ι) (h0 : M x0 w) (hS : Sub (Vx x0) S)
    (round : ∀ x w, M x w → HW P r (lopB c) (k.lp (fun x => Vx x ++ T) M μ x n D) n D (Vx x ++ T) w) : HW P r c k n D S w :=
  HW_loop hc (fun x => Vx x ++ T) M μ x0 h0 (hS.app hp.sub) round
/-- A piece, and what stands behind it, by way of a state x. -/
def Ks.vi {ι : Type} (k : Ks) (Sx : ι → List (Nat × Value)) (M : ι → World → Prop) (n : Nat) (D : List Deferred) : Ks := { k with norm := fun a w => ∃ y, M y w ∧ Fr a n D (Sx y) }
theorem HW_via {ι : Type} (hc : isSeq c = true) {ks : List Nat} {T : List (Nat × Value)} (hp : Pick S ks T) (Vx : ι → List (Nat × Value)) (M : ι → World → Prop)
    (h1 : HW P r (fstC c) (k.vi (fun x => Vx x ++ T) M n D) n D S w) (h2 : ∀ x w, M x w → HW P r (sndC c) k n D (Vx x ++ T) w) : HW P r c k n D S w :=
  HW_seq hc fun a hf => W_mono (h1 a hf) (fun a w ⟨y, hM, hF⟩ => h2 y w hM a hF) (fun _ _ h => h) (fun _ _ _ h => h)
theorem gn_vi {ι : Type} {Sx : ι → List (Nat × Value)} {M : ι → World → Prop} (y : ι) (hM : M y w) (hS : Sub (Sx y) S) : GN (k.vi Sx M n D) n D S w := fun _ hf => ⟨y, hM, hf.sub hS.look⟩
theorem gr_vi {ι : Type} {Sx : ι → List (Nat × Value)} {M : ι → World → Prop} {m : Nat} {D' : List Deferred} (h : GR k n D S w) : GR (k.vi Sx M m D') n D S w := h
theorem gx_vi {ι : Type} {Sx : ι → List (Nat × Value)} {M : ι → World → Prop} {m : Nat} {D' : List Deferred} {i : Nat} (h : GX k i n D S w) : GX (k.vi Sx M m D') i n D S w := h

/-! ### A function's entry and end -/
def Fin (P : Program) (fn : Func) (R : Value → World → Prop) (a : Act) (w : World) : Prop := a.defers = [] ∧ ∃ v, (results fn a.tmps).run P w = .ok v w ∧ R v w
def Kf (P : Program) (fn : Func) (R : Value → World → Prop) : Ks := { norm := Fin P fn R, ret := Fin P fn R, ex := fun _ _ _ => False }

theorem C_of {f : FuncId} {fn : Func} {vs : List Value} {R : Value → World → Prop} (hf : P.funcs[f]? = some fn) (hb : fn.body.isSome = true) (hn : fn.ntmps = n) (hl : Nat.ble vs.length n = true)
    (h : ∀ k : Ks, (∀ a w, Fin P fn R a w → k.ret a w) → (∀ a w, Fin P fn R a w → k.norm a w) → HW P none (bodC fn) k n [] (slots 0 vs) w) : C P f vs w R := by
  obtain ⟨c, hc⟩ := Option.isSome_iff_exists.1 hb
  have hbod : bodC fn = c := by simp [bodC, hc]
  refine calls_of_wp hf hc ?_
  have hfr := Fr.init vs n (by simpa using hl)
  have hW := h (Kf P fn R) (fun _ _ h => h) (fun _ _ h => h) _ hfr
  rw [hbod] at hW
  have hW' : c.wp P (Kf P fn R).q { tmps := vs.toArray ++ Array.replicate (n - vs.toArray.size) undef, defers := [] } w := wpIn_wide.1 hW
  subst hn
  refine wp_mono hW' fun e a w' hq => ?_
  cases e with
  | normal => obtain ⟨hd, v, hr, hR⟩ := hq; exact ⟨hd, v, hr, v, rfl, hR⟩
  | ret => obtain ⟨hd, v, hr, hR⟩ := hq; exact ⟨hd, v, hr, v, rfl, hR⟩
  | exit i => exact hq.elim
  | goto l => exact hq.elim
  | panic c => exact hq.elim
  | outgrown => exact hq.elim

/-- What the result variables hold. -/
inductive Rs (P : Program) (w : World) (S : List (Nat × Value)) : List ResultVar → List Value → Prop where
  | nil : Rs P w S [] []
  | tmp {t : Tmp} {v : Value} {rs : List ResultVar} {vs : List Value} (h : look S t = some v) (hr : Rs P w S rs vs) : Rs P w S (.tmp t :: rs) (v :: vs)
  | cell {t T m off : Nat} {v : Value} {rs : List ResultVar} {vs : List Value} (h : look S t = some (.pointer (some ⟨m, off, none⟩))) (hv : (loadVar T ⟨m, off, none⟩).run P w = .ok v w) (hr : Rs P w S rs vs) : Rs P w S (.cell t T :: rs) (v :: vs)

def tup : List Value → Value | [v] => v | vs => .tuple ⟨vs⟩
inductive Tup : List Value → Value → Prop where
  | nil : Tup [] (.tuple ⟨[]⟩)
  | one {v : Value} : Tup [v] v
  | more {a b : Value} {l : List Value} : Tup (a :: b :: l) (.tuple ⟨a :: b :: l⟩)
theorem Tup.eq {vs : List Value} {v : Value} (h : Tup vs v) : tup vs = v := by cases h <;> rfl

def resOne (tmps : Array Value) : ResultVar → Sem Value
  | .tmp t => pure (tmps.getD t undef)
  | .cell x T => do loadVar T (← asAddr (tmps.getD x undef))

theorem Rs.run {a : Act} {rs : List ResultVar} {vs : List Value} (h : Rs P w S rs vs) (hf : Fr a n D S) : (rs.mapM (resOne a.tmps)).run P w = .ok vs w := by
  induction h with
  | nil => rfl
  | tmp h hr ih =>
    have := hf.get _ _ h
    simp [List.mapM_cons, resOne, Array.getD_eq_getD_getElem?, this, ih]
  | cell h hv hr ih =>
    have := hf.get _ _ h
    simp [List.mapM_cons, resOne, Array.getD_eq_getD_getElem?, this, asAddr, hv, ih]

theorem fin {K : Act → World → Prop} {fn : Func} {R : Value → World → Prop} {rs : List ResultVar} {vs : List Value} {v : Value} (hk : ∀ a w, Fin P fn R a w → K a w) (hr : fn.results.toList = rs) (h : Rs P w S rs vs) (ht : Tup vs v) (hR : R v w) : GoD K n [] S w := fun a hf => by
  rw [← ht.eq] at hR
  refine hk a w ?_
  refine ⟨hf.defers, tup vs, ?_, hR⟩
  have := h.run hf
  subst hr
  have he : results fn a.tmps = (do
      let vs ← fn.results.mapM (resOne a.tmps)
      pure (if h : vs.size = 1 then vs[0] else .tuple vs)) := rfl
  rw [he, Sem.run_bind, Array.mapM_eq_mapM_toList]
  simp only [Sem.run_map, this, Result.andThen_ok, Sem.run_pure]
  congr 1
  match vs with
  | [] => rfl
  | [v] => rfl
  | v :: u :: l => simp [tup]
end
end Go.Cx

namespace Go.Cx
set_option linter.unusedVariables false
set_option linter.unusedSimpArgs false
open Go

section
variable {S : List (Nat × Value)} {x : Operand} {v : Value} {xs : List Operand} {vs : List Value}
theorem gvT {c b : Bool} (h : c = b) (v : Value) : gv c b v = v := by simp [gv, h]
theorem gx {c b : Bool} (hc : c = b) (h : ev S x = some (gv c b v)) : ev S x = some v := by rw [h, gvT hc]
theorem g_out {c b d b' : Bool} (h : (c == b && d == b') = true) : c = b := by simp at h; exact h.1
theorem gxo {c b d b' : Bool} (hc : (c == b && d == b') = true) (h : ev S x = some (gv c b v)) : ev S x = some v := gx (g_out hc) h
theorem gvn {c b d b' : Bool} (hc : c = b) (h : ev S x = some (gv (c == b && d == b') true v)) : ev S x = some (gv d b' v) := by
  rw [h]; subst hc; simp [gv]
theorem evs_n : evs S [] = some [] := rfl
theorem evs_c (hx : ev S x = some v) (hr : evs S xs = some vs) : evs S (x :: xs) = some (v :: vs) := by simp [evs, hx, hr]
end

section
variable {P : Program} {md : Md} {w : World} {n : Nat} {D : List Deferred} {S : List (Nat × Value)} {o : Oper}
theorem y_as {b c : Bool} (hy : ∀ a, Fr a n D S → Yl P md w a o (.bool b)) (h : b = c) : ∀ a, Fr a n D S → Yl P md w a o (.bool c) := h ▸ hy
theorem y_v {u v : Value} (hy : ∀ a, Fr a n D S → Yl P md w a o u) (h : u = v) : ∀ a, Fr a n D S → Yl P md w a o v := h ▸ hy
variable {dst : Option Tmp} {ty : TypeId} {pos : String} {af : Array Edge} {g : Option (Nat × Bool)}
theorem y_pickT {c x y : Operand} {v : Value} (hc : ev S c = some (.bool true)) (hx : ev S x = some v) : ∀ a, Fr a n D S → Yl P md w a ⟨dst, .pick c x y, ty, pos, af, g⟩ v := fun a hf u _ => by
  simp [execOp, hf.eval hc, hf.eval hx, asBool]
theorem y_pickF {c x y : Operand} {v : Value} (hc : ev S c = some (.bool false)) (hy : ev S y = some v) : ∀ a, Fr a n D S → Yl P md w a ⟨dst, .pick c x y, ty, pos, af, g⟩ v := fun a hf u _ => by
  simp [execOp, hf.eval hc, hf.eval hy, asBool]
theorem y_seql {t yt : TypeId} {x y : Operand} {a b : ByteArray} (hx : ev S x = some (.string a)) (hy : ev S y = some (.string b)) :
    ∀ c, Fr c n D S → Yl P md w c ⟨dst, .binOp .eql t x y yt, ty, pos, af, g⟩ (.bool (a.toList == b.toList)) := y_bin hx hy fun u => by
  simp [eqGuard, binOp, Op.stringOp]
theorem y_sneq {t yt : TypeId} {x y : Operand} {a b : ByteArray} (hx : ev S x = some (.string a)) (hy : ev S y = some (.string b)) :
    ∀ c, Fr c n D S → Yl P md w c ⟨dst, .binOp .neq t x y yt, ty, pos, af, g⟩ (.bool (!(a.toList == b.toList))) := y_bin hx hy fun u => by
  simp [eqGuard, binOp, Op.stringOp]
theorem run_eqB {P : Program} {d : Nat} {t : TypeId} {a b : Bool} (hu : P.underlying t = some .bool) (u : World) : (Op.equalIn (d + 1) t (.bool a) (.bool b)).run P u = .ok (a == b) u := by
  simp [Op.equalIn, run_und hu]
theorem run_eqB' {P : Program} {t : TypeId} {a b : Bool} (hu : P.underlying t = some .bool) (u : World) : (Op.equal t (.bool a) (.bool b)).run P u = .ok (a == b) u := run_eqB (d := 9999) hu u
theorem eqGuard_bool {P : Program} {op : BinOp} {t : TypeId} {x y : Operand} {a b : Bool} {u : World} : (eqGuard op t x y (.bool a) (.bool b)).run P u = .ok () u := by
  unfold eqGuard
  cases op <;> simp
theorem y_beql {t yt : TypeId} {x y : Operand} {a b : Bool} (hx : ev S x = some (.bool a)) (hy : ev S y = some (.bool b)) (hu : P.underlying t = some .bool) :
    ∀ c, Fr c n D S → Yl P md w c ⟨dst, .binOp .eql t x y yt, ty, pos, af, g⟩ (.bool (a == b)) := y_bin hx hy fun u => by
  simp [eqGuard_bool, binOp, run_eqB' hu]
theorem y_bneq {t yt : TypeId} {x y : Operand} {a b : Bool} (hx : ev S x = some (.bool a)) (hy : ev S y = some (.bool b)) (hu : P.underlying t = some .bool) :
    ∀ c, Fr c n D S → Yl P md w c ⟨dst, .binOp .neq t x y yt, ty, pos, af, g⟩ (.bool (!(a == b))) := y_bin hx hy fun u => by
  simp [eqGuard_bool, binOp, run_eqB' hu]
end

section
variable {P : Program} {r : Option Nat} {k : Ks} {ops : Array Oper} {md : Md} {n : Nat} {D : List Deferred} {S : List (Nat × Value)} {w : World} {i j l : Nat} {t u v : Tr}
/-- from here on in the order of the text -/
theorem a_cut (h : HR P r k ops none n D S t w) : HR P r k ops md n D S (.cut t) w := fun a hf => h a hf
theorem a_two (h1 : HR P r k ops md n D S (.act i t) w) (h2 : HR P r k ops md n D S (.act j u) w) : HR P r k ops md n D S (.act2 i t j u) w := fun a hf => ⟨h1 a hf, h2 a hf⟩
theorem a_three (h1 : HR P r k ops md n D S (.act i t) w) (h2 : HR P r k ops md n D S (.act j u) w) (h3 : HR P r k ops md n D S (.act l v) w) : HR P r k ops md n D S (.act3 i t j u l v) w := fun a hf => ⟨h1 a hf, h2 a hf, h3 a hf⟩
end

theorem nowT {Q : World → Prop} {w : World} (h : Q w) : ∀ u, Near none w u → Q u := fun u hu => by cases hu; exact h
theorem i64w {x : Int} (h1 : -9223372036854775808 ≤ x) (h2 : x ≤ 9223372036854775807) : IntKind.i64.wrap x = x := by
  have e : IntKind.i64.wrap x = if (x % 18446744073709551616) ≥ 9223372036854775808 then x % 18446744073709551616 - 18446744073709551616 else x % 18446744073709551616 := by
    simp [IntKind.wrap, IntKind.signed, IntKind.bits]
  rw [e]
  split <;> omega
theorem u64w {x : Int} (h1 : 0 ≤ x) (h2 : x ≤ 18446744073709551615) : IntKind.u64.wrap x = x := by
  have e : IntKind.u64.wrap x = x % 18446744073709551616 := by simp [IntKind.wrap, IntKind.signed, IntKind.bits]
  rw [e]; omega
theorem u32w {x : Int} (h1 : 0 ≤ x) (h2 : x ≤ 4294967295) : IntKind.u32.wrap x = x := by
  have e : IntKind.u32.wrap x = x % 4294967296 := by simp [IntKind.wrap, IntKind.signed, IntKind.bits]
  rw [e]; omega
theorem u8w {x : Int} (h1 : 0 ≤ x) (h2 : x ≤ 255) : IntKind.u8.wrap x = x := by
  have e : IntKind.u8.wrap x = x % 256 := by simp [IntKind.wrap, IntKind.signed, IntKind.bits]
  rw [e]; omega
end Go.Cx

namespace Go.Cx
set_option linter.unusedVariables false
set_option linter.unusedSimpArgs false
open Go

/-- From the address p on lie the cells cs. -/
def Rd (w : World) : Option Addr → List Value → Prop
  | none, cs => cs = []
  | some a, cs => (cs ≠ [] → a.spot = none) ∧ ∀ j v, cs[j]? = some v → w.cell? ⟨a.block, a.off + j, none⟩ = some v

theorem cell_lt {w : World} {a : Addr} {v : Value} (h : w.cell? a = some v) : a.block < w.heap.size := by
  unfold World.cell? at h
  split at h
  · rename_i c _ _ hc; exact (Array.getElem?_eq_some_iff.1 hc).1
  · cases h
theorem cell_same {w w' : World} {a : Addr} (h : w'.heap[a.block]? = w.heap[a.block]?) : w'.cell? a = w.cell? a := by simp [World.cell?, h]

theorem Rd.ext {w w' : World} {p : Option Addr} {cs : List Value} {Y : Bs} (h : Rd w p cs) (hx : Ext Y w w') (hY : ∀ a, p = some a → ¬ Y a.block) : Rd w' p cs := by
  cases p with
  | none => exact h
  | some a => exact ⟨h.1, fun j v hj => by
      have h1 := h.2 j v hj
      rw [cell_same (a := ⟨a.block, a.off + j, none⟩) (hx.same a.block (cell_lt (a := ⟨a.block, a.off + j, none⟩) h1) (hY a rfl))]
      exact h1⟩
theorem Rd.ext0 {w w' : World} {p : Option Addr} {cs : List Value} (h : Rd w p cs) (hx : Ext No w w') : Rd w' p cs := h.ext hx fun _ _ h => h

theorem Rd.row {w : World} {g off : Nat} {e : TypeId} {l cs : List Value} (h : w.heap[g]? = some (Blk.row e l).toObj) (hl : ∀ (j : Nat) v, cs[j]? = some v → l[off + j]? = some v) : Rd w (some ⟨g, off, none⟩) cs :=
  ⟨fun _ => rfl, fun j v hj => by rw [cell_row h]; exact hl j v hj⟩
theorem Rd.row0 {w : World} {g : Nat} {e : TypeId} {l : List Value} (h : w.heap[g]? = some (Blk.row e l).toObj) : Rd w (some ⟨g, 0, none⟩) l := Rd.row h fun j v hj => by simpa using hj
theorem Rd.pre {w : World} {p : Option Addr} {cs ds : List Value} (h : Rd w p cs) (hp : ∀ (j : Nat) v, ds[j]? = some v → cs[j]? = some v) (hn : p = none → ds = []) : Rd w p ds := by
  cases p with
  | none => exact hn rfl
  | some a => exact ⟨fun hd => h.1 fun e => by
      subst e
      cases ds with
      | nil => exact hd rfl
      | cons v r => have := hp 0 v rfl; simp at this, fun j v hj => h.2 j v (hp j v hj)⟩
theorem Rd.take {w : World} {p : Option Addr} {cs : List Value} (h : Rd w p cs) (m : Nat) : Rd w p (cs.take m) :=
  Rd.pre h (fun j v hj => by rw [List.getElem?_take] at hj; split at hj <;> simp_all) (fun e => by subst e; have h : cs = [] := h; simp [h])

/-- the address behind a cut at l elements of es cells -/
def slp (p : Option Addr) (cap l es : Nat) : Option Addr := if cap = l then p else p.map fun a => ⟨a.block, a.off + l * es, none⟩
theorem slp_zero {p : Option Addr} {cap es : Nat} (hp : ∀ a, p = some a → a.spot = none) : slp p cap 0 es = p := by
  unfold slp
  split
  · rfl
  · cases p with
    | none => rfl
    | some a => obtain ⟨b, o, s⟩ := a; have : s = none := hp _ rfl; subst this; simp
theorem Rd.spot {w : World} {p : Option Addr} {cs : List Value} (h : Rd w p cs) (hc : cs ≠ []) : ∀ a, p = some a → a.spot = none := fun a e => by subst e; exact h.1 hc
theorem Rd.slp {w : World} {p : Option Addr} {cs ds : List Value} {cap l es : Nat} (h : Rd w p cs) (hd : ∀ (j : Nat) v, ds[j]? = some v → cs[l * es + j]? = some v) (he : cap = l → ds = []) : Rd w (slp p cap l es) ds := by
  unfold Cx.slp
  split
  · rename_i e
    rw [he e]
    cases p with
    | none => rfl
    | some a => exact ⟨fun h => absurd rfl h, by simp⟩
  · cases p with
    | none =>
      have h : cs = [] := h
      subst h
      cases ds with
      | nil => rfl
      | cons v r => have := hd 0 v rfl; simp at this
    | some a => exact ⟨fun _ => rfl, fun j v hj => by
        have h1 := h.2 _ v (hd j v hj)
        rw [show a.off + l * es + j = a.off + (l * es + j) by omega]
        exact h1⟩

/-- The call's own slice of n elements (es cells each), of type e: nothing yet (b is a gap), or the head of block g, which is b. -/
structure Acc (e es : Nat) (p : Option Addr) (n cap : Nat) (cells : List Value) (g : Nat) (b : Blk) : Prop where
  len : cells.length = n * es
  cases' : (n = 0 ∧ cap = 0 ∧ b = .gap) ∨ (∃ l, p = some ⟨g, 0, none⟩ ∧ b = .row e l ∧ n ≤ cap ∧ l.length = cap * es ∧ l.take (n * es) = cells)

theorem Acc.nil (e es : Nat) (p : Option Addr) (g : Nat) : Acc e es p 0 0 [] g .gap := ⟨by simp, .inl ⟨rfl, rfl, rfl⟩⟩
/-- a row, as it was laid -/
theorem Acc.row {e es g n : Nat} {l : List Value} (h : l.length = n * es) : Acc e es (some ⟨g, 0, none⟩) n n l g (.row e l) := ⟨h, .inr ⟨l, rfl, rfl, Nat.le_refl _, h, by rw [← h, List.take_length]⟩⟩

theorem Acc.rd {w0 w : World} {X : Bs} {L : List (Nat × Blk)} {e es n cap g : Nat} {b : Blk} {p : Option Addr} {cells : List Value} (h : Acc e es p n cap cells g b) (hm : Mem w0 w X L) (j : Nat) (hj : blk L j = some (g, b)) : Rd w p cells := by
  rcases h.cases' with ⟨h1, _, _⟩ | ⟨l, hpg, hB, _, _, h4⟩
  · have hl := h.len
    rw [h1, Nat.zero_mul] at hl
    have : cells = [] := List.length_eq_zero_iff.1 hl
    subst this
    cases p with
    | none => rfl
    | some a => exact ⟨fun h => absurd rfl h, by simp⟩
  · subst hpg hB
    exact Rd.row (hm.get hj) fun j v hj => by
      rw [← h4, List.getElem?_take] at hj
      split at hj
      · simpa using hj
      · cases hj

section
variable {w0 w w' : World} {X : Bs} {L B : List (Nat × Blk)}

theorem reals_app (L B : List (Nat × Blk)) : reals (L ++ B) = reals L ++ reals B := by simp [reals]
theorem reals_perm {L L' : List (Nat × Blk)} (hp : L.Perm L') : (reals L).Perm (reals L') := by unfold reals; exact (hp.filter _).map _
theorem reals_sub {L L' : List (Nat × Blk)} (hs : L'.Sublist L) : (reals L').Sublist (reals L) := by unfold reals; exact (hs.filter _).map _
theorem Mem.perm {L' : List (Nat × Blk)} (h : Mem w0 w X L) (hp : L.Perm L') : Mem w0 w X L' :=
  ⟨h.os, h.tape, h.output, h.size, h.same, fun p hh => h.own p (hp.mem_iff.2 hh), fun p hh => h.fresh p (hp.mem_iff.2 hh), (reals_perm hp).nodup_iff.1 h.nodup⟩
theorem Mem.drop {L' : List (Nat × Blk)} (h : Mem w0 w X L) (hs : L'.Sublist L) : Mem w0 w X L' :=
  ⟨h.os, h.tape, h.output, h.size, h.same, fun p hh => h.own p (hs.subset hh), fun p hh => h.fresh p (hs.subset hh), h.nodup.sublist (reals_sub hs)⟩
theorem Mem.left (h : Mem w0 w X (L ++ B)) : Mem w0 w X L := h.drop (List.sublist_append_left _ _)
theorem Mem.right (h : Mem w0 w X (L ++ B)) : Mem w0 w X B := h.drop (List.sublist_append_right _ _)
theorem Mem.tail {b : Nat × Blk} (h : Mem w0 w X (b :: L)) : Mem w0 w X L := h.drop (List.sublist_cons_self _ _)
/-- keep the entries of these places -/
def pickL (L : List (Nat × Blk)) : List Nat → List (Nat × Blk)
  | [] => []
  | k :: r => match blk L k with | some q => q :: pickL L r | none => pickL L r
theorem perm_get : ∀ (L : List (Nat × Blk)) (k : Nat) (q : Nat × Blk), blk L k = some q → L.Perm (q :: L.eraseIdx k)
  | [], _, _, h => by simp [blk] at h
  | b :: r, 0, q, h => by simp only [blk, Option.some.injEq] at h; subst h; simp
  | b :: r, k + 1, q, h => by
    simp only [blk] at h
    simp only [List.eraseIdx_cons_succ]
    exact (List.Perm.cons b (perm_get r k q h)).trans (List.Perm.swap q b _)
theorem perm_setB : ∀ (L : List (Nat × Blk)) (k n : Nat) (b x : Blk), blk L k = some (n, b) → (setB L k x).Perm ((n, x) :: L.eraseIdx k)
  | [], _, _, _, _, h => by simp [blk] at h
  | (m, c) :: r, 0, n, b, x, h => by simp only [blk, Option.some.injEq, Prod.mk.injEq] at h; obtain ⟨rfl, rfl⟩ := h; simp [setB]
  | (m, c) :: r, k + 1, n, b, x, h => by
    simp only [blk] at h
    simp only [List.eraseIdx_cons_succ, setB]
    exact (List.Perm.cons _ (perm_setB r k n b x h)).trans (List.Perm.swap _ _ _)
theorem perm_setE : ∀ (L : List (Nat × Blk)) (k : Nat) (q o : Nat × Blk), blk L k = some o → (setE L k q).Perm (q :: L.eraseIdx k)
  | [], _, _, _, h => by simp [blk] at h
  | b :: r, 0, q, o, h => by simp [setE]
  | b :: r, k + 1, q, o, h => by
    simp only [blk] at h
    simp only [List.eraseIdx_cons_succ, setE]
    exact (List.Perm.cons _ (perm_setE r k q o h)).trans (List.Perm.swap _ _ _)
/-- the head, laid at place k -/
theorem Mem.lay {q o : Nat × Blk} (h : Mem w0 w X (q :: L)) (k : Nat) (hk : blk L k = some o) : Mem w0 w X (setE L k q) :=
  (h.drop (List.Sublist.cons_cons q (List.eraseIdx_sublist L k))).perm (perm_setE L k q o hk).symm
/-- a turn of blocks that are not among the own ones -/
theorem Mem.turn {Y : Bs} (h : Mem w0 w X L) (hx : Ext Y w w') (hY : ∀ k, Y k → X k ∨ w0.heap.size ≤ k) (hL : ∀ p, p ∈ L → p.2.real = true → ¬ Y p.1) : Mem w0 w' X L :=
  ⟨hx.os.trans h.os, hx.tape.trans h.tape, hx.output.trans h.output, Nat.le_trans h.size hx.size,
    fun k hk hX => (hx.same k (Nat.lt_of_lt_of_le hk h.size) fun hy => by rcases hY k hy with h1 | h1; exact hX h1; omega).trans (h.same k hk hX),
    fun p hp hr => (hx.same p.1 (h.lt hp hr) (hL p hp hr)).trans (h.own p hp hr), h.fresh, h.nodup⟩
/-- some of the own blocks (A) handed over to a callee, which leaves A' -/
theorem Mem.call {A A' : List (Nat × Blk)} {Y : Bs} (h : Mem w0 w X (A ++ L)) (hc : Mem w w' Y A') (hY : ∀ k, Y k → k ∈ reals A) : Mem w0 w' X (A' ++ L) := by
  have hx : Ext Y w w' := hc.to
  have hfr : ∀ k, Y k → X k ∨ w0.heap.size ≤ k := fun k hk => by
    obtain ⟨b, hp, hr⟩ := mem_reals.1 (hY k hk)
    exact h.fresh (k, b) (List.mem_append_left _ hp) hr
  have hL : ∀ p, p ∈ L → p.2.real = true → ¬ Y p.1 := fun p hp hr hy => by
    have hn := h.nodup
    rw [reals_app] at hn
    exact (List.nodup_append.1 hn).2.2 p.1 (hY _ hy) p.1 (mem_reals.2 ⟨p.2, hp, hr⟩) rfl
  have h1 := h.right.turn hx hfr hL
  refine ⟨h1.os, h1.tape, h1.output, h1.size, h1.same, fun p hp hr => ?_, fun p hp hr => ?_, ?_⟩
  · rcases List.mem_append.1 hp with hp | hp
    · exact hc.own p hp hr
    · exact h1.own p hp hr
  · rcases List.mem_append.1 hp with hp | hp
    · rcases hc.fresh p hp hr with h2 | h2
      · exact hfr _ h2
      · exact .inr (Nat.le_trans h.size h2)
    · exact h1.fresh p hp hr
  · rw [reals_app, List.nodup_append]
    refine ⟨hc.nodup, h1.nodup, ?_⟩
    intro k hk j hj e
    subst e
    obtain ⟨b, hp, hr⟩ := mem_reals.1 hk
    obtain ⟨c, hq, hs⟩ := mem_reals.1 hj
    have hqlt : k < w.heap.size := h.lt (p := (k, c)) (List.mem_append_right _ hq) hs
    rcases hc.fresh _ hp hr with h2 | h2
    · exact hL _ hq hs h2
    · simp only at h2; omega
end

/-- a call that turns nothing of the caller's and hands back blocks of its own -/
theorem Mem.callN {w0 w w' : World} {X : Bs} {L N : List (Nat × Blk)} (h : Mem w0 w X L) (hc : Mem w w' No N) : Mem w0 w' X (N ++ L) := Mem.call (A := []) h hc fun _ h => h.elim
/-- a call that turns the block of place j, and hands back blocks of its own -/
theorem Mem.callJ {w0 w w' : World} {X : Bs} {L N : List (Nat × Blk)} {g : Nat} {b b' : Blk} (h : Mem w0 w X L) (j : Nat) (hj : blk L j = some (g, b)) (hc : Mem w w' (fun k => k = g) ((g, b') :: N)) (hb : b.real = true := by rfl) : Mem w0 w' X (N ++ setB L j b') := by
  have h1 : Mem w0 w X ([(g, b)] ++ L.eraseIdx j) := h.perm (perm_get L j _ hj)
  have h2 := Mem.call h1 hc fun k hk => mem_reals.2 ⟨b, by rw [hk]; simp, hb⟩
  refine h2.perm ?_
  rw [List.cons_append]
  exact (List.perm_middle (l₁ := N) (l₂ := L.eraseIdx j) (a := (g, b'))).symm.trans (List.Perm.append_left N (perm_setB L j g b b' hj).symm)
theorem C.as {P : Program} {f : FuncId} {vs : List Value} {w : World} {u v : Value} (h : C P f vs w fun x w' => x = u ∧ Ext No w w') (e : u = v) : C P f vs w fun x w' => x = v ∧ Ext No w w' := h.mono fun _ _ h => ⟨h.1.trans e, h.2⟩

theorem C.eqv {P : Program} {f : FuncId} {vs vs' : List Value} {w : World} {R : Value → World → Prop} (h : C P f vs w R) (e : vs = vs') : C P f vs' w R := e ▸ h

/-! ### Runs -/
section
variable {P : Program} {w : World}

theorem run_firstRd {p : Option Addr} {cs : List Value} {es m len cap : Nat} (h : Rd w p cs) (hl : cs.length = m * es) : (Builtin.firstCells es m (.slice p len cap)).run P w = .ok ⟨cs⟩ w := by
  cases p with
  | none =>
    have h : cs = [] := h
    subst h
    simp [Builtin.firstCells]
  | some a =>
    obtain ⟨b, o, s⟩ := a
    by_cases hne : cs = []
    · subst hne
      simp only [Builtin.firstCells, ← hl]
      simpa using run_loadCells_list (P := P) w ⟨b, o, s⟩ [] (by simp)
    have hs : s = none := h.1 hne
    subst hs
    simp only [Builtin.firstCells, ← hl]
    refine run_loadCells_list (P := P) w _ cs fun j v hj => ?_
    have := h.2 j v hj
    by_cases hj0 : j = 0
    · subst hj0; simpa [Addr.add] using this
    · simpa [Addr.add, hj0] using this

theorem slcO_spec {T e es bs : Nat} (h : slcO P T = some (e, es, bs)) : P.underlying T = some (.slice e) ∧ ∃ i, P.info? e = some i ∧ i.size = es ∧ i.bytes = bs := by
  unfold slcO at h
  cases hu : P.underlying T with
  | none => simp [hu] at h
  | some d =>
    cases d <;> simp [hu] at h
    rename_i e'
    cases hi : P.info? e' with
    | none => simp [hi] at h
    | some i =>
      simp [hi] at h
      obtain ⟨rfl, h2, h3⟩ := h
      exact ⟨rfl, i, hi, h2, h3⟩

/-- the capacity that the tape gives -/
def newCap (w : World) (need old : Nat) (e : TypeId) : Nat := need + (w.tape w.drawn (.appendCap need old e)) % (2 ^ 63 - need)

theorem arr3 (a b : List Value) (z : Array Value) : ((⟨a⟩ : Array Value) ++ ⟨b⟩ ++ z) = ⟨a ++ b ++ z.toList⟩ := by apply Array.ext'; simp

theorem run_append {T e es bs : Nat} {ts : Array TypeId} {ty : TypeId} {p q : Option Addr} {n cap m c : Nat} {cells new : List Value} {z : List Value} (hT : slcO P T = some (e, es, bs)) (hts : ts[0]? = some T) {T2 : TypeId} {x2 : TypeId × Nat × Nat} (hts2 : ts[1]? = some T2) (hT2 : slcO P T2 = some x2)
    (hz : zer P e = some z) (hq : Rd w q new) (hnew : new.length = m * es) (hp : Rd w p cells) (hc : cells.length = n * es) (hb : (n + m) * bs ≤ 140737488355328) (h63 : n + m < 2 ^ 63) :
    (n + m ≤ cap → (Builtin.append_ ts ty #[.slice p n cap, .slice q m c]).run P w = (match p with | some a => (storeCells (a.add (n * es)) new).run P w | none => .ok () w).andThen fun _ w' => .ok (.slice p (n + m) cap) w') ∧
    (cap < n + m → (Builtin.append_ ts ty #[.slice p n cap, .slice q m c]).run P w =
      .ok (.slice (some ⟨w.heap.size, 0, none⟩) (n + m) (newCap w (n + m) cap e)) (w.drew.alloc (Blk.row e (cells ++ new ++ (Builtin.zeroCells ⟨z⟩ (newCap w (n + m) cap e - (n + m))).toList)).toObj)) := by
  obtain ⟨hu, i, hi, hsz, hby⟩ := slcO_spec hT
  obtain ⟨zv, hzv, hzc⟩ := run_zer (w := w.drew) hz
  have hzv' : ∀ u : World, (zeroValue e).run P u = .ok zv u := fun u => by
    obtain ⟨v', h1, h2⟩ := run_zer (w := u) hz
    have : v' = zv := by
      unfold zer at hz
      have e1 : (zeroValue e).run P u = (match i.zero with | some v => .ok v u | none => .halt (.unsupported (.resourceLimit "a value of more than 2^22 cells")) u) := by
        simp [zeroValue, typeInfo, hi]; cases i.zero <;> rfl
      have e2 : (zeroValue e).run P w.drew = (match i.zero with | some v => .ok v w.drew | none => .halt (.unsupported (.resourceLimit "a value of more than 2^22 cells")) w.drew) := by
        simp [zeroValue, typeInfo, hi]; cases i.zero <;> rfl
      cases hzz : i.zero with
      | none => rw [hzz] at e1; rw [e1] at h1; cases h1
      | some v => rw [hzz] at e1 e2; rw [e1] at h1; rw [e2] at hzv; cases h1; cases hzv; rfl
    rw [h1, this]
  have hinfo : ∀ u : World, (typeInfo e).run P u = .ok i u := fun u => by simp [typeInfo, hi]
  obtain ⟨e2, es2, bs2⟩ := x2
  obtain ⟨hu2, _⟩ := slcO_spec hT2
  have hf := run_firstRd (P := P) (len := m) (cap := c) hq hnew
  have hpf := run_firstRd (P := P) (w := w.drew) (len := n) (cap := cap) (hp.ext0 (Ext.drew w)) hc
  have hqf := run_firstRd (P := P) (w := w.drew) (len := m) (cap := c) (hq.ext0 (Ext.drew w)) hnew
  have hsize : ∀ u : World, (sizeOf e).run P u = .ok es u := fun u => by simp [sizeOf, hinfo, hsz]
  refine ⟨fun hle => ?_, fun hlt => ?_⟩
  · unfold Builtin.append_
    simp only [hts, hts2, List.getElem?_toArray, List.getElem?_cons_zero, List.getElem?_cons_succ, Sem.run_bind, run_und hu, run_und hu2, Result.andThen_ok, hsize, Sem.run_pure, Bool.false_eq_true, if_false, Builtin.lenOf, hle, if_true, Bool.not_false, hf]
    cases p with
    | none => simp
    | some a => simp
  · have hn : ¬ n + m ≤ cap := by omega
    have hg : ¬ (Builtin.nextslicecap (n + m) cap * i.bytes > 2 ^ 48) := by
      have := growslice_fits (bytes := i.bytes) hlt (by rw [hby]; exact hb)
      simpa using this
    have hmx : ¬ (((n + m : Nat) : Int) > IntKind.i64.max ∧ (False ∨ i.bytes = 0)) := by
      intro ⟨h1, _⟩
      have : IntKind.i64.max = 9223372036854775807 := rfl
      rw [this] at h1
      omega
    unfold Builtin.append_
    simp only [hts, hts2, List.getElem?_toArray, List.getElem?_cons_zero, List.getElem?_cons_succ, Sem.run_bind, run_und hu, run_und hu2, Result.andThen_ok, hsize, Sem.run_pure, Bool.false_eq_true, if_false, Builtin.lenOf, hn, Bool.not_false, if_true, hinfo, Sem.run_ite, hmx, hg]
    have hch : (choose (.appendCap (n + m) cap e)).run P w = .ok (newCap w (n + m) cap e) w.drew := by
      simp [Question.forced, newCap, Question.cut]
    have hnr : ∀ (cs : Array Value) (u : World), (newRow e cs).run P u = .ok ⟨u.heap.size, 0, none⟩ (u.alloc (.cells cs e)) := fun cs u => by simp [newRow]
    simp only [hch, Result.andThen_ok, run_askRoom, hpf, hqf, hzv', hzc, hnr, arr3, Blk.toObj]
    rfl

theorem newCap_ge (w : World) (need old : Nat) (e : TypeId) : need ≤ newCap w need old e := Nat.le_add_right _ _
theorem drew_ext (w : World) : Ext No w w.drew := ⟨rfl, rfl, rfl, Nat.le_refl _, fun _ _ _ => rfl⟩

/-- append to the call's own slice -/
theorem Acc.append {T e es bs : Nat} {ts : Array TypeId} {ty : TypeId} {p q : Option Addr} {n cap m c g : Nat} {b : Blk} {cells new z : List Value} {w0 : World} {X : Bs} {L : List (Nat × Blk)} (hT : slcO P T = some (e, es, bs)) (hts : ts[0]? = some T) {T2 : TypeId} {x2 : TypeId × Nat × Nat} (hts2 : ts[1]? = some T2) (hT2 : slcO P T2 = some x2)
    (hz : zer P e = some z) (hzl : z.length = es) (h1 : new.all (·.oneCell') = true) (hq : Rd w q new) (hnew : new.length = m * es) (ha : Acc e es p n cap cells g b) (hm : Mem w0 w X L) (j : Nat) (hj : blk L j = some (g, b)) (hb : (n + m) * bs ≤ 140737488355328) (h63 : n + m < 2 ^ 63) :
    ∃ p' cap' g' b' w', (Builtin.append_ ts ty #[.slice p n cap, .slice q m c]).run P w = .ok (.slice p' (n + m) cap') w' ∧ Acc e es p' (n + m) cap' (cells ++ new) g' b' ∧ Mem w0 w' X (setE L j (g', b')) ∧
      Ext (fun k => b.real = true ∧ k = g) w w' ∧ (g' = g ∧ b'.real = b.real ∨ w.heap.size ≤ g') := by
  have hrd := ha.rd hm j hj
  obtain ⟨hfit, hgrow⟩ := run_append (w := w) (cap := cap) (c := c) (ty := ty) hT hts hts2 hT2 hz hq hnew hrd ha.len hb h63
  have hlen : (cells ++ new).length = (n + m) * es := by rw [List.length_append, ha.len, hnew, Nat.add_mul]
  have hself : ∀ (L : List (Nat × Blk)) (k : Nat) (q : Nat × Blk), blk L k = some q → setE L k q = L := fun L => by
    induction L with
    | nil => intro k q h; simp [blk] at h
    | cons x r ih =>
      intro k q h
      cases k with
      | zero => simp only [blk, Option.some.injEq] at h; subst h; rfl
      | succ k => simp only [setE, ih k q h]
  have hsetB : ∀ (L : List (Nat × Blk)) (k n : Nat) (b x : Blk), blk L k = some (n, b) → setB L k x = setE L k (n, x) := fun L => by
    induction L with
    | nil => intro k n b x h; rfl
    | cons y r ih =>
      intro k n b x h
      obtain ⟨m, d⟩ := y
      cases k with
      | zero => simp only [blk, Option.some.injEq, Prod.mk.injEq] at h; obtain ⟨rfl, _⟩ := h; rfl
      | succ k => simp only [blk] at h; simp only [setB, setE, ih k n b x h]
  by_cases hle : n + m ≤ cap
  · have hrun := hfit hle
    rcases ha.cases' with ⟨h2, h3, h4⟩ | ⟨l, rfl, rfl, hnc, hl, htk⟩
    · have hm0 : m = 0 := by omega
      subst h2 h3 hm0
      have hnil : new = [] := List.length_eq_zero_iff.1 (by rw [hnew]; simp)
      have hcnil : cells = [] := List.length_eq_zero_iff.1 (by rw [ha.len]; simp)
      subst hnil hcnil h4
      refine ⟨p, 0, g, .gap, w, ?_, ⟨by simp, .inl ⟨rfl, rfl, rfl⟩⟩, by rw [hself L j _ hj]; exact hm, Ext.refl _ _, .inl ⟨rfl, rfl⟩⟩
      rw [hrun]
      cases p <;> simp [storeCells]
    · have hg := hm.get hj
      have hst := run_storeCells_at P g (n * es) e new 0 ⟨l⟩ w hg (by simp only [Nat.add_zero, hnew, List.size_toArray]; rw [hl, ← Nat.add_mul]; exact Nat.mul_le_mul_right _ hle) (by simpa using h1)
      simp only [Nat.add_zero] at hst
      have hadd : (⟨g, 0, none⟩ : Addr).add (n * es) = ⟨g, n * es, none⟩ := by
        unfold Addr.add; split
        · rename_i h0; rw [h0]
        · simp
      refine ⟨some ⟨g, 0, none⟩, cap, g, .row e (l.take (n * es) ++ new ++ l.drop (n * es + new.length)), _, by rw [hrun]; simp only [hadd, hst]; rfl, ⟨hlen, .inr ⟨_, rfl, rfl, hle, ?_, ?_⟩⟩, ?_, ?_, .inl ⟨rfl, rfl⟩⟩
      · have : n * es + new.length ≤ l.length := by rw [hnew, hl, ← Nat.add_mul]; exact Nat.mul_le_mul_right _ hle
        simp only [List.length_append, List.length_take, List.length_drop]
        omega
      · rw [htk, ← hlen]
        exact List.take_left
      · have := setRow_mem (l' := l.take (n * es) ++ new ++ l.drop (n * es + new.length)) hm hj
        rw [hsetB L j g _ _ hj] at this
        exact this
      · refine ⟨rfl, rfl, rfl, by simp [World.setRow], fun k hk hne => ?_⟩
        simp only [World.setRow, Array.getElem?_modify]
        rw [if_neg]
        intro e; subst e
        exact hne ⟨rfl, rfl⟩
  · have hlt : cap < n + m := by omega
    have hrun := hgrow hlt
    refine ⟨_, _, w.heap.size, .row e (cells ++ new ++ (Builtin.zeroCells ⟨z⟩ (newCap w (n + m) cap e - (n + m))).toList), _, hrun, ⟨hlen, .inr ⟨_, rfl, rfl, newCap_ge _ _ _ _, ?_, ?_⟩⟩, ?_, ?_, .inr (Nat.le_refl _)⟩
    · have : (Builtin.zeroCells ⟨z⟩ (newCap w (n + m) cap e - (n + m))).toList.length = (newCap w (n + m) cap e - (n + m)) * es := by
        rw [← hzl]; simp [Builtin.zeroCells]
      rw [List.length_append, hlen, this, ← Nat.add_mul]
      congr 1
      have := newCap_ge w (n + m) cap e
      omega
    · rw [← hlen]; exact List.take_left
    · exact ((hm.ext (drew_ext w)).alloc (Blk.row e (cells ++ new ++ (Builtin.zeroCells ⟨z⟩ (newCap w (n + m) cap e - (n + m))).toList))).lay j hj
    · exact ((drew_ext w).trans (ext_alloc _ _)).mono fun _ h => h.elim
end

section
variable {P : Program} {r : Option Nat} {k : Ks} {ops : Array Oper} {md : Md} {n : Nat} {D : List Deferred} {S : List (Nat × Value)} {w : World} {i : Nat} {t : Tr}
variable {ty : TypeId} {pos : String} {af : Array Edge} {g : Option (Nat × Bool)} {dst : Option Tmp} {d : Nat} {w0 : World} {X : Bs} {L : List (Nat × Blk)}

/-- append to the call's own slice, in text order -/
theorem a_append {T e es bs : Nat} {s x : Operand} {ts : Array TypeId} {p q : Option Addr} {na cap m c gg : Nat} {b : Blk} {cells new z : List Value} {T2 : TypeId} {x2 : TypeId × Nat × Nat}
    (ho : opu ops S i = some (⟨dst, .call ⟨.builtin .append, #[s, x], ts⟩, ty, pos, af, g⟩, d)) (hd : Nat.blt d n = true) (hs : ev S s = some (.slice p na cap)) (hx : ev S x = some (.slice q m c)) (hts : ts[0]? = some T) (hts2 : ts[1]? = some T2)
    (hT : slcO P T = some (e, es, bs)) (hT2 : slcO P T2 = some x2) (hz : zer P e = some z) (hzl : z.length = es) (h1 : new.all (·.oneCell') = true) (hq : Rd w q new) (hnew : new.length = m * es) (ha : Acc e es p na cap cells gg b)
    (hm : Mem w0 w X L) (j : Nat) (hj : blk L j = some (gg, b)) (hb : (na + m) * bs ≤ 140737488355328) (h63 : na + m < 2 ^ 63)
    (h : ∀ p' cap' g' b' w', Acc e es p' (na + m) cap' (cells ++ new) g' b' → Mem w0 w' X (setE L j (g', b')) → HR P r k ops none n D ((d, .slice p' (na + m) cap') :: S) t w') : HR P r k ops none n D S (.act i t) w := by
  obtain ⟨p', cap', g', b', w', hrun, ha', hm', _⟩ := ha.append (c := c) (ty := ty) hT hts hts2 hT2 hz hzl h1 hq hnew hm j hj hb h63
  refine a_val ho hd rfl (fun a hf => ?_) trivial (h p' cap' g' b' w' ha' hm')
  simp only [execOp, resolve, List.map_toArray, List.map_cons, List.map_nil, hf.eval hs, hf.eval hx, Sem.run_bind, Sem.run_pure, Result.andThen_ok, invoke, builtin, hrun]

/-- .. in a drawn region that may turn the slice's own block -/
theorem a_appendN {b0 : World} {Y : Bs} {T e es bs : Nat} {s x : Operand} {ts : Array TypeId} {p q : Option Addr} {na cap m c gg : Nat} {b : Blk} {cells new z : List Value} {T2 : TypeId} {x2 : TypeId × Nat × Nat}
    (ho : opu ops S i = some (⟨dst, .call ⟨.builtin .append, #[s, x], ts⟩, ty, pos, af, g⟩, d)) (hd : Nat.blt d n = true) (hs : ev S s = some (.slice p na cap)) (hx : ev S x = some (.slice q m c)) (hts : ts[0]? = some T) (hts2 : ts[1]? = some T2)
    (hT : slcO P T = some (e, es, bs)) (hT2 : slcO P T2 = some x2) (hz : zer P e = some z) (hzl : z.length = es) (h1 : new.all (·.oneCell') = true) (hq : Rd w q new) (hnew : new.length = m * es) (ha : Acc e es p na cap cells gg b)
    (hm : Mem w0 w X L) (j : Nat) (hj : blk L j = some (gg, b)) (hb : (na + m) * bs ≤ 140737488355328) (h63 : na + m < 2 ^ 63) (hh : Hold (some (b0, Y)) w) (hY : b.real = true → b0.heap.size ≤ gg ∨ Y gg)
    (h : ∀ p' cap' g' b' w', (b.real = true → b0.heap.size ≤ gg) ∨ True → Acc e es p' (na + m) cap' (cells ++ new) g' b' → Mem w0 w' X (setE L j (g', b')) → Hold (some (b0, Y)) w' → (b'.real = true → b0.heap.size ≤ g' ∨ Y g') → HR P r k ops (some (b0, Y)) n D ((d, .slice p' (na + m) cap') :: S) t w') : HR P r k ops (some (b0, Y)) n D S (.act i t) w := by
  obtain ⟨p', cap', g', b', w', hrun, ha', hm', hx', hg'⟩ := ha.append (c := c) (ty := ty) hT hts hts2 hT2 hz hzl h1 hq hnew hm j hj hb h63
  have hh0 : Ext Y b0 w := hh
  have hh' : Hold (some (b0, Y)) w' := by
    show Ext Y b0 w'
    refine ⟨hx'.os.trans hh0.os, hx'.tape.trans hh0.tape, hx'.output.trans hh0.output, Nat.le_trans hh0.size hx'.size, fun j hj hn => ?_⟩
    rw [hx'.same j (Nat.lt_of_lt_of_le hj hh0.size) fun hmem => ?_, hh0.same j hj hn]
    rcases hY hmem.1 with h2 | h2
    · rw [hmem.2] at hj; omega
    · exact hn (hmem.2 ▸ h2)
  refine a_val ho hd rfl (fun a hf => ?_) hh' (h p' cap' g' b' w' (.inr trivial) ha' hm' hh' fun hr => ?_)
  · simp only [execOp, resolve, List.map_toArray, List.map_cons, List.map_nil, hf.eval hs, hf.eval hx, Sem.run_bind, Sem.run_pure, Result.andThen_ok, invoke, builtin, hrun]
  · rcases hg' with ⟨rfl, hr'⟩ | hge
    · exact hY (by rw [← hr']; exact hr)
    · exact .inl (Nat.le_trans hh0.size hge)

/-- an element's address -/
theorem y_index {T e es bs : Nat} {x y : Operand} {p : Option Addr} {l c b o : Nat} {k' : IntKind} {j : Int} (hx : ev S x = some (.slice p l c)) (hy : ev S y = some (.int k' j)) (hT : slcO P T = some (e, es, bs)) (hp : p = some ⟨b, o, none⟩) (h0 : 0 ≤ j) (h1 : j < l) :
    ∀ a, Fr a n D S → Yl P md w a ⟨dst, .indexAddr T x y, ty, pos, af, g⟩ (.pointer (some ⟨b, o + j.toNat * es, none⟩)) := fun a hf u _ => by
  obtain ⟨hu, i, hi, hs, _⟩ := slcO_spec hT
  subst hp
  have hsz : (sizeOf e).run P u = .ok es u := by simp [sizeOf, typeInfo, hi, hs]
  have hadd : (⟨b, o, none⟩ : Addr).add (j.toNat * es) = ⟨b, o + j.toNat * es, none⟩ := by
    unfold Addr.add; split
    · rename_i h; rw [h]; simp
    · simp
  simp [execOp, hf.eval hx, hf.eval hy, Instr.indexAt, asIntOf, run_und hu, h0, h1, hsz, hadd]

/-- s[lo:hi]; either bound may lack -/
theorem y_slice {T e es bs : Nat} {x : Operand} {lo hi : Option Operand} {p : Option Addr} {l c ln hn : Nat} (hx : ev S x = some (.slice p l c)) (hT : slcO P T = some (e, es, bs))
    (hlo : (match lo with | none => ln = 0 | some y => ∃ k', ev S y = some (.int k' ln)) ) (hhi : (match hi with | none => hn = l | some y => ∃ k', ev S y = some (.int k' hn))) (h1 : ln ≤ hn) (h2 : hn ≤ c) (hsp : c ≠ ln → ∀ ad, p = some ad → ad.spot = none) :
    ∀ a, Fr a n D S → Yl P md w a ⟨dst, .slice T x lo hi none, ty, pos, af, g⟩ (.slice (slp p c ln es) (hn - ln) (c - ln)) := fun a hf u _ => by
  obtain ⟨hu, i, hi', hs, _⟩ := slcO_spec hT
  have hsz : (sizeOf e).run P u = .ok es u := by simp [sizeOf, typeInfo, hi', hs]
  have hb : (Instr.sliceBounds true l c (lo.map a.eval) (hi.map a.eval) none).run P u = .ok (ln, hn, c) u := by
    have e1 : ∀ (k' : IntKind) (m y : Nat) (cd : BoundsCode), m ≤ y → (Instr.sliceBound (.int k' m) y cd).run P u = .ok m u := fun k' m y cd h => by
      have h' : (m : Int) ≤ y := by omega
      simp [Instr.sliceBound, asIntOf, h']
    unfold Instr.sliceBounds
    cases lo with
    | none =>
      subst hlo
      cases hi with
      | none => subst hhi; simp
      | some y => obtain ⟨k', hy⟩ := hhi; simp [hf.eval hy, e1 k' hn c _ h2]
    | some z =>
      obtain ⟨k2, hz⟩ := hlo
      cases hi with
      | none => subst hhi; simp [hf.eval hz, e1 k2 ln _ _ h1]
      | some y => obtain ⟨k', hy⟩ := hhi; simp [hf.eval hy, hf.eval hz, e1 k' hn c _ h2, e1 k2 ln _ _ h1]
  have hp : (if c = ln then p else p.map (·.add (ln * es))) = slp p c ln es := by
    unfold slp
    split
    · rfl
    · rename_i hne
      cases p with
      | none => rfl
      | some ad =>
        obtain ⟨b, o, s⟩ := ad
        have hs0 : s = none := hsp hne _ rfl
        subst hs0
        simp only [Option.map_some, Addr.add]
        split
        · rename_i h; rw [h]; simp
        · simp
  simp only [execOp, hf.eval hx, Option.map_none, Instr.sliceAt, Sem.run_bind, run_und hu, Result.andThen_ok, Instr.slice, hb, hsz, Sem.run_pure, hp]
end
end Go.Cx

namespace Go.Cx
set_option linter.unusedVariables false
set_option linter.unusedSimpArgs false
open Go

/-- The record that a range over a function lays. -/
def lrec (a : Act) (fn : FuncId) (r0 : Nat) (ps : Array Tmp) (asg bod : Code) (st : LoopState) (pd : Option Code) : Loop :=
  { state := st, pending := pd, fn := fn, tmps := a.tmps, params := ps, assign := asg, body := bod, defers := r0 }
abbrev lblk (a : Act) (fn : FuncId) (r0 : Nat) (ps : Array Tmp) (asg bod : Code) (st : LoopState) (pd : Option Code) : Blk := .obj (.loop (lrec a fn r0 ps asg bod st pd))
abbrev dblk (x : Option (List Deferred)) : Blk := .obj (.deferred x)

/-- A call of yield (of loop l) at these arguments. -/
def Yw (P : Program) (l : Nat) (vs : List Value) (w : World) (R : Value → World → Prop) : Prop :=
  ∃ rc, w.heap[l]? = some (.loop rc) ∧ vs.length = rc.params.size ∧
    RoundIn (Fw none) 0 P l rc.fn ((rc.params.zip ⟨vs⟩).foldl (fun tmps (t, a) => tmps.setIfInBounds t a) rc.tmps) rc.assign rc.body w (Rt R)

theorem Yw.mono {P : Program} {l : Nat} {vs : List Value} {w : World} {R R' : Value → World → Prop} (h : Yw P l vs w R) (hr : ∀ v w, R v w → R' v w) : Yw P l vs w R' := by
  obtain ⟨rc, h1, h2, h3⟩ := h
  exact ⟨rc, h1, h2, h3.mono fun _ _ ⟨v, he, h⟩ => ⟨v, he, hr _ _ h⟩⟩

section
variable {P : Program} {r : Option Nat} {k : Ks} {ops : Array Oper} {md : Md} {n : Nat} {D : List Deferred} {S : List (Nat × Value)} {w : World} {i : Nat} {t : Tr}
variable {ty : TypeId} {pos : String} {af : Array Edge} {g : Option (Nat × Bool)} {dst : Option Tmp} {d : Nat} {w0 : World} {X : Bs} {L : List (Nat × Blk)}

theorem run_getObj {j : Nat} {o : Obj} (h : w.heap[j]? = some o) (hc : (match o with | .cells .. => false | _ => true) = true) : (getObj j).run P w = .ok o w := by
  simp only [getObj, Sem.run, h]
  cases o <;> simp at hc ⊢ <;> rfl
theorem run_setObj {j : Nat} {o o' : Obj} (h : w.heap[j]? = some o) (hc : (match o with | .cells .. => false | _ => true) = true) : (setObj j o').run P w = .ok () { w with heap := w.heap.setIfInBounds j o' } := by
  simp only [setObj, Sem.run, h]
  cases o <;> simp at hc ⊢ <;> rfl

theorem Mem.setObj {j m : Nat} {o o' : Obj} (h : Mem w0 w X L) (hk : blk L j = some (m, .obj o)) : Mem w0 { w with heap := w.heap.setIfInBounds m o' } X (setB L j (.obj o')) := by
  have hin := h.get hk
  have hlt : m < w.heap.size := (Array.getElem?_eq_some_iff.1 hin).1
  refine h.set hk _ rfl rfl rfl (by simp) ?_ ?_
  · simp [Blk.toObj, hlt]
  · intro q hq
    simp [Array.getElem?_setIfInBounds_ne (Ne.symm hq)]

/-- a call of yield in an iterator's body -/
theorem a_yield {c : Operand} {as : Array Operand} {ts : Array TypeId} {l : Nat} {vs : List Value} {R : Value → World → Prop} (ho : opu ops S i = some (⟨dst, .call ⟨.value c, as, ts⟩, ty, pos, af, g⟩, d)) (hd : Nat.blt d n = true)
    (hcv : ev S c = some (.func (.yield l) #[] #[])) (ha : evs S as.toList = some vs) (hc : Yw P l vs w R) (h : ∀ v w', R v w' → Hold md w' ∧ HR P r k ops md n D ((d, v) :: S) t w') : HR P r k ops md n D S (.act i t) w := fun a hf => by
  obtain ⟨h1, h2, h3⟩ := opu_spec ho hf
  obtain ⟨rc, hl, hn, hR⟩ := hc
  refine ⟨_, h1, fun _ => ?_, fun hw => by rw [h2] at hw; cases hw⟩
  have hargs : as.map a.eval = ⟨vs⟩ := by obtain ⟨l⟩ := as; simpa using hf.evals ha
  have hrun : (execOp a.eval ⟨dst, .call ⟨.value c, as, ts⟩, ty, pos, af, g⟩).run P w = .ok (.round l rc.fn ((rc.params.zip ⟨vs⟩).foldl (fun tmps (t, a) => tmps.setIfInBounds t a) rc.tmps) rc.assign rc.body) w := by
    have hg := run_getObj (P := P) hl rfl
    simp [execOp, resolve, hf.eval hcv, hargs, Deferred.ofValue, invoke, Instr.yield, Instr.getLoop, hg, hn]
  unfold OpW
  rw [semAt_of_plain rfl, hrun]
  refine ⟨fun h => by simp [Fw] at h, RoundIn.mono hR fun e w' he => ?_⟩
  obtain ⟨v, rfl, hRv⟩ := he
  refine ⟨(h v w' hRv).1, ?_⟩
  rw [h3]
  exact (h v w' hRv).2 _ (hf.put v hd)

/-- the slots of a round: the loop's parameters set -/
def setP : List Nat → List Value → List (Nat × Value) → List (Nat × Value)
  | t :: ts, v :: vs, S => setP ts vs ((t, v) :: S)
  | _, _, S => S
def okP (n : Nat) : List Nat → Bool | [] => true | t :: ts => Nat.blt t n && okP n ts

theorem Fr.params : ∀ (ps : List Nat) (vs : List Value) (S : List (Nat × Value)) (tm : Array Value) (D : List Deferred), okP n ps = true → Fr { tmps := tm, defers := D } n D S →
    Fr { tmps := (ps.zip vs).foldl (fun tmps (t, a) => tmps.setIfInBounds t a) tm, defers := D } n D (setP ps vs S)
  | [], _, _, _, _, _, h => by simpa [setP] using h
  | t :: ts, [], _, _, _, _, h => by simpa [setP] using h
  | t :: ts, v :: vs, S, tm, D, hok, h => by
    simp only [okP, Bool.and_eq_true] at hok
    have := h.put v hok.1
    exact Fr.params ts vs _ _ D hok.2 this

/-- What a round's body must come to: at its end, at a return, at an exit out of it. -/
def kB (P : Program) (l : Nat) (R : Value → World → Prop) : Ks :=
  { norm := fun _ w => ∃ v w', (Instr.endRound l none).run P w = .ok v w' ∧ R v w'
    ret := fun _ w => ∃ v w', (Instr.endRound l (some .ret)).run P w = .ok v w' ∧ R v w'
    ex := fun id _ w => ∃ v w', (Instr.endRound l (some (.exit id))).run P w = .ok v w' ∧ R v w' }
/-- What the assignment to the loop's left sides must come to. -/
def kA (P : Program) (l : Nat) (bod : Code) (R : Value → World → Prop) : Ks :=
  { norm := fun a w => ∃ w', (Instr.beginRound l).run P w = .ok () w' ∧ W P (some l) bod (kB P l R) a w'
    ret := fun _ _ => False
    ex := fun _ _ _ => False }

/-- A round. -/
theorem Yw.of {l : Nat} {a : Act} {fn : FuncId} {r0 : Nat} {ps : Array Tmp} {asg bod : Code} {vs : List Value} {R : Value → World → Prop} (hf : Fr a n D S) (hl : w.heap[l]? = some (.loop (lrec a fn r0 ps asg bod .ready none))) (hn : vs.length = ps.size) (hok : okP n ps.toList = true)
    (h : HW P (some l) asg (kA P l bod R) n [] (setP ps.toList vs S) w) : Yw P l vs w R := by
  refine ⟨_, hl, hn, roundIn_of_wpIn trivial ?_⟩
  have hf0 : Fr { tmps := a.tmps, defers := [] } n [] S := ⟨hf.size, rfl, hf.get⟩
  have hfr := Fr.params ps.toList vs S a.tmps [] hok hf0
  have hz : (ps.zip ⟨vs⟩).foldl (fun tmps (t, a) => tmps.setIfInBounds t a) a.tmps = (ps.toList.zip vs).foldl (fun tmps (t, a) => tmps.setIfInBounds t a) a.tmps := by
    rw [← Array.foldl_toList]; simp
  have hW := h _ hfr
  have hW' : asg.wpIn (Fw (some l)) 0 P (kA P l bod R).q _ w := hW
  have hz' : (lrec a fn r0 ps asg bod .ready none).tmps = a.tmps := rfl
  show asg.wpIn (Fw (some l)) 0 P _ { tmps := (ps.zip ⟨vs⟩).foldl _ a.tmps, defers := [] } w
  rw [hz]
  refine wpIn_mono hW' fun e a' w' hq => ?_
  cases e with
  | normal =>
    obtain ⟨w2, h1, h2⟩ := hq
    refine ⟨w2, h1, wpIn_mono h2 fun e a'' w'' hq' => ?_⟩
    cases e with
    | normal => obtain ⟨v, w3, h3, h4⟩ := hq'; exact ⟨v, w3, h3, v, rfl, h4⟩
    | ret => obtain ⟨v, w3, h3, h4⟩ := hq'; exact ⟨v, w3, h3, v, rfl, h4⟩
    | exit id => obtain ⟨v, w3, h3, h4⟩ := hq'; exact ⟨v, w3, h3, v, rfl, h4⟩
    | goto t => exact hq'.elim
    | panic c => exact hq'.elim
    | outgrown => exact hq'.elim
  | ret => exact hq.elim
  | exit id => exact hq.elim
  | goto t => exact hq.elim
  | panic c => exact hq.elim
  | outgrown => exact hq.elim

section
variable {l fn r0 : Nat} {a : Act} {ps : Array Tmp} {asg bod : Code} {R : Value → World → Prop}

/-- the body begins: behind the assignment -/
theorem g_begin (hm : Mem w0 w X L) (j : Nat) (hj : blk L j = some (l, lblk a fn r0 ps asg bod .ready none)) (h : ∀ w', Mem w0 w' X (setB L j (lblk a fn r0 ps asg bod .busy none)) → HW P (some l) bod (kB P l R) n [] S w') :
    GN (kA P l bod R) n [] S w := fun b hf => by
  have hl : w.heap[l]? = some (.loop (lrec a fn r0 ps asg bod .ready none)) := hm.get hj
  have h1 := run_getObj (P := P) hl rfl
  have h2 := run_setObj (P := P) (o' := .loop (lrec a fn r0 ps asg bod .busy none)) hl rfl
  refine ⟨_, ?_, h _ (hm.setObj (j := j) (o' := .loop (lrec a fn r0 ps asg bod .busy none)) hj) b hf⟩
  have e : ({ lrec a fn r0 ps asg bod .ready none with state := .busy } : Loop) = lrec a fn r0 ps asg bod .busy none := rfl
  simp only [Instr.beginRound, Instr.getLoop, Sem.run_bind, h1, Result.andThen_ok, Sem.run_pure, e, h2]
  rfl
/-- the body's end -/
theorem g_end (hm : Mem w0 w X L) (j : Nat) (hj : blk L j = some (l, lblk a fn r0 ps asg bod .busy none)) (h : ∀ w', Mem w0 w' X (setB L j (lblk a fn r0 ps asg bod .ready none)) → R (.bool true) w') : GN (kB P l R) n [] S w := fun b _ => by
  have hl : w.heap[l]? = some (.loop (lrec a fn r0 ps asg bod .busy none)) := hm.get hj
  have h1 := run_getObj (P := P) hl rfl
  have h2 := run_setObj (P := P) (o' := .loop (lrec a fn r0 ps asg bod .ready none)) hl rfl
  refine ⟨.bool true, _, ?_, h _ (hm.setObj (j := j) (o' := .loop (lrec a fn r0 ps asg bod .ready none)) hj)⟩
  have e : ({ lrec a fn r0 ps asg bod .busy none with state := .ready, pending := none } : Loop) = lrec a fn r0 ps asg bod .ready none := rfl
  simp only [Instr.endRound, Instr.getLoop, Sem.run_bind, h1, Result.andThen_ok, Sem.run_pure, Option.isNone_none, if_true, e, h2]
theorem g_jump (c : Code) (hm : Mem w0 w X L) (j : Nat) (hj : blk L j = some (l, lblk a fn r0 ps asg bod .busy none)) (h : ∀ w', Mem w0 w' X (setB L j (lblk a fn r0 ps asg bod .done (some c))) → R (.bool false) w') : ∃ v w', (Instr.endRound l (some c)).run P w = .ok v w' ∧ R v w' := by
  have hl : w.heap[l]? = some (.loop (lrec a fn r0 ps asg bod .busy none)) := hm.get hj
  have h1 := run_getObj (P := P) hl rfl
  have h2 := run_setObj (P := P) (o' := .loop (lrec a fn r0 ps asg bod .done (some c))) hl rfl
  refine ⟨.bool false, _, ?_, h _ (hm.setObj (j := j) (o' := .loop (lrec a fn r0 ps asg bod .done (some c))) hj)⟩
  have e : ({ lrec a fn r0 ps asg bod .busy none with state := .done, pending := some c } : Loop) = lrec a fn r0 ps asg bod .done (some c) := rfl
  simp only [Instr.endRound, Instr.getLoop, Sem.run_bind, h1, Result.andThen_ok, Sem.run_pure, Option.isNone_some, Bool.false_eq_true, if_false, e, h2]
theorem g_ret (hm : Mem w0 w X L) (j : Nat) (hj : blk L j = some (l, lblk a fn r0 ps asg bod .busy none)) (h : ∀ w', Mem w0 w' X (setB L j (lblk a fn r0 ps asg bod .done (some .ret))) → R (.bool false) w') : GR (kB P l R) n [] S w := fun _ _ => g_jump .ret hm j hj h
theorem g_exit {id : Nat} (hm : Mem w0 w X L) (j : Nat) (hj : blk L j = some (l, lblk a fn r0 ps asg bod .busy none)) (h : ∀ w', Mem w0 w' X (setB L j (lblk a fn r0 ps asg bod .done (some (.exit id)))) → R (.bool false) w') : GX (kB P l R) id n [] S w := fun _ _ => g_jump (.exit id) hm j hj h
end

/-- **The statement**, in an activation: the iterator's value is function fi with these first and captured values; its contract says how it ends: the record is not busy, and what is pending. -/
theorem HW_range {c : Code} {f : Operand} {ps : Array Tmp} {fi : FuncId} {l1 l2 : List Value} (hc : rngC c = some (f, ps)) (hv : ev S f = some (.func (.func fi) ⟨l1⟩ ⟨l2⟩)) (hg : isGo P fi = true) (hm : Mem w0 w X L)
    (h : ∀ a fn r0 l w2 (LB : LoopState → Option Code → Blk), LB = lblk a fn r0 ps (rngA c) (rngB c) → Fr a n D S → l = r0 + 1 → w.heap.size = r0 → Mem w0 w2 X ((l, LB .ready none) :: (r0, dblk (some [])) :: L) →
      C P fi (l1 ++ [.func (.yield l) #[] #[]] ++ l2) w2 fun _ w3 => ∃ st pd, st ≠ .busy ∧ w3.heap[l]? = some (lblk a fn r0 ps (rngA c) (rngB c) st pd).toObj ∧
        (∀ w4, w4 = { w3 with heap := w3.heap.setIfInBounds l (.loop (lrec a fn r0 ps (rngA c) (rngB c) .exhausted pd)) } →
          (match pd with
           | none => GN k n ({ target := .collected r0, args := #[] } :: D) S w4
           | some j => HW P none j k n ({ target := .collected r0, args := #[] } :: D) S w4))) : HW P none c k n D S w := fun a hf => by
  cases c <;> simp [rngC] at hc
  rename_i f' ps' asg bod
  obtain ⟨rfl, rfl⟩ := hc
  refine wpIn_rangeFunc fun fn _ => ?_
  have hm1 := (hm.alloc (dblk (some [])))
  have hm2 := hm1.alloc (lblk a fn w.heap.size ps' asg bod .ready none)
  have hsz : (w.alloc (dblk (some [])).toObj).heap.size = w.heap.size + 1 := by simp
  rw [hsz] at hm2
  refine ⟨w.heap.size + 1, [{ target := .collected w.heap.size, args := #[] }], ((w.alloc (dblk (some [])).toObj).alloc (lblk a fn w.heap.size ps' asg bod .ready none).toObj), { target := .fn (.func fi) ⟨l2⟩, args := ⟨l1⟩ ++ #[.func (.yield (w.heap.size + 1)) #[] #[]] }, ((w.alloc (dblk (some [])).toObj).alloc (lblk a fn w.heap.size ps' asg bod .ready none).toObj), fi, ⟨l1 ++ [.func (.yield (w.heap.size + 1)) #[] #[]] ++ l2⟩,
    ((w.alloc (dblk (some [])).toObj).alloc (lblk a fn w.heap.size ps' asg bod .ready none).toObj), ?_, ?_, fun _ _ => trivial, ?_, fun h => by simp [Fw] at h, calls_fw.2 ?_⟩
  · show (Instr.enterLoop fn a.tmps ps' asg bod none).run P w = _
    simp [Instr.enterLoop, Blk.toObj, lrec]
  · have h1 : (rangeCall f' (w.heap.size + 1)).args.map a.eval = #[.func (.yield (w.heap.size + 1)) #[] #[]] := by simp [Act.eval]
    simp only [resolve, h1]
    show (Deferred.ofValue (a.eval f') _).run P _ = _
    rw [hf.eval hv]
    rfl
  · have := run_isGo (args := ⟨l1 ++ [.func (.yield (w.heap.size + 1)) #[] #[]] ++ l2⟩) hg ((w.alloc (dblk (some [])).toObj).alloc (lblk a fn w.heap.size ps' asg bod .ready none).toObj)
    simp only [invoke]
    rw [show (⟨l1⟩ ++ #[Value.func (.yield (w.heap.size + 1)) #[] #[]] ++ ⟨l2⟩ : Array Value) = ⟨l1 ++ [.func (.yield (w.heap.size + 1)) #[] #[]] ++ l2⟩ from by apply Array.ext'; simp]
    exact this
  · refine Calls.mono (h a fn w.heap.size (w.heap.size + 1) _ _ rfl hf rfl rfl hm2) fun e w3 he => ?_
    obtain ⟨v, rfl, st, pd, hst, hl, hk⟩ := he
    have hl : w3.heap[w.heap.size + 1]? = some (.loop (lrec a fn w.heap.size ps' asg bod st pd)) := hl
    have h1 := run_getObj (P := P) hl rfl
    have h2 := run_setObj (P := P) (o' := .loop (lrec a fn w.heap.size ps' asg bod .exhausted pd)) hl rfl
    refine ⟨pd, { w3 with heap := w3.heap.setIfInBounds (w.heap.size + 1) (.loop (lrec a fn w.heap.size ps' asg bod .exhausted pd)) }, ?_, ?_⟩
    · have e : ({ lrec a fn w.heap.size ps' asg bod st pd with state := .exhausted } : Loop) = lrec a fn w.heap.size ps' asg bod .exhausted pd := rfl
      have hb : ((lrec a fn w.heap.size ps' asg bod st pd).state == LoopState.busy) = false := by simpa [lrec] using hst
      have h1' : (getObj (w.heap.size + 1)).run P w3 = .ok (.loop (lrec a fn w.heap.size ps' asg bod st pd)) w3 := h1
      simp only [Instr.endLoop, Instr.getLoop, Sem.run_bind, h1', Result.andThen_ok, Sem.run_pure, hb, Bool.false_eq_true, if_false, e, h2]
      rfl
    · have hk' := hk _ rfl
      have hfr : Fr { a with defers := [{ target := .collected w.heap.size, args := #[] }] ++ a.defers } n ({ target := .collected w.heap.size, args := #[] } :: D) S := ⟨hf.size, by simp [hf.defers], hf.get⟩
      cases pd with
      | none => exact hk' _ hfr
      | some j => exact hk' _ hfr

theorem g_over {w4 : World} {l fn r0 : Nat} {a : Act} {ps : Array Tmp} {asg bod : Code} {st : LoopState} {pd : Option Code} (hm : Mem w0 w X ((l, lblk a fn r0 ps asg bod st pd) :: L)) (h4 : w4 = { w with heap := w.heap.setIfInBounds l (.loop (lrec a fn r0 ps asg bod .exhausted pd)) }) : Mem w0 w4 X L := by
  subst h4
  exact (hm.setObj (j := 0) (o' := .loop (lrec a fn r0 ps asg bod .exhausted pd)) rfl).tail

/-! ### A function that holds ranges over functions: its entry and end -/
abbrev mark (r0 : Nat) : Deferred := { target := .collected r0, args := #[] }
def FinM (P : Program) (fn : Func) (R : Value → World → Prop) (a : Act) (w : World) : Prop := LeavesInM (Fw none) 0 P fn a.tmps (Rt R) a.defers .returning w

theorem C_ofM {f : FuncId} {fn : Func} {vs : List Value} {R : Value → World → Prop} (hf : P.funcs[f]? = some fn) (hb : fn.body.isSome = true) (hn : fn.ntmps = n) (hl : Nat.ble vs.length n = true)
    (h : ∀ k : Ks, (∀ a w, FinM P fn R a w → k.ret a w) → (∀ a w, FinM P fn R a w → k.norm a w) → HW P none (bodC fn) k n [] (slots 0 vs) w) : C P f vs w R := by
  obtain ⟨c, hc⟩ := Option.isSome_iff_exists.1 hb
  have hbod : bodC fn = c := by simp [bodC, hc]
  refine calls_fw.1 (callsIn_of_wp_marks (F := Fw none) (n := 0) hf hc trivial ?_)
  have hfr := Fr.init vs n (by simpa using hl)
  have hW := h { norm := FinM P fn R, ret := FinM P fn R, ex := fun _ _ _ => False } (fun _ _ h => h) (fun _ _ h => h) _ hfr
  rw [hbod] at hW
  subst hn
  refine wpIn_mono hW fun e a w' hq => ?_
  cases e with
  | normal => exact hq
  | ret => exact hq
  | exit i => exact hq.elim
  | goto l => exact hq.elim
  | panic c => exact hq.elim
  | outgrown => exact hq.elim


theorem Rs.results {a : Act} {fn : Func} {rs : List ResultVar} {vs : List Value} (hr : fn.results.toList = rs) (h : Rs P w S rs vs) (hf : Fr a n D S) : (results fn a.tmps).run P w = .ok (tup vs) w := by
  have := h.run hf
  subst hr
  have he : Go.results fn a.tmps = (do
      let vs ← fn.results.mapM (resOne a.tmps)
      pure (if h : vs.size = 1 then vs[0] else .tuple vs)) := rfl
  rw [he, Sem.run_bind, Array.mapM_eq_mapM_toList]
  simp only [Sem.run_map, this, Result.andThen_ok, Sem.run_pure]
  congr 1
  match vs with
  | [] => rfl
  | [v] => rfl
  | v :: u :: l => simp [tup]

theorem run_take {r0 : Nat} (hl : w.heap[r0]? = some (.deferred (some []))) : (Instr.takeDeferred r0).run P w = .ok [] { w with heap := w.heap.setIfInBounds r0 (.deferred none) } := by
  have h1 := run_getObj (P := P) hl rfl
  have h2 := run_setObj (P := P) (o' := .deferred none) hl rfl
  simp only [Instr.takeDeferred, Sem.run_bind, h1, Result.andThen_ok, h2, Sem.run_pure]

/-- the end, no range having been entered -/
theorem fin0 {K : Act → World → Prop} {fn : Func} {R : Value → World → Prop} {rs : List ResultVar} {vs : List Value} {v : Value} (hk : ∀ a w, FinM P fn R a w → K a w) (hr : fn.results.toList = rs) (h : Rs P w S rs vs) (ht : Tup vs v) (hR : R v w) : GoD K n [] S w := fun a hf => by
  rw [← ht.eq] at hR
  refine hk a w ?_
  unfold FinM
  rw [hf.defers]
  exact ⟨_, h.results hr hf, _, rfl, hR⟩
/-- .. behind one range -/
theorem fin1 {K : Act → World → Prop} {fn : Func} {R : Value → World → Prop} {rs : List ResultVar} {vs : List Value} {v : Value} {r0 : Nat} (hk : ∀ a w, FinM P fn R a w → K a w) (hr : fn.results.toList = rs) (hm : Mem w0 w X L) (j : Nat) (hj : blk L j = some (r0, dblk (some []))) (ht : Tup vs v)
    (h : ∀ w', Mem w0 w' X (setB L j (dblk none)) → Rs P w' S rs vs ∧ R v w') : GoD K n [mark r0] S w := fun a hf => by
  rw [← ht.eq] at h
  refine hk a w ?_
  unfold FinM
  rw [hf.defers]
  have hl : w.heap[r0]? = some (.deferred (some [])) := hm.get hj
  obtain ⟨h1, h2⟩ := h _ (hm.setObj (o' := .deferred none) hj)
  exact ⟨by simp, .inl ⟨r0, _, rfl, run_take hl, _, h1.results hr hf, _, rfl, h2⟩⟩
end
end Go.Cx

namespace Go.Cx
set_option linter.unusedVariables false
set_option linter.unusedSimpArgs false
open Go

theorem fm_get {α : Type} {enc : α → List Value} {es : Nat} (he : ∀ x, (enc x).length = es) : ∀ (xs : List α) (i j : Nat) (x : α), xs[i]? = some x → j < es → (xs.flatMap enc)[i * es + j]? = (enc x)[j]?
  | [], i, j, x, h, _ => by simp at h
  | y :: r, 0, j, x, h, hj => by
    simp at h; subst h
    simp only [List.flatMap_cons, Nat.zero_mul, Nat.zero_add]
    rw [List.getElem?_append_left (by rw [he]; exact hj)]
  | y :: r, i + 1, j, x, h, hj => by
    simp at h
    simp only [List.flatMap_cons]
    rw [List.getElem?_append_right (by rw [he, Nat.succ_mul]; omega), he, show (i + 1) * es + j - es = i * es + j by rw [Nat.succ_mul]; omega]
    exact fm_get he r i j x h hj
theorem fm_length {α : Type} {enc : α → List Value} {es : Nat} (he : ∀ x, (enc x).length = es) : ∀ (xs : List α), (xs.flatMap enc).length = xs.length * es
  | [] => by simp
  | y :: r => by simp only [List.flatMap_cons, List.length_append, he, fm_length he r, List.length_cons, Nat.succ_mul]; omega

theorem Rd.nt {w : World} {p : Option Addr} {cs : List Value} (h : Rd w p cs) : ∀ u, Near none w u → Rd u p cs := fun u hu => by cases hu; exact h
theorem Rd.nd {w b : World} {p : Option Addr} {cs : List Value} (h : Rd b p cs) : ∀ u, Near (some (b, No)) w u → Rd u p cs := fun _ hu => h.ext0 hu
theorem Rd.at0 {w : World} {p : Option Addr} {cs : List Value} (h : Rd w p cs) (hne : cs ≠ []) : ∃ b o, p = some ⟨b, o, none⟩ := by
  cases p with
  | none => exact absurd h hne
  | some a => obtain ⟨b, o, s⟩ := a; have : s = none := h.1 hne; subst this; exact ⟨b, o, rfl⟩
theorem Rd.atI {α : Type} {w : World} {p : Option Addr} {enc : α → List Value} {xs : List α} {es i : Nat} {x : α} (h : Rd w p (xs.flatMap enc)) (he : ∀ x, (enc x).length = es) (h0 : 0 < es) (hi : xs[i]? = some x) : ∃ b o, p = some ⟨b, o, none⟩ :=
  h.at0 fun e => by
    have := fm_get he xs i 0 x hi h0
    rw [e] at this
    have hx := he x
    cases hc : enc x with
    | nil => rw [hc] at hx; simp at hx; omega
    | cons v r => rw [hc] at this; simp at this

section
variable {P : Program} {md : Md} {w : World} {n : Nat} {D : List Deferred} {S : List (Nat × Value)} {dst : Option Tmp} {ty : TypeId} {pos : String} {af : Array Edge} {g : Option (Nat × Bool)}

theorem y_elA {α : Type} {enc : α → List Value} {xs : List α} {t : TypeId} {x : Operand} {b o i es : Nat} {el : α} (hx : ev S x = some (.pointer (some ⟨b, o + i * es, none⟩))) (hs : aggS P t = some es) (hR : ∀ u, Near md w u → Rd u (some ⟨b, o, none⟩) (xs.flatMap enc))
    (he : ∀ x, (enc x).length = es) (hi : xs[i]? = some el) : ∀ a, Fr a n D S → Yl P md w a ⟨dst, .load t x, ty, pos, af, g⟩ (.agg ⟨enc el⟩) :=
  y_loadCA hx hs (he el) fun u hu j v hj => by
    have hlt : j < es := by rw [← he el]; exact (List.getElem?_eq_some_iff.1 hj).1
    have := (hR u hu).2 (i * es + j) v (by rw [fm_get he xs i j el hi hlt]; exact hj)
    rw [← Nat.add_assoc] at this
    exact this
theorem y_elS {α : Type} {enc : α → List Value} {xs : List α} {t : TypeId} {x : Operand} {b o i es fo : Nat} {el : α} {v : Value} (hx : ev S x = some (.pointer (some ⟨b, o + i * es + fo, none⟩))) (hs : scal P t = true) (hR : ∀ u, Near md w u → Rd u (some ⟨b, o, none⟩) (xs.flatMap enc))
    (he : ∀ x, (enc x).length = es) (hi : xs[i]? = some el) (hv : nth (enc el) fo = some v) : ∀ a, Fr a n D S → Yl P md w a ⟨dst, .load t x, ty, pos, af, g⟩ v :=
  y_loadC hx hs fun u hu => by
    rw [nth_eq] at hv
    have hlt : fo < es := by rw [← he el]; exact (List.getElem?_eq_some_iff.1 hv).1
    have := (hR u hu).2 (i * es + fo) v (by rw [fm_get he xs i fo el hi hlt]; exact hv)
    rw [← Nat.add_assoc] at this
    exact this
/-- a one-cell element -/
theorem y_el1 {α : Type} {enc : α → List Value} {xs : List α} {t : TypeId} {x : Operand} {b o i : Nat} {el : α} {v : Value} (hx : ev S x = some (.pointer (some ⟨b, o + i * 1, none⟩))) (hs : scal P t = true) (hR : ∀ u, Near md w u → Rd u (some ⟨b, o, none⟩) (xs.flatMap enc))
    (he : ∀ x, (enc x).length = 1) (hi : xs[i]? = some el) (hv : nth (enc el) 0 = some v) : ∀ a, Fr a n D S → Yl P md w a ⟨dst, .load t x, ty, pos, af, g⟩ v := y_elS (fo := 0) hx hs hR he hi hv

/-! structs of two integers -/
def int2 (P : Program) (T : TypeId) : Bool := match P.underlying T with
  | some (.struct ⟨[f, h]⟩) => f.offset == 0 && h.offset == 1 && f.name != "_" && h.name != "_" && (match P.underlying f.type, P.underlying h.type with | some (.int _), some (.int _) => true | _, _ => false) && !P.stoodInHeld T && !P.eqGuardType P.depth T
  | _ => false

theorem run_part_s {T : TypeId} {cs : Array Value} {off : Nat} {v : Value} {k : IntKind} (h : P.underlying T = some (.int k)) (hv : cs[off]? = some v) (u : World) : (part T cs off).run P u = .ok v u := by
  simp [part, isAgg, run_und h, hv]

theorem run_eq2 {T : TypeId} {d : Nat} {k1 k2 : IntKind} {a b c e : Int} (h : int2 P T = true) (u : World) : (Op.equalIn (d + 2) T (.agg ⟨[.int k1 a, .int k2 b]⟩) (.agg ⟨[.int k1 c, .int k2 e]⟩)).run P u = .ok (decide (a = c ∧ b = e)) u := by
  unfold int2 at h
  split at h
  · rename_i f g hu
    simp only [Bool.and_eq_true, beq_iff_eq, bne_iff_ne, Bool.not_eq_true'] at h
    obtain ⟨⟨⟨⟨⟨⟨hf0, hg0⟩, hfn⟩, hgn⟩, hty⟩, hst⟩, _⟩ := h
    have hfo : P.fieldsOf T = ⟨[f, g]⟩ := by unfold Program.fieldsOf; rw [hu]
    rw [run_equalIn_struct u (d + 1) T _ _ (by rw [hfo]; exact hu) hst, hfo]
    cases h1 : P.underlying f.type with
    | none => simp [h1] at hty
    | some d1 =>
      cases h2 : P.underlying g.type with
      | none => cases d1 <;> simp [h1, h2] at hty
      | some d2 =>
        cases d1 <;> simp [h1, h2] at hty
        cases d2 <;> simp at hty
        simp only [Op.eqFields, hfn, hgn, ne_eq, not_false_eq_true, if_true, Sem.run_bind, hf0, hg0]
        rw [run_part_s h1 (v := .int k1 a) rfl, Result.andThen_ok, run_part_s h1 (v := .int k1 c) rfl, Result.andThen_ok, run_equalIn_int u d _ _ _ _ _ h1, Result.andThen_ok, Sem.run_ite]
        by_cases hac : a = c
        · subst hac
          simp only [beq_self_eq_true, Bool.not_true, Bool.false_eq_true, if_false, Sem.run_bind]
          rw [run_part_s h2 (v := .int k2 b) rfl, Result.andThen_ok, run_part_s h2 (v := .int k2 e) rfl, Result.andThen_ok, run_equalIn_int u d _ _ _ _ _ h2, Result.andThen_ok, Sem.run_ite]
          by_cases hbe : b = e
          · simp [hbe]
          · simp [hbe]
        · simp [hac]
  · cases h
theorem guard2 {T : TypeId} {op : BinOp} {x y : Operand} {xs ys : Array Value} (h : int2 P T = true) (u : World) : (eqGuard op T x y (.agg xs) (.agg ys)).run P u = .ok () u := by
  unfold int2 at h
  split at h
  · simp only [Bool.and_eq_true, beq_iff_eq, bne_iff_ne, Bool.not_eq_true'] at h
    have hg := h.2
    unfold eqGuard
    cases op <;> simp [hg]
  · cases h
theorem y_eq2 {t yt : TypeId} {x y : Operand} {k1 k2 : IntKind} {a b c e : Int} (hx : ev S x = some (.agg ⟨[.int k1 a, .int k2 b]⟩)) (hy : ev S y = some (.agg ⟨[.int k1 c, .int k2 e]⟩)) (h : int2 P t = true) :
    ∀ ac, Fr ac n D S → Yl P md w ac ⟨dst, .binOp .eql t x y yt, ty, pos, af, g⟩ (.bool (decide (a = c ∧ b = e))) := y_bin hx hy fun u => by
  have : (Op.equal t (.agg ⟨[.int k1 a, .int k2 b]⟩) (.agg ⟨[.int k1 c, .int k2 e]⟩)).run P u = .ok (decide (a = c ∧ b = e)) u := run_eq2 (d := 9998) h u
  simp only [Sem.run_bind, guard2 h, Result.andThen_ok, binOp, this, Sem.run_pure]
theorem y_ne2 {t yt : TypeId} {x y : Operand} {k1 k2 : IntKind} {a b c e : Int} (hx : ev S x = some (.agg ⟨[.int k1 a, .int k2 b]⟩)) (hy : ev S y = some (.agg ⟨[.int k1 c, .int k2 e]⟩)) (h : int2 P t = true) :
    ∀ ac, Fr ac n D S → Yl P md w ac ⟨dst, .binOp .neq t x y yt, ty, pos, af, g⟩ (.bool (decide (¬ (a = c ∧ b = e)))) := y_bin hx hy fun u => by
  have : (Op.equal t (.agg ⟨[.int k1 a, .int k2 b]⟩) (.agg ⟨[.int k1 c, .int k2 e]⟩)).run P u = .ok (decide (a = c ∧ b = e)) u := run_eq2 (d := 9998) h u
  simp only [Sem.run_bind, guard2 h, Result.andThen_ok, binOp, this, Sem.run_pure]
  by_cases h : a = c ∧ b = e <;> simp [h]
end
end Go.Cx

namespace Go.Cx
set_option linter.unusedVariables false
set_option linter.unusedSimpArgs false
open Go

inductive LK where
  | num (k : IntKind)
  | bit
  | str
def okLf : LK → Value → Bool
  | .num k, .int k' _ => decide (k' = k)
  | .bit, .bool _ => true
  | .str, .string _ => true
  | _, _ => false
def lfEq : Value → Value → Bool
  | .int _ a, .int _ b => decide (a = b)
  | .bool a, .bool b => a == b
  | .string a, .string b => a.toList == b.toList
  | _, _ => false
def fitL : List LK → List Value → Bool
  | [], [] => true
  | k :: ks, v :: vs => okLf k v && fitL ks vs
  | _, _ => false
def eqL : List Value → List Value → Bool
  | [], [] => true
  | a :: as, b :: bs => lfEq a b && eqL as bs
  | _, _ => false

theorem fitL_len : ∀ {ks : List LK} {vs : List Value}, fitL ks vs = true → vs.length = ks.length
  | [], [], _ => rfl
  | [], _ :: _, h => by simp [fitL] at h
  | _ :: _, [], h => by simp [fitL] at h
  | k :: ks, v :: vs, h => by simp only [fitL, Bool.and_eq_true] at h; simp [fitL_len h.2]
theorem fitL_app : ∀ {ks js : List LK} {vs : List Value}, fitL (ks ++ js) vs = true → fitL ks (vs.take ks.length) = true ∧ fitL js (vs.drop ks.length) = true
  | [], _, vs, h => by simpa [fitL] using h
  | k :: ks, js, [], h => by simp [fitL] at h
  | k :: ks, js, v :: vs, h => by
    simp only [List.cons_append, fitL, Bool.and_eq_true] at h
    have := fitL_app h.2
    simp only [List.length_cons, List.take_succ_cons, List.drop_succ_cons, fitL, Bool.and_eq_true]
    exact ⟨⟨h.1, this.1⟩, this.2⟩
theorem eqL_app : ∀ (m : Nat) (as bs : List Value), as.length = bs.length → eqL as bs = (eqL (as.take m) (bs.take m) && eqL (as.drop m) (bs.drop m))
  | 0, as, bs, _ => by simp [eqL]
  | m + 1, [], [], _ => by simp [eqL]
  | m + 1, [], _ :: _, h => by simp at h
  | m + 1, _ :: _, [], h => by simp at h
  | m + 1, a :: as, b :: bs, h => by
    simp only [List.length_cons, Nat.add_right_cancel_iff] at h
    simp only [List.take_succ_cons, List.drop_succ_cons, eqL, eqL_app m as bs h, Bool.and_assoc]
theorem eqL_iff : ∀ {ks : List LK} {as bs : List Value}, fitL ks as = true → fitL ks bs = true → (eqL as bs = true ↔ as = bs)
  | [], [], [], _, _ => by simp [eqL]
  | [], _ :: _, _, h, _ => by simp [fitL] at h
  | [], [], _ :: _, _, h => by simp [fitL] at h
  | _ :: _, [], _, h, _ => by simp [fitL] at h
  | _ :: _, _ :: _, [], _, h => by simp [fitL] at h
  | k :: ks, a :: as, b :: bs, h1, h2 => by
    simp only [fitL, Bool.and_eq_true] at h1 h2
    simp only [eqL, Bool.and_eq_true, eqL_iff h1.2 h2.2, List.cons.injEq]
    refine and_congr_left fun _ => ?_
    have ha := h1.1
    have hb := h2.1
    cases k <;> cases a <;> simp [okLf] at ha <;> cases b <;> simp [okLf] at hb
    · subst ha; subst hb; simp [lfEq]
    · simp [lfEq]
    · rename_i x y
      simp only [lfEq, beq_iff_eq, Value.string.injEq]
      constructor
      · intro h
        rw [ByteArray.toList_eq, ByteArray.toList_eq] at h
        obtain ⟨⟨x⟩⟩ := x
        obtain ⟨⟨y⟩⟩ := y
        simp only at h
        rw [h]
      · intro h; rw [h]

def shF (g : TypeId → Option (List LK)) : List Field → Nat → Option (List LK)
  | [], _ => some []
  | f :: r, o => if (f.name != "_" && Nat.beq f.offset o) = true then (match g f.type with | some ks => (match shF g r (o + ks.length) with | some js => some (ks ++ js) | none => none) | none => none) else none
def repL (ks : List LK) : Nat → List LK
  | 0 => []
  | n + 1 => ks ++ repL ks n
def sizd (P : Program) (t : TypeId) (o : Option (List LK)) : Option (List LK) := match o, szO P t with
  | some ks, some m => if Nat.beq ks.length m = true then some ks else none
  | _, _ => none
/-- the leaves of a type of integers, booleans and strings -/
def shp (P : Program) : Nat → TypeId → Option (List LK)
  | 0, _ => none
  | n + 1, t => sizd P t (match P.underlying t with
    | some (.int k) => some [.num k]
    | some .bool => some [.bit]
    | some .string => some [.str]
    | some (.struct fs) => if P.stoodInHeld t = true then none else shF (shp P n) fs.toList 0
    | some (.array m e) => (match shp P n e with | some ks => some (repL ks m) | none => none)
    | _ => none)
def aggB (P : Program) (t : TypeId) : Bool := match P.underlying t with | some (.struct _) => true | some (.array _ _) => true | _ => false
def vOf (g : Bool) (cs : List Value) : Value := bif g then .agg ⟨cs⟩ else cs.headD undef

section
variable {P : Program} {u : World}
theorem sizd_spec {t : TypeId} {o : Option (List LK)} {ks : List LK} (h : sizd P t o = some ks) : o = some ks ∧ szO P t = some ks.length := by
  unfold sizd at h
  split at h
  · rename_i js m hs
    split at h
    · rename_i hb; cases h; exact ⟨rfl, by rw [hs]; congr 1; exact (Nat.eq_of_beq_eq_true hb).symm⟩
    · cases h
  · cases h
theorem run_isAggB {t : TypeId} {m : Nat} (h : szO P t = some m) (hu : (P.underlying t).isSome = true) : (isAgg t).run P u = .ok (aggB P t) u := by
  obtain ⟨d, hd⟩ := Option.isSome_iff_exists.1 hu
  simp only [isAgg, Sem.run_bind, run_und hd, Result.andThen_ok, aggB, hd]
  cases d <;> simp
theorem run_partV {t : TypeId} {m : Nat} (h : szO P t = some m) (hu : (P.underlying t).isSome = true) (h1 : aggB P t = false → m = 1) (xs : List Value) (off : Nat) (hl : off + m ≤ xs.length) :
    (part t ⟨xs⟩ off).run P u = .ok (vOf (aggB P t) ((xs.drop off).take m)) u := by
  simp only [part, Sem.run_bind, run_isAggB h hu, Result.andThen_ok]
  cases hg : aggB P t with
  | true =>
    simp only [if_true, Sem.run_bind, run_szO h, Result.andThen_ok, Sem.run_pure, vOf, cond_true]
    congr 2
    apply Array.ext'
    simp
  | false =>
    have := h1 hg
    subst this
    simp only [Bool.false_eq_true, if_false]
    have : (⟨xs⟩ : Array Value)[off]? = some (xs[off]'(by omega)) := by simp
    rw [this]
    simp only [Sem.run_pure, vOf, cond_false]
    rw [List.drop_eq_getElem_cons (by omega)]
    rfl

def EqW (P : Program) (d : Nat) (t : TypeId) (ks : List LK) : Prop :=
  szO P t = some ks.length ∧ (P.underlying t).isSome = true ∧ (aggB P t = false → ks.length = 1) ∧
    ∀ (u : World) (cs ds : List Value), fitL ks cs = true → fitL ks ds = true → (Op.equalIn d t (vOf (aggB P t) cs) (vOf (aggB P t) ds)).run P u = .ok (eqL cs ds) u

theorem run_eqF {d : Nat} {g : TypeId → Option (List LK)} (hg : ∀ t ks, g t = some ks → EqW P d t ks) (u : World) : ∀ (fs : List Field) (o : Nat) (ks : List LK) (xs ys : List Value), shF g fs o = some ks → fitL ks (xs.drop o) = true → fitL ks (ys.drop o) = true → o ≤ xs.length → o ≤ ys.length →
    (Op.eqFields d ⟨xs⟩ ⟨ys⟩ fs).run P u = .ok (eqL (xs.drop o) (ys.drop o)) u
  | [], o, ks, xs, ys, h, hx, hy, _, _ => by
    simp only [shF, Option.some.injEq] at h
    subst h
    have h1 := List.length_eq_zero_iff.1 (fitL_len hx)
    have h2 := List.length_eq_zero_iff.1 (fitL_len hy)
    rw [h1, h2]
    rfl
  | f :: r, o, ks, xs, ys, h, hx, hy, hxl, hyl => by
    simp only [shF] at h
    split at h
    · rename_i hc
      simp only [Bool.and_eq_true, bne_iff_ne, ne_eq, Nat.beq_eq] at hc
      split at h
      · rename_i k1 hk1
        split at h
        · rename_i k2 hk2
          cases h
          obtain ⟨hsz, hu, h1, heq⟩ := hg _ _ hk1
          have hlx := fitL_len hx
          have hly := fitL_len hy
          rw [List.length_drop, List.length_append] at hlx hly
          obtain ⟨hx1, hx2⟩ := fitL_app hx
          obtain ⟨hy1, hy2⟩ := fitL_app hy
          rw [List.drop_drop] at hx2 hy2
          have ih := run_eqF hg u r (o + k1.length) k2 xs ys hk2 hx2 hy2 (by omega) (by omega)
          simp only [Op.eqFields, hc.1, ne_eq, not_false_eq_true, if_true, Sem.run_bind, hc.2]
          rw [run_partV hsz hu h1 xs o (by omega), Result.andThen_ok, run_partV hsz hu h1 ys o (by omega), Result.andThen_ok, heq u _ _ hx1 hy1, Result.andThen_ok, Sem.run_ite]
          rw [eqL_app k1.length (xs.drop o) (ys.drop o) (by simp; omega), List.drop_drop, List.drop_drop]
          cases he : eqL ((xs.drop o).take k1.length) ((ys.drop o).take k1.length) with
          | true => simp only [Bool.not_true, Bool.false_eq_true, if_false, ih, Bool.true_and]
          | false => simp
        · cases h
      · cases h
    · cases h

theorem run_eqI {d : Nat} {e : TypeId} {k1 : List LK} (hg : EqW P d e k1) (hc : P.cellsOf e = k1.length) (u : World) : ∀ (n i : Nat) (xs ys : List Value), fitL (repL k1 n) (xs.drop (i * k1.length)) = true → fitL (repL k1 n) (ys.drop (i * k1.length)) = true → i * k1.length ≤ xs.length → i * k1.length ≤ ys.length →
    (Op.eqItems d e (P.cellsOf e) ⟨xs⟩ ⟨ys⟩ (List.range' i n)).run P u = .ok (eqL (xs.drop (i * k1.length)) (ys.drop (i * k1.length))) u
  | 0, i, xs, ys, hx, hy, _, _ => by
    have h1 := List.length_eq_zero_iff.1 (fitL_len hx)
    have h2 := List.length_eq_zero_iff.1 (fitL_len hy)
    rw [h1, h2]
    rfl
  | n + 1, i, xs, ys, hx, hy, hxl, hyl => by
    obtain ⟨hsz, hu, h1, heq⟩ := hg
    simp only [repL] at hx hy
    have hlx := fitL_len hx
    have hly := fitL_len hy
    rw [List.length_drop, List.length_append] at hlx hly
    obtain ⟨hx1, hx2⟩ := fitL_app hx
    obtain ⟨hy1, hy2⟩ := fitL_app hy
    rw [List.drop_drop] at hx2 hy2
    have e1 : i * k1.length + k1.length = (i + 1) * k1.length := by rw [Nat.succ_mul]
    rw [e1] at hx2 hy2
    have ih := run_eqI ⟨hsz, hu, h1, heq⟩ hc u n (i + 1) xs ys hx2 hy2 (by omega) (by omega)
    rw [List.range'_succ]
    simp only [Op.eqItems, Sem.run_bind, hc]
    rw [hc] at ih
    rw [run_partV hsz hu h1 xs _ (by omega), Result.andThen_ok, run_partV hsz hu h1 ys _ (by omega), Result.andThen_ok, heq u _ _ hx1 hy1, Result.andThen_ok, Sem.run_ite]
    rw [eqL_app k1.length (xs.drop (i * k1.length)) (ys.drop (i * k1.length)) (by simp; omega), List.drop_drop, List.drop_drop, e1]
    cases he : eqL ((xs.drop (i * k1.length)).take k1.length) ((ys.drop (i * k1.length)).take k1.length) with
    | true => simp only [Bool.not_true, Bool.false_eq_true, if_false, ih, Bool.true_and]
    | false => simp

theorem one_of {k : LK} {cs : List Value} (h : fitL [k] cs = true) : ∃ v, cs = [v] ∧ okLf k v = true := by
  match cs, h with
  | [v], h => exact ⟨v, rfl, by simpa [fitL] using h⟩
  | [], h => simp [fitL] at h
  | _ :: _ :: _, h => simp [fitL] at h

theorem shp_eq : ∀ (n : Nat) (t : TypeId) (ks : List LK) (d : Nat), shp P n t = some ks → EqW P (d + n) t ks
  | 0, t, ks, d, h => by simp [shp] at h
  | n + 1, t, ks, d, h => by
    obtain ⟨h1, h2⟩ := sizd_spec h
    cases hu : P.underlying t with
    | none => simp [hu] at h1
    | some D =>
      refine ⟨h2, by rw [hu]; rfl, fun hg => ?_, fun u cs ds hx hy => ?_⟩
      · cases D <;> simp [hu, aggB] at h1 hg <;> subst h1 <;> rfl
      cases D <;> simp only [hu, Option.some.injEq, reduceCtorEq] at h1
      case bool =>
        subst h1
        obtain ⟨a, rfl, ha⟩ := one_of hx
        obtain ⟨b, rfl, hb⟩ := one_of hy
        cases a <;> simp [okLf] at ha
        cases b <;> simp [okLf] at hb
        simp [aggB, hu, vOf, eqL, lfEq, Op.equalIn, run_und hu]
      case int k =>
        subst h1
        obtain ⟨a, rfl, ha⟩ := one_of hx
        obtain ⟨b, rfl, hb⟩ := one_of hy
        cases a <;> simp [okLf] at ha
        cases b <;> simp [okLf] at hb
        subst ha; subst hb
        simp [aggB, hu, vOf, eqL, lfEq, Op.equalIn, run_und hu, BEq.beq]
      case string =>
        subst h1
        obtain ⟨a, rfl, ha⟩ := one_of hx
        obtain ⟨b, rfl, hb⟩ := one_of hy
        cases a <;> simp [okLf] at ha
        cases b <;> simp [okLf] at hb
        simp [aggB, hu, vOf, eqL, lfEq, Op.equalIn, run_und hu, beq_toListBytes]
      case struct fs =>
        split at h1
        · cases h1
        · rename_i hst
          have hfo : P.fieldsOf t = fs := by simp [Program.fieldsOf, hu]
          have := run_eqF (P := P) (d := d + n) (g := shp P n) (fun t ks hk => shp_eq n t ks d hk) u fs.toList 0 ks cs ds h1 (by simpa using hx) (by simpa using hy) (Nat.zero_le _) (Nat.zero_le _)
          simp only [aggB, hu, vOf, cond_true]
          rw [show d + (n + 1) = (d + n) + 1 from rfl, run_equalIn_struct u (d + n) t _ _ (by rw [hfo]; exact hu) (by simpa using hst), hfo]
          simpa using this
      case array m e =>
        split at h1
        · rename_i k1 hk1
          cases h1
          have hE := shp_eq n e k1 d hk1
          have hce : P.cellsOf e = k1.length ∧ ∃ i, P.info? e = some i := by
            have := hE.1
            unfold szO at this
            cases hi : P.info? e with
            | none => simp [hi] at this
            | some i => simp [hi] at this; exact ⟨by simp [Program.cellsOf, hi, this], i, rfl⟩
          obtain ⟨hc, i, hi⟩ := hce
          have := run_eqI hE hc u m 0 cs ds (by simpa using hx) (by simpa using hy) (by simp) (by simp)
          simp only [aggB, hu, vOf, cond_true]
          rw [show d + (n + 1) = (d + n) + 1 from rfl, run_equalIn_array u (d + n) _ _ hu hi, List.range_eq_range']
          simpa using this
        · cases h1

/-- a type of structs or arrays, flat, that is compared without a guard -/
def flat (P : Program) (t : TypeId) (ks : List LK) : Bool := (match shp P 6 t with | some js => decide (js.length = ks.length) && (js.zip ks).all (fun (a, b) => match a, b with | .num x, .num y => decide (x = y) | .bit, .bit => true | .str, .str => true | _, _ => false) | none => false) && aggB P t && !P.eqGuardType P.depth t
theorem lk_eq : ∀ (a b : List LK), a.length = b.length → (a.zip b).all (fun (a, b) => match a, b with | .num x, .num y => decide (x = y) | .bit, .bit => true | .str, .str => true | _, _ => false) = true → a = b
  | [], [], _, _ => rfl
  | x :: a, y :: b, h, g => by
    simp only [List.zip_cons_cons, List.all_cons, Bool.and_eq_true] at g
    simp only [List.length_cons, Nat.add_right_cancel_iff] at h
    rw [lk_eq a b h g.2]
    have := g.1
    cases x <;> cases y <;> simp at this ⊢
    exact this
  | [], _ :: _, h, _ => by simp at h
  | _ :: _, [], h, _ => by simp at h
theorem flat_spec {t : TypeId} {ks : List LK} (h : flat P t ks = true) : shp P 6 t = some ks ∧ aggB P t = true ∧ P.eqGuardType P.depth t = false := by
  unfold flat at h
  simp only [Bool.and_eq_true, Bool.not_eq_true'] at h
  obtain ⟨⟨h1, h2⟩, h3⟩ := h
  split at h1
  · rename_i js hj
    simp only [Bool.and_eq_true, decide_eq_true_eq] at h1
    rw [hj, lk_eq js ks h1.1 h1.2]
    exact ⟨rfl, h2, h3⟩
  · cases h1
theorem guardF {t : TypeId} {op : BinOp} {x y : Operand} {xs ys : Array Value} (h : P.eqGuardType P.depth t = false) (u : World) : (eqGuard op t x y (.agg xs) (.agg ys)).run P u = .ok () u := by
  unfold eqGuard
  cases op <;> simp [h]
variable {md : Md} {w : World} {n : Nat} {D : List Deferred} {S : List (Nat × Value)} {dst : Option Tmp} {ty : TypeId} {pos : String} {af : Array Edge} {g : Option (Nat × Bool)}
theorem run_eqFlat {t : TypeId} {ks : List LK} {cs ds : List Value} (h : flat P t ks = true) (hx : fitL ks cs = true) (hy : fitL ks ds = true) (u : World) : (Op.equal t (.agg ⟨cs⟩) (.agg ⟨ds⟩)).run P u = .ok (eqL cs ds) u := by
  obtain ⟨h1, h2, _⟩ := flat_spec h
  have := (shp_eq (P := P) 6 t ks 9994 h1).2.2.2 u cs ds hx hy
  rw [h2] at this
  exact this
theorem y_eqF {t yt : TypeId} {x y : Operand} {ks : List LK} {cs ds : List Value} (hx : ev S x = some (.agg ⟨cs⟩)) (hy : ev S y = some (.agg ⟨ds⟩)) (h : flat P t ks = true) (h1 : fitL ks cs = true) (h2 : fitL ks ds = true) :
    ∀ ac, Fr ac n D S → Yl P md w ac ⟨dst, .binOp .eql t x y yt, ty, pos, af, g⟩ (.bool (eqL cs ds)) := y_bin hx hy fun u => by
  simp only [Sem.run_bind, guardF (flat_spec h).2.2, Result.andThen_ok, binOp, run_eqFlat h h1 h2, Sem.run_pure]
theorem y_neF {t yt : TypeId} {x y : Operand} {ks : List LK} {cs ds : List Value} (hx : ev S x = some (.agg ⟨cs⟩)) (hy : ev S y = some (.agg ⟨ds⟩)) (h : flat P t ks = true) (h1 : fitL ks cs = true) (h2 : fitL ks ds = true) :
    ∀ ac, Fr ac n D S → Yl P md w ac ⟨dst, .binOp .neq t x y yt, ty, pos, af, g⟩ (.bool (!eqL cs ds)) := y_bin hx hy fun u => by
  simp only [Sem.run_bind, guardF (flat_spec h).2.2, Result.andThen_ok, binOp, run_eqFlat h h1 h2, Sem.run_pure]

/-- field f of struct type s: its offset, its cells, is it a struct or an array -/
def fldV (P : Program) (s f : Nat) : Option (Nat × Nat × Bool) := match P.underlying s with
  | some (.struct fs) => match fs[f]? with
    | some fd => match szO P fd.type with | some m => if ((P.underlying fd.type).isSome && (aggB P fd.type || Nat.beq m 1)) = true then some (fd.offset, m, aggB P fd.type) else none | none => none
    | none => none
  | _ => none
theorem y_fieldV {s fi o m : Nat} {b : Bool} {x : Operand} {cs vs : List Value} (hx : ev S x = some (.agg ⟨cs⟩)) (hf : fldV P s fi = some (o, m, b)) (hv : nths cs o m = some vs) :
    ∀ a, Fr a n D S → Yl P md w a ⟨dst, .field s x fi, ty, pos, af, g⟩ (vOf b vs) := fun a hfr u _ => by
  unfold fldV at hf
  split at hf
  · rename_i fs hu
    split at hf
    · rename_i fd hfd
      split at hf
      · rename_i m' hm
        split at hf
        · rename_i hc
          cases hf
          simp only [Bool.and_eq_true, Bool.or_eq_true] at hc
          obtain ⟨h1, h2⟩ := nths_get m fd.offset cs vs hv
          have hlen : fd.offset + m ≤ cs.length ∨ m = 0 := by
            rcases Nat.eq_zero_or_pos m with h0 | h0
            · exact .inr h0
            · left
              have hl : m - 1 < vs.length := by omega
              have := h2 (m - 1) vs[m - 1] (List.getElem?_eq_getElem hl)
              have := (List.getElem?_eq_some_iff.1 this).1
              omega
          have htake : (cs.drop fd.offset).take m = vs := by
            rcases hlen with hlen | h0
            · apply List.ext_getElem?
              intro j
              rw [List.getElem?_take, List.getElem?_drop]
              split
              · rename_i hj
                rw [List.getElem?_eq_getElem (by omega : j < vs.length)]
                exact h2 j vs[j] (List.getElem?_eq_getElem (by omega))
              · rw [List.getElem?_eq_none (by omega)]
            · subst h0; rw [List.length_eq_zero_iff.1 h1]; rfl
          have hp : (part fd.type ⟨cs⟩ fd.offset).run P u = .ok (vOf (aggB P fd.type) vs) u := by
            rcases hlen with hlen | h0
            · rw [run_partV hm hc.1 (fun hg => hc.2.elim (fun h => by rw [hg] at h; cases h) fun h => Nat.eq_of_beq_eq_true h) cs fd.offset hlen, htake]
            · subst h0
              have hg : aggB P fd.type = true := hc.2.elim id fun h => by cases h
              simp only [part, Sem.run_bind, run_isAggB hm hc.1, Result.andThen_ok, hg, if_true, run_szO hm, Sem.run_pure, vOf, cond_true]
              congr 2
              rw [List.length_eq_zero_iff.1 h1]
              apply Array.ext'
              simp
          simp [execOp, hfr.eval hx, Instr.field, run_und hu, hfd, hp, asAgg]
        · cases hf
      · cases hf
    · cases hf
  · cases hf
end
end Go.Cx

namespace Go.Cx
set_option linter.unusedVariables false
set_option linter.unusedSimpArgs false
open Go

def ptrB (P : Program) (t : TypeId) : Bool := match P.underlying t with | some (.pointer _) => true | _ => false
def slcB (P : Program) (t : TypeId) : Bool := match P.underlying t with | some (.slice _) => true | _ => false
def mapB (P : Program) (t : TypeId) : Bool := match P.underlying t with | some (.map _ _) => true | _ => false
theorem run_pnil {P : Program} {d : Nat} {t e : TypeId} {p : Option Addr} (he : P.underlying t = some (.pointer e)) (u : World) : (Op.equalIn (d + 1) t (.pointer p) (.pointer none)).run P u = .ok p.isNone u := by
  cases p <;> simp [Op.equalIn, run_und he]
theorem run_snil {P : Program} {d : Nat} {t e : TypeId} {p : Option Addr} {l c : Nat} (he : P.underlying t = some (.slice e)) (u : World) : (Op.equalIn (d + 1) t (.slice p l c) (.slice none 0 0)).run P u = .ok p.isNone u := by
  cases p <;> simp [Op.equalIn, run_und he]
section
variable {P : Program} {md : Md} {w : World} {n : Nat} {D : List Deferred} {S : List (Nat × Value)} {dst : Option Tmp} {ty : TypeId} {pos : String} {af : Array Edge} {g : Option (Nat × Bool)}
theorem y_pnil {t yt : TypeId} {x y : Operand} {p : Option Addr} (hx : ev S x = some (.pointer p)) (hy : ev S y = some (.pointer none)) (h : ptrB P t = true) :
    ∀ a, Fr a n D S → Yl P md w a ⟨dst, .binOp .eql t x y yt, ty, pos, af, g⟩ (.bool p.isNone) := y_bin hx hy fun u => by
  unfold ptrB at h
  split at h
  · rename_i e he
    have hq : (Op.equal t (.pointer p) (.pointer none)).run P u = .ok p.isNone u := run_pnil (d := 9999) he u
    simp [eqGuard, binOp, hq]
  · cases h
theorem y_pnnil {t yt : TypeId} {x y : Operand} {p : Option Addr} (hx : ev S x = some (.pointer p)) (hy : ev S y = some (.pointer none)) (h : ptrB P t = true) :
    ∀ a, Fr a n D S → Yl P md w a ⟨dst, .binOp .neq t x y yt, ty, pos, af, g⟩ (.bool (!p.isNone)) := y_bin hx hy fun u => by
  unfold ptrB at h
  split at h
  · rename_i e he
    have hq : (Op.equal t (.pointer p) (.pointer none)).run P u = .ok p.isNone u := run_pnil (d := 9999) he u
    simp [eqGuard, binOp, hq]
  · cases h
theorem y_snil {t yt : TypeId} {x y : Operand} {p : Option Addr} {l c : Nat} (hx : ev S x = some (.slice p l c)) (hy : ev S y = some (.slice none 0 0)) (h : slcB P t = true) :
    ∀ a, Fr a n D S → Yl P md w a ⟨dst, .binOp .eql t x y yt, ty, pos, af, g⟩ (.bool p.isNone) := y_bin hx hy fun u => by
  unfold slcB at h
  split at h
  · rename_i e he
    have hq : (Op.equal t (.slice p l c) (.slice none 0 0)).run P u = .ok p.isNone u := run_snil (d := 9999) he u
    simp [eqGuard, binOp, hq]
  · cases h
theorem y_snnil {t yt : TypeId} {x y : Operand} {p : Option Addr} {l c : Nat} (hx : ev S x = some (.slice p l c)) (hy : ev S y = some (.slice none 0 0)) (h : slcB P t = true) :
    ∀ a, Fr a n D S → Yl P md w a ⟨dst, .binOp .neq t x y yt, ty, pos, af, g⟩ (.bool (!p.isNone)) := y_bin hx hy fun u => by
  unfold slcB at h
  split at h
  · rename_i e he
    have hq : (Op.equal t (.slice p l c) (.slice none 0 0)).run P u = .ok p.isNone u := run_snil (d := 9999) he u
    simp [eqGuard, binOp, hq]
  · cases h
end

/-- one block handed over by the caller -/
theorem Mem.start1 {w : World} {r : Nat} {b : Blk} (h : w.heap[r]? = some b.toObj) : Mem w w (fun k => k = r) [(r, b)] :=
  ⟨rfl, rfl, rfl, Nat.le_refl _, fun _ _ _ => rfl, by simp [h], by simp, by cases hb : b.real <;> simp [reals, hb]⟩
theorem Mem.start2 {w : World} {r s : Nat} {b c : Blk} (h : w.heap[r]? = some b.toObj) (h' : w.heap[s]? = some c.toObj) (hne : r ≠ s) : Mem w w (fun k => k = r ∨ k = s) [(r, b), (s, c)] :=
  ⟨rfl, rfl, rfl, Nat.le_refl _, fun _ _ _ => rfl, by simp [h, h'], by simp, by cases hb : b.real <;> cases hc : c.real <;> simp [reals, hb, hc, hne]⟩
theorem Acc.spot {e es n cap g : Nat} {b : Blk} {p : Option Addr} {cells : List Value} (h : Acc e es p n cap cells g b) (hc : cap ≠ 0) : ∀ ad, p = some ad → ad.spot = none := by
  rcases h.cases' with ⟨_, h2, _⟩ | ⟨l, h2, _⟩
  · exact absurd h2 hc
  · intro ad e; rw [h2] at e; cases e; rfl
theorem Acc.le {e es n cap g : Nat} {b : Blk} {p : Option Addr} {cells : List Value} (h : Acc e es p n cap cells g b) : n ≤ cap := by
  rcases h.cases' with ⟨h1, h2, _⟩ | ⟨l, _, _, h2, _⟩ <;> omega
/-- the slice's block is another one -/
theorem Acc.apart {w0 w : World} {X : Bs} {L : List (Nat × Blk)} {e es n cap g r : Nat} {b c : Blk} {p : Option Addr} {cells : List Value} (h : Acc e es p n cap cells g b) (hm : Mem w0 w X L) (j k : Nat) (hj : blk L j = some (g, b)) (hk : blk L k = some (r, c)) (hjk : Nat.beq j k = false) (hc : c.real = true := by rfl) :
    cells ≠ [] → ∀ ad, p = some ad → ad.block ≠ r := by
  rcases h.cases' with ⟨h1, _, _⟩ | ⟨l, h2, h3, _⟩
  · intro hne
    have := h.len
    rw [h1, Nat.zero_mul] at this
    exact absurd (List.length_eq_zero_iff.1 this) hne
  · intro _ ad e
    rw [h2] at e
    cases e
    subst h3
    exact hm.ne j k hj hk hjk rfl hc
theorem Rd.extN {w w' : World} {p : Option Addr} {cs : List Value} {Y : Bs} (h : Rd w p cs) (hx : Ext Y w w') (hY : cs ≠ [] → ∀ a, p = some a → ¬ Y a.block) : Rd w' p cs := by
  by_cases hc : cs = []
  · subst hc
    cases p with
    | none => rfl
    | some a => exact ⟨fun h => absurd rfl h, by simp⟩
  · exact h.ext hx (hY hc)

def encB (x : UInt8) : List Value := [.int .u8 x.toNat]
theorem encB_len (x : UInt8) : (encB x).length = 1 := rfl
theorem oneB : ∀ xs : List UInt8, (xs.flatMap encB).all (·.oneCell') = true
  | [] => rfl
  | x :: r => by simp only [List.flatMap_cons, List.all_append, oneB r, Bool.and_true]; rfl
theorem lenB (xs : List UInt8) : (xs.flatMap encB).length = xs.length * 1 := fm_length encB_len xs
theorem nilB {xs : List UInt8} (h : xs.flatMap encB = []) : xs = [] := by
  have := lenB xs
  rw [h] at this
  exact List.length_eq_zero_iff.1 (by simpa using this.symm)
theorem Rd.sub {w : World} {p : Option Addr} {xs : List UInt8} {cap l m : Nat} (h : Rd w p (xs.flatMap encB)) (hcap : xs.length ≤ cap) : Rd w (Cx.slp p cap l 1) (((xs.drop l).take m).flatMap encB) := by
  refine Rd.slp h (fun j v hj => ?_) (fun e => ?_)
  · have hg : ∀ (ys : List UInt8) (i : Nat), (ys.flatMap encB)[i]? = ys[i]?.map (fun x => Value.int .u8 x.toNat) := fun ys => by
      induction ys with
      | nil => intro i; simp
      | cons y r ih =>
        intro i
        cases i with
        | zero => rfl
        | succ i => simp only [List.flatMap_cons, encB, List.cons_append, List.nil_append, List.getElem?_cons_succ]; exact ih i
    rw [hg] at hj ⊢
    rw [List.getElem?_take] at hj
    split at hj
    · rw [List.getElem?_drop] at hj; rw [Nat.mul_one]; exact hj
    · cases hj
  · have : xs.drop l = [] := List.drop_eq_nil_of_le (by omega)
    rw [this]; simp
theorem slp_block {p : Option Addr} {cap l es : Nat} {a : Addr} (h : slp p cap l es = some a) : ∃ ad, p = some ad ∧ ad.block = a.block := by
  unfold slp at h
  split at h
  · exact ⟨a, h, rfl⟩
  · cases p with
    | none => simp at h
    | some ad => simp at h; exact ⟨ad, rfl, by rw [← h]⟩
end Go.Cx

namespace Go.Cx
set_option linter.unusedVariables false
set_option linter.unusedSimpArgs false
open Go

def bstr (l : List UInt8) : ByteArray := ⟨l.toArray⟩
theorem bstr_toList (l : List UInt8) : (bstr l).toList = l := by rw [ByteArray.toList_eq]; rfl
theorem bstr_inj {a b : List UInt8} (h : bstr a = bstr b) : a = b := by rw [← bstr_toList a, ← bstr_toList b, h]
theorem bstr_size (l : List UInt8) : (bstr l).size = l.length := rfl
theorem encB_get : ∀ (ys : List UInt8) (i : Nat), (ys.flatMap encB)[i]? = ys[i]?.map (fun x => Value.int .u8 x.toNat)
  | [], i => by simp
  | y :: r, 0 => rfl
  | y :: r, i + 1 => by simp only [List.flatMap_cons, encB, List.cons_append, List.nil_append, List.getElem?_cons_succ]; exact encB_get r i
/-- slice type s of bytes, string type t -/
def bts (P : Program) (s t : TypeId) : Bool := match P.underlying s, P.underlying t with | some (.slice e), some .string => (match P.underlying e with | some (.int .u8) => true | _ => false) | _, _ => false
theorem bts_spec {P : Program} {s t : TypeId} (h : bts P s t = true) : ∃ e, P.underlying s = some (.slice e) ∧ P.underlying e = some (.int .u8) ∧ P.underlying t = some .string := by
  unfold bts at h
  split at h
  · rename_i e hs ht
    split at h
    · rename_i he; exact ⟨e, hs, he, ht⟩
    · cases h
  · cases h
theorem run_cvs {P : Program} {s t : TypeId} {p : Option Addr} {cap : Nat} {xs : List UInt8} {u : World} (h : bts P s t = true) (hr : Rd u p (xs.flatMap encB)) : (convert s t (.slice p xs.length cap)).run P u = .ok (.string (bstr xs)) u := by
  obtain ⟨e, hs, he, ht⟩ := bts_spec h
  cases p with
  | none =>
    have hr : xs.flatMap encB = [] := hr
    obtain rfl := nilB hr
    rw [run_convert_bytes_string u s t e none _ cap hs he ht]; rfl
  | some a =>
    by_cases hne : xs = []
    · subst hne
      exact run_convert_bytes_back u s t e a cap [] hs he ht (fun j hj => absurd hj (by simp))
    · refine run_convert_bytes_back u s t e a cap xs hs he ht fun j hj => ?_
      obtain ⟨b, o, sp⟩ := a
      have hsp : sp = none := hr.1 fun e => hne (nilB e)
      subst hsp
      have := hr.2 j (.int .u8 xs[j].toNat) (by rw [encB_get, List.getElem?_eq_getElem hj]; rfl)
      by_cases hj0 : j = 0
      · subst hj0; simpa [Addr.add] using this
      · simpa [Addr.add, hj0] using this
section
variable {P : Program} {md : Md} {w : World} {n : Nat} {D : List Deferred} {S : List (Nat × Value)} {dst : Option Tmp} {ty : TypeId} {pos : String} {af : Array Edge} {g : Option (Nat × Bool)}
theorem y_cvs {s t : TypeId} {x : Operand} {p : Option Addr} {cap m : Nat} {xs : List UInt8} (hx : ev S x = some (.slice p m cap)) (h : bts P s t = true) (hR : ∀ u, Near md w u → Rd u p (xs.flatMap encB)) (hm : m = xs.length) :
    ∀ a, Fr a n D S → Yl P md w a ⟨dst, .convert s t x, ty, pos, af, g⟩ (.string (bstr xs)) := fun a hf u hu => by
  subst hm
  simp [execOp, hf.eval hx, run_cvs h (hR u hu)]
theorem y_seqB {t yt : TypeId} {x y : Operand} {a b : List UInt8} (hx : ev S x = some (.string (bstr a))) (hy : ev S y = some (.string (bstr b))) :
    ∀ c, Fr c n D S → Yl P md w c ⟨dst, .binOp .eql t x y yt, ty, pos, af, g⟩ (.bool (decide (a = b))) := by
  have := y_seql (P := P) (md := md) (w := w) (n := n) (D := D) (dst := dst) (ty := ty) (pos := pos) (af := af) (g := g) (t := t) (yt := yt) hx hy
  rw [bstr_toList, bstr_toList] at this
  have e : (a == b) = decide (a = b) := by rw [Bool.eq_iff_iff]; simp
  rw [e] at this
  exact this
theorem y_snqB {t yt : TypeId} {x y : Operand} {a b : List UInt8} (hx : ev S x = some (.string (bstr a))) (hy : ev S y = some (.string (bstr b))) :
    ∀ c, Fr c n D S → Yl P md w c ⟨dst, .binOp .neq t x y yt, ty, pos, af, g⟩ (.bool (decide (a ≠ b))) := by
  have := y_sneq (P := P) (md := md) (w := w) (n := n) (D := D) (dst := dst) (ty := ty) (pos := pos) (af := af) (g := g) (t := t) (yt := yt) hx hy
  rw [bstr_toList, bstr_toList] at this
  have e : (!(a == b)) = decide (a ≠ b) := by rw [Bool.eq_iff_iff]; simp
  rw [e] at this
  exact this
theorem y_cat {t yt : TypeId} {x y : Operand} {a b : List UInt8} (hx : ev S x = some (.string (bstr a))) (hy : ev S y = some (.string (bstr b))) (hl : a.length + b.length ≤ 9223372036854775807) :
    ∀ c, Fr c n D S → Yl P md w c ⟨dst, .binOp .add t x y yt, ty, pos, af, g⟩ (.string (bstr (a ++ b))) := y_bin hx hy fun u => by
  have e : bstr a ++ bstr b = bstr (a ++ b) := by
    apply ByteArray.ext
    simp [bstr, ByteArray.data_append]
  have h1 : ((bstr a).size : Int) + (bstr b).size ≤ 9223372036854775807 := by rw [bstr_size, bstr_size]; omega
  simp [eqGuard, binOp, Op.stringOp, e]
  omega
end
/-- the state of an own slice -/
structure Ow where
  p : Option Addr
  n : Nat
  cap : Nat
  g : Nat
  b : Blk
theorem Acc.lenB {e n cap g : Nat} {b : Blk} {p : Option Addr} {bs : List UInt8} (h : Acc e 1 p n cap (bs.flatMap encB) g b) : n = bs.length := by
  have := h.len
  rw [Cx.lenB] at this
  omega
theorem Acc.to {e es n cap g : Nat} {b : Blk} {p : Option Addr} {cs ds : List Value} (h : Acc e es p n cap cs g b) (he : cs = ds) : Acc e es p n cap ds g b := he ▸ h
theorem pickL_mem : ∀ (L : List (Nat × Blk)) (ks : List Nat) (q : Nat × Blk), q ∈ pickL L ks → ∃ k, k ∈ ks ∧ blk L k = some q
  | _, [], _, h => by simp [pickL] at h
  | L, k :: r, q, h => by
    simp only [pickL] at h
    split at h
    · rename_i x hx
      rcases List.mem_cons.1 h with rfl | h
      · exact ⟨k, by simp, hx⟩
      · obtain ⟨j, h1, h2⟩ := pickL_mem L r q h; exact ⟨j, by simp [h1], h2⟩
    · obtain ⟨j, h1, h2⟩ := pickL_mem L r q h; exact ⟨j, by simp [h1], h2⟩
def freeL : List Nat → Bool
  | [] => true
  | k :: r => r.all (fun j => !Nat.beq k j) && freeL r
/-- some of the own blocks, in another order -/
theorem Mem.pick {w0 w : World} {X : Bs} {L : List (Nat × Blk)} (h : Mem w0 w X L) (ks : List Nat) (hk : freeL ks = true) : Mem w0 w X (pickL L ks) := by
  have hin : ∀ q, q ∈ pickL L ks → q ∈ L := fun q hq => by obtain ⟨k, _, h1⟩ := pickL_mem L ks q hq; exact blk_mem h1
  refine ⟨h.os, h.tape, h.output, h.size, h.same, fun p hp => h.own p (hin p hp), fun p hp => h.fresh p (hin p hp), ?_⟩
  have hn := h.nodup
  clear hin h
  induction ks with
  | nil => simp [pickL, reals]
  | cons k r ih =>
    simp only [freeL, Bool.and_eq_true, List.all_eq_true, Bool.not_eq_true'] at hk
    simp only [pickL]
    split
    · rename_i q hq
      rw [reals_cons]
      split
      · rename_i hr
        refine List.nodup_cons.2 ⟨fun hm => ?_, ih hk.2⟩
        obtain ⟨b, hb, hbr⟩ := mem_reals.1 hm
        obtain ⟨j, hj, hjb⟩ := pickL_mem L r _ hb
        have hne := hk.1 j hj
        obtain ⟨q1, q2⟩ := q
        rcases Nat.lt_trichotomy k j with hlt | heq | hgt
        · exact reals_ne L k j q1 q1 q2 b hn hq hjb hr hbr hlt rfl
        · subst heq; simp at hne
        · exact reals_ne L j k q1 q1 b q2 hn hjb hq hbr hr hgt rfl
      · exact ih hk.2
    · exact ih hk.2
theorem slp_zero' {p : Option Addr} {cap es : Nat} (hp : cap ≠ 0 → ∀ a, p = some a → a.spot = none) : slp p cap 0 es = p := by
  by_cases h : cap = 0
  · unfold slp; rw [if_pos h]
  · exact slp_zero (hp h)
theorem slp_spot {p : Option Addr} {cap l es : Nat} (h : cap ≠ l → ∀ a, p = some a → a.spot = none) {ad : Addr} (hs : cap ≠ l) (e : slp p cap l es = some ad) : ad.spot = none := by
  unfold slp at e
  rw [if_neg hs] at e
  cases p with
  | none => cases e
  | some a => simp at e; rw [← e]
theorem Rd.takeB {w : World} {p : Option Addr} {bs : List UInt8} (h : Rd w p (bs.flatMap encB)) (m : Nat) : Rd w p ((bs.take m).flatMap encB) :=
  Rd.pre h (fun j v hj => by rw [encB_get, List.getElem?_take] at hj; rw [encB_get]; split at hj; exact hj; cases hj) (fun e => by subst e; rw [nilB (show bs.flatMap encB = [] from h)]; simp)
theorem arrO_spec {P : Program} {T n e es : Nat} (h : arrO P T = some (n, e, es)) : P.underlying T = some (.array n e) ∧ ∃ i, P.info? e = some i ∧ i.size = es := by
  unfold arrO at h
  cases hu : P.underlying T with
  | none => simp [hu] at h
  | some d =>
    cases d <;> simp [hu] at h
    rename_i n' e'
    cases hi : P.info? e' with
    | none => simp [hi] at h
    | some i =>
      simp [hi] at h
      obtain ⟨rfl, rfl, h2⟩ := h
      exact ⟨rfl, i, hi, h2⟩
section
variable {P : Program} {md : Md} {w : World} {n : Nat} {D : List Deferred} {S : List (Nat × Value)} {dst : Option Tmp} {ty : TypeId} {pos : String} {af : Array Edge} {g : Option (Nat × Bool)}
/-- an element's address in an array at an address -/
theorem y_indexP {T an e es : Nat} {x y : Operand} {m off : Nat} {k' : IntKind} {j : Int} (hx : ev S x = some (.pointer (some ⟨m, off, none⟩))) (hy : ev S y = some (.int k' j)) (hT : arrO P T = some (an, e, es)) (h0 : 0 ≤ j) (h1 : j < an) :
    ∀ a, Fr a n D S → Yl P md w a ⟨dst, .indexAddr T x y, ty, pos, af, g⟩ (.pointer (some ⟨m, off + j.toNat * es, none⟩)) := fun a hf u _ => by
  obtain ⟨hu, i, hi, hs⟩ := arrO_spec hT
  have hsz : (sizeOf e).run P u = .ok es u := by simp [sizeOf, typeInfo, hi, hs]
  have hadd : (⟨m, off, none⟩ : Addr).add (j.toNat * es) = ⟨m, off + j.toNat * es, none⟩ := by
    unfold Addr.add; split
    · rename_i h; rw [h]; simp
    · simp
  simp [execOp, hf.eval hx, hf.eval hy, Instr.indexAt, asIntOf, run_und hu, Instr.sureAddr, h0, h1, hsz, hadd]
end
theorem Acc.ptr {e es n cap g : Nat} {b : Blk} {p : Option Addr} {cells : List Value} (h : Acc e es p n cap cells g b) (hn : 0 < n) : p = some ⟨g, 0, none⟩ := by
  rcases h.cases' with ⟨h1, _, _⟩ | ⟨l, h2, _⟩
  · omega
  · exact h2
theorem setB_eq : ∀ (L : List (Nat × Blk)) (k n : Nat) (b x : Blk), blk L k = some (n, b) → setB L k x = setE L k (n, x)
  | [], _, _, _, _, _ => rfl
  | (m, d) :: r, 0, n, b, x, h => by simp only [blk, Option.some.injEq, Prod.mk.injEq] at h; obtain ⟨rfl, _⟩ := h; rfl
  | (m, d) :: r, k + 1, n, b, x, h => by simp only [blk] at h; simp only [setB, setE, setB_eq r k n b x h]
/-- a store into an own slice -/
theorem Acc.store {e es g n cap i : Nat} {b : Blk} {p : Option Addr} {cells vs : List Value} {w0 w : World} {X : Bs} {L : List (Nat × Blk)} {P : Program} {T : TypeId} {v : Value} (ha : Acc e es p n cap cells g b) (hm : Mem w0 w X L) (j : Nat) (hj : blk L j = some (g, b)) (hi : i < n)
    (hc : v.cells = ⟨vs⟩) (hs : szO P T = some vs.length) (hl : vs.length = es) (h1 : vs.all (·.oneCell') = true) :
    ∃ b' w', (storeVar T ⟨g, 0 + i * es, none⟩ v).run P w = .ok () w' ∧ Acc e es p n cap (upds cells (i * es) vs) g b' ∧ Mem w0 w' X (setE L j (g, b')) ∧ b'.real = b.real ∧ Ext (fun k => k = g) w w' := by
  rcases ha.cases' with ⟨h2, _, _⟩ | ⟨l, rfl, rfl, hnc, hll, htk⟩
  · omega
  · have hle : (i + 1) * es ≤ n * es := Nat.mul_le_mul_right _ hi
    have hle2 : n * es ≤ cap * es := Nat.mul_le_mul_right _ hnc
    rw [Nat.succ_mul] at hle
    have hcl := ha.len
    refine ⟨.row e (upds l (i * es) vs), _, run_storeVar_mid (off := 0 + i * es) hc hs h1 (by simp only [Nat.ble_eq]; omega) (hm.get hj), ⟨by rw [upds_length, hcl], .inr ⟨_, rfl, rfl, hnc, by rw [upds_length, hll], ?_⟩⟩, ?_, rfl, ?_⟩
    · rw [upds_eq vs l _ (by omega), upds_eq vs cells _ (by omega), ← htk, List.take_append, List.take_append]
      simp only [List.length_take, List.length_append, List.take_take, List.drop_take]
      have e1 : min (n * es) (i * es) = i * es := by omega
      have e2 : min (i * es) (n * es) = i * es := by omega
      have e3 : min (i * es) l.length = i * es := by omega
      rw [e1, e2, e3, List.take_of_length_le (l := vs) (by omega)]
    · rw [Nat.zero_add, ← setB_eq L j g _ _ hj]
      exact setRow_mem hm hj
    · rw [Nat.zero_add]
      refine ⟨rfl, rfl, rfl, by simp [World.setRow], fun k hk hne => ?_⟩
      simp only [World.setRow, Array.getElem?_modify]
      rw [if_neg (by intro e; exact hne e.symm)]
section
variable {P : Program} {r : Option Nat} {k : Ks} {ops : Array Oper} {md : Md} {n : Nat} {D : List Deferred} {S : List (Nat × Value)} {w : World} {i : Nat} {t : Tr}
variable {ty : TypeId} {pos : String} {af : Array Edge} {g : Option (Nat × Bool)} {dst : Option Tmp} {d : Nat} {w0 : World} {X : Bs} {L : List (Nat × Blk)}
theorem a_storeE {T e es gg na cap ix : Nat} {x y : Operand} {vs cells : List Value} {v : Value} {b : Blk} {p : Option Addr} (ho : opn ops S i = some ⟨dst, .store T x y, ty, pos, af, g⟩) (hx : ev S x = some (.pointer (some ⟨gg, 0 + ix * es, none⟩))) (hy : ev S y = some v)
    (hc : v.cells = ⟨vs⟩) (hs : szO P T = some vs.length) (h1 : vs.all (·.oneCell') = true) (hl : vs.length = es) (ha : Acc e es p na cap cells gg b) (hix : ix < na) (hm : Mem w0 w X L) (j : Nat) (hj : blk L j = some (gg, b))
    (h : ∀ b' w', Acc e es p na cap (upds cells (ix * es) vs) gg b' → Mem w0 w' X (setE L j (gg, b')) → HR P r k ops none n D S t w') : HR P r k ops none n D S (.act i t) w := by
  obtain ⟨b', w', hrun, ha', hm', _⟩ := ha.store (P := P) (T := T) hm j hj hix hc hs hl h1
  refine a_skp (w' := w') ho rfl (fun a hf => ?_) trivial (h b' w' ha' hm')
  rw [Nat.zero_add] at hrun
  simp [execOp, hf.eval hx, hf.eval hy, Instr.storeAt, Instr.sureAddr, hrun]
end
theorem updB : ∀ (xs : List UInt8) (i : Nat) (y : UInt8), upds (xs.flatMap encB) (i * 1) [.int .u8 y.toNat] = (xs.set i y).flatMap encB
  | [], i, y => by simp [upds, upd]
  | x :: r, 0, y => rfl
  | x :: r, i + 1, y => by
    have := updB r i y
    simp only [Nat.mul_one, upds] at this ⊢
    simp only [List.flatMap_cons, encB, List.cons_append, List.nil_append, upd, List.set_cons_succ, this]
theorem u8inc (x : UInt8) : IntKind.u8.wrap ((x.toNat : Int) + 1) = ((x + 1).toNat : Int) := by
  have e : IntKind.u8.wrap ((x.toNat : Int) + 1) = ((x.toNat : Int) + 1) % 256 := by simp [IntKind.wrap, IntKind.signed, IntKind.bits]
  rw [e, UInt8.toNat_add]
  have h1 : (1 : UInt8).toNat = 1 := rfl
  rw [h1]
  omega
theorem Rd.lt {w : World} {p : Option Addr} {cs : List Value} (h : Rd w p cs) (hne : cs ≠ []) : ∀ ad, p = some ad → ad.block < w.heap.size := fun ad e => by
  subst e
  obtain ⟨v, r, rfl⟩ := List.exists_cons_of_ne_nil hne
  exact cell_lt (a := ⟨ad.block, ad.off + 0, none⟩) (h.2 0 v rfl)
/-- what came in lies apart from what is new -/
theorem Mem.apartR {w0 w : World} {L : List (Nat × Blk)} {p : Option Addr} {cs : List Value} {m : Nat} {b : Blk} (hm : Mem w0 w No L) (hR : Rd w0 p cs) (k : Nat) (hk : blk L k = some (m, b)) (hb : b.real = true := by rfl) : cs ≠ [] → ∀ ad, p = some ad → ad.block ≠ m := fun h ad e heq => by
  have h1 := hR.lt h ad e
  have h2 := (hm.fresh _ (blk_mem hk) hb).resolve_left id
  simp only at h2
  omega
theorem Hold.turn {b w w' : World} {Y Z : Bs} (h : Hold (some (b, Y)) w) (hx : Ext Z w w') (hz : ∀ k, Z k → Y k) : Hold (some (b, Y)) w' := Ext.trans h (hx.mono hz)
end Go.Cx

namespace Go.Cx
set_option linter.unusedVariables false
set_option linter.unusedSimpArgs false
open Go

section
variable {P : Program} {w : World}
/-- an append to the call's own slice, whatever it appends -/
theorem Acc.appendOf {T e es bs : Nat} {R : Sem Value} {p : Option Addr} {n cap m g : Nat} {b : Blk} {cells new z : List Value} {w0 : World} {X : Bs} {L : List (Nat × Blk)} (hzl : z.length = es) (h1 : new.all (·.oneCell') = true) (hnew : new.length = m * es) (ha : Acc e es p n cap cells g b) (hm : Mem w0 w X L) (j : Nat) (hj : blk L j = some (g, b))
    (hfit : n + m ≤ cap → R.run P w = (match p with | some a => (storeCells (a.add (n * es)) new).run P w | none => .ok () w).andThen fun _ w' => .ok (.slice p (n + m) cap) w')
    (hgrow : cap < n + m → R.run P w = .ok (.slice (some ⟨w.heap.size, 0, none⟩) (n + m) (newCap w (n + m) cap e)) (w.drew.alloc (Blk.row e (cells ++ new ++ (Builtin.zeroCells ⟨z⟩ (newCap w (n + m) cap e - (n + m))).toList)).toObj)) :
    ∃ p' cap' g' b' w', R.run P w = .ok (.slice p' (n + m) cap') w' ∧ Acc e es p' (n + m) cap' (cells ++ new) g' b' ∧ Mem w0 w' X (setE L j (g', b')) ∧
      Ext (fun k => b.real = true ∧ k = g) w w' ∧ (g' = g ∧ b'.real = b.real ∨ w.heap.size ≤ g') := by
  have hlen : (cells ++ new).length = (n + m) * es := by rw [List.length_append, ha.len, hnew, Nat.add_mul]
  have hself : ∀ (L : List (Nat × Blk)) (k : Nat) (q : Nat × Blk), blk L k = some q → setE L k q = L := fun L => by
    induction L with
    | nil => intro k q h; simp [blk] at h
    | cons x r ih =>
      intro k q h
      cases k with
      | zero => simp only [blk, Option.some.injEq] at h; subst h; rfl
      | succ k => simp only [setE, ih k q h]
  have hsetB : ∀ (L : List (Nat × Blk)) (k n : Nat) (b x : Blk), blk L k = some (n, b) → setB L k x = setE L k (n, x) := fun L => by
    induction L with
    | nil => intro k n b x h; rfl
    | cons y r ih =>
      intro k n b x h
      obtain ⟨m, d⟩ := y
      cases k with
      | zero => simp only [blk, Option.some.injEq, Prod.mk.injEq] at h; obtain ⟨rfl, _⟩ := h; rfl
      | succ k => simp only [blk] at h; simp only [setB, setE, ih k n b x h]
  by_cases hle : n + m ≤ cap
  · have hrun := hfit hle
    rcases ha.cases' with ⟨h2, h3, h4⟩ | ⟨l, rfl, rfl, hnc, hl, htk⟩
    · have hm0 : m = 0 := by omega
      subst h2 h3 hm0
      have hnil : new = [] := List.length_eq_zero_iff.1 (by rw [hnew]; simp)
      have hcnil : cells = [] := List.length_eq_zero_iff.1 (by rw [ha.len]; simp)
      subst hnil hcnil h4
      refine ⟨p, 0, g, .gap, w, ?_, ⟨by simp, .inl ⟨rfl, rfl, rfl⟩⟩, by rw [hself L j _ hj]; exact hm, Ext.refl _ _, .inl ⟨rfl, rfl⟩⟩
      rw [hrun]
      cases p <;> simp [storeCells]
    · have hg := hm.get hj
      have hst := run_storeCells_at P g (n * es) e new 0 ⟨l⟩ w hg (by simp only [Nat.add_zero, hnew, List.size_toArray]; rw [hl, ← Nat.add_mul]; exact Nat.mul_le_mul_right _ hle) (by simpa using h1)
      simp only [Nat.add_zero] at hst
      have hadd : (⟨g, 0, none⟩ : Addr).add (n * es) = ⟨g, n * es, none⟩ := by
        unfold Addr.add; split
        · rename_i h0; rw [h0]
        · simp
      refine ⟨some ⟨g, 0, none⟩, cap, g, .row e (l.take (n * es) ++ new ++ l.drop (n * es + new.length)), _, by rw [hrun]; simp only [hadd, hst]; rfl, ⟨hlen, .inr ⟨_, rfl, rfl, hle, ?_, ?_⟩⟩, ?_, ?_, .inl ⟨rfl, rfl⟩⟩
      · have : n * es + new.length ≤ l.length := by rw [hnew, hl, ← Nat.add_mul]; exact Nat.mul_le_mul_right _ hle
        simp only [List.length_append, List.length_take, List.length_drop]
        omega
      · rw [htk, ← hlen]
        exact List.take_left
      · have := setRow_mem (l' := l.take (n * es) ++ new ++ l.drop (n * es + new.length)) hm hj
        rw [hsetB L j g _ _ hj] at this
        exact this
      · refine ⟨rfl, rfl, rfl, by simp [World.setRow], fun k hk hne => ?_⟩
        simp only [World.setRow, Array.getElem?_modify]
        rw [if_neg]
        intro e; subst e
        exact hne ⟨rfl, rfl⟩
  · have hlt : cap < n + m := by omega
    have hrun := hgrow hlt
    refine ⟨_, _, w.heap.size, .row e (cells ++ new ++ (Builtin.zeroCells ⟨z⟩ (newCap w (n + m) cap e - (n + m))).toList), _, hrun, ⟨hlen, .inr ⟨_, rfl, rfl, newCap_ge _ _ _ _, ?_, ?_⟩⟩, ?_, ?_, .inr (Nat.le_refl _)⟩
    · have : (Builtin.zeroCells ⟨z⟩ (newCap w (n + m) cap e - (n + m))).toList.length = (newCap w (n + m) cap e - (n + m)) * es := by
        rw [← hzl]; simp [Builtin.zeroCells]
      rw [List.length_append, hlen, this, ← Nat.add_mul]
      congr 1
      have := newCap_ge w (n + m) cap e
      omega
    · rw [← hlen]; exact List.take_left
    · exact ((hm.ext (drew_ext w)).alloc (Blk.row e (cells ++ new ++ (Builtin.zeroCells ⟨z⟩ (newCap w (n + m) cap e - (n + m))).toList))).lay j hj
    · exact ((drew_ext w).trans (ext_alloc _ _)).mono fun _ h => h.elim

theorem intO_spec {T : TypeId} {k : IntKind} (h : intO P T = some k) : P.underlying T = some (.int k) := by
  unfold intO at h
  cases hu : P.underlying T with
  | none => simp [hu] at h
  | some d => cases d <;> simp [hu] at h; subst h; rfl
theorem zeroCells_eq (z : List Value) (n : Nat) : Builtin.zeroCells ⟨z⟩ n = ⟨repZ z n⟩ := zeros_eq z n
theorem repZ_one : ∀ (z : List Value) (n : Nat), z.all (·.oneCell') = true → (repZ z n).all (·.oneCell') = true
  | _, 0, _ => rfl
  | z, n + 1, h => by simp only [repZ, List.all_append, h, repZ_one z n h, Bool.and_self]
theorem run_appendZ {T e es bs : Nat} {ts : Array TypeId} {ty : TypeId} {p : Option Addr} {n cap m : Nat} {k k' : IntKind} {cells : List Value} {z : List Value} (hT : slcO P T = some (e, es, bs)) (hts : ts[0]? = some T) {T2 : TypeId} (hts2 : ts[1]? = some T2) (hT2 : intO P T2 = some k)
    (hz : zer P e = some z) (hzl : z.length = es) (hp : Rd w p cells) (hc : cells.length = n * es) (hb : (n + m) * bs ≤ 140737488355328) (h63 : n + m < 2 ^ 63) :
    (n + m ≤ cap → (Builtin.append_ ts ty #[.slice p n cap, .int k' m]).run P w = (match p with | some a => (storeCells (a.add (n * es)) (repZ z m)).run P w | none => .ok () w).andThen fun _ w' => .ok (.slice p (n + m) cap) w') ∧
    (cap < n + m → (Builtin.append_ ts ty #[.slice p n cap, .int k' m]).run P w =
      .ok (.slice (some ⟨w.heap.size, 0, none⟩) (n + m) (newCap w (n + m) cap e)) (w.drew.alloc (Blk.row e (cells ++ repZ z m ++ (Builtin.zeroCells ⟨z⟩ (newCap w (n + m) cap e - (n + m))).toList)).toObj)) := by
  obtain ⟨hu, i, hi, hsz, hby⟩ := slcO_spec hT
  have hu2 := intO_spec hT2
  obtain ⟨zv, hzv, hzc⟩ := run_zer (w := w.drew) hz
  have hzz : i.zero = some zv := by
    unfold zer at hz
    cases hzz : i.zero with
    | none => simp [hi, hzz] at hz
    | some v => have : (zeroValue e).run P w.drew = .ok v w.drew := by simp [zeroValue, typeInfo, hi, hzz]
                rw [this] at hzv; cases hzv; rfl
  have hzv' : ∀ u : World, (zeroValue e).run P u = .ok zv u := fun u => by simp [zeroValue, typeInfo, hi, hzz]
  have hinfo : ∀ u : World, (typeInfo e).run P u = .ok i u := fun u => by simp [typeInfo, hi]
  have hpf := run_firstRd (P := P) (w := w.drew) (len := n) (cap := cap) (hp.ext0 (Ext.drew w)) hc
  have hsize : ∀ u : World, (sizeOf e).run P u = .ok es u := fun u => by simp [sizeOf, hinfo, hsz]
  have hasi : ∀ u : World, (asInt (.int k' (m : Int))).run P u = .ok (m : Int) u := fun u => by simp [asInt, asIntOf]
  have hw : IntKind.i64.wrap (m : Int) = m := i64w (by omega) (by omega)
  have hmb : m * bs ≤ (n + m) * bs := Nat.mul_le_mul_right _ (by omega)
  have hn0 : ¬ ((m : Int) < 0) := by omega
  have hn1 : ¬ ((m : Int) * (i.bytes : Int) > 2 ^ 48) := by
    rw [hby]
    have : ((m * bs : Nat) : Int) = (m : Int) * bs := by simp
    rw [← this]
    omega
  have happ : ∀ u : World, ((if m * es = 0 then (pure #[] : Sem (Array Value)) else do pure (Builtin.zeroCells (← zeroValue e).cells m))).run P u = .ok ⟨repZ z m⟩ u := fun u => by
    by_cases h0 : m * es = 0
    · have : repZ z m = [] := List.length_eq_zero_iff.1 (by rw [repZ_length, hzl]; exact h0)
      simp [h0, this]
    · simp [h0, hzv' u, hzc, zeroCells_eq]
  refine ⟨fun hle => ?_, fun hlt => ?_⟩
  · unfold Builtin.append_
    simp only [hts, hts2, List.getElem?_toArray, List.getElem?_cons_zero, List.getElem?_cons_succ, Sem.run_bind, run_und hu, run_und hu2, Result.andThen_ok, hsize, Sem.run_pure, if_true, hasi, hw, hn0, hn1, if_false, hinfo, hle, Int.toNat_natCast, Bool.not_true, Bool.false_eq_true, happ]
    cases p with
    | none => simp
    | some a => simp
  · have hn : ¬ n + m ≤ cap := by omega
    have hg : ¬ (Builtin.nextslicecap (n + m) cap * i.bytes > 2 ^ 48) := by
      have := growslice_fits (bytes := i.bytes) hlt (by rw [hby]; exact hb)
      simpa using this
    have hmx : ¬ (((n + m : Nat) : Int) > IntKind.i64.max ∧ (True ∨ i.bytes = 0)) := by
      intro ⟨h1, _⟩
      have : IntKind.i64.max = 9223372036854775807 := rfl
      rw [this] at h1
      omega
    unfold Builtin.append_
    simp only [hts, hts2, List.getElem?_toArray, List.getElem?_cons_zero, List.getElem?_cons_succ, Sem.run_bind, run_und hu, run_und hu2, Result.andThen_ok, hsize, Sem.run_pure, if_true, hasi, hw, hn0, hn1, if_false, hinfo, hn, Int.toNat_natCast, Bool.not_true, Bool.false_eq_true, Sem.run_ite, hmx, hg]
    have hch : (choose (.appendCap (n + m) cap e)).run P w = .ok (newCap w (n + m) cap e) w.drew := by
      simp [Question.forced, newCap, Question.cut]
    have hnr : ∀ (cs : Array Value) (u : World), (newRow e cs).run P u = .ok ⟨u.heap.size, 0, none⟩ (u.alloc (.cells cs e)) := fun cs u => by simp [newRow]
    have happ' := happ w.drew
    simp only [hch, Result.andThen_ok, run_askRoom, hpf, hzv', hzc, hnr, Blk.toObj]
    by_cases h0 : m * es = 0
    · have h9 : repZ z m = [] := List.length_eq_zero_iff.1 (by rw [repZ_length, hzl]; exact h0)
      simp [h0, h9, hzv', hzc]
      congr 1
      congr 1
      apply Array.ext'
      simp
    · simp [h0, hzv', hzc, zeroCells_eq]
theorem run_mk {T e es bs : Nat} {k k' : IntKind} {l c : Nat} {z : List Value} {u : World} (hT : slcO P T = some (e, es, bs)) (hz : zer P e = some z) (hzl : z.length = es) (hlc : l ≤ c) (hb : c * bs ≤ 140737488355328) (hc : c ≤ 4611686018427387903) :
    (Instr.makeSlice T (.int k l) (.int k' c)).run P u = .ok (.slice (some ⟨u.heap.size, 0, none⟩) l c) (u.alloc (Blk.row e (repZ z c)).toObj) := by
  obtain ⟨hu, i, hi, hsz, hby⟩ := slcO_spec hT
  obtain ⟨zv, hzv, hzc⟩ := run_zer (w := u) hz
  have hinfo : ∀ u : World, (typeInfo e).run P u = .ok i u := fun u => by simp [typeInfo, hi]
  have hsize : ∀ u : World, (sizeOf e).run P u = .ok es u := fun u => by simp [sizeOf, hinfo, hsz]
  have hasi : ∀ (k : IntKind) (m : Nat) (u : World), (asInt (.int k (m : Int))).run P u = .ok (m : Int) u := fun k m u => by simp [asInt, asIntOf]
  have hwl : IntKind.i64.wrap (l : Int) = l := i64w (by omega) (by omega)
  have hwc : IntKind.i64.wrap (c : Int) = c := i64w (by omega) (by omega)
  have hnr : ∀ (cs : Array Value) (u : World), (newRow e cs).run P u = .ok ⟨u.heap.size, 0, none⟩ (u.alloc (.cells cs e)) := fun cs u => by simp [newRow]
  have htl : (decide ((c : Int) < 0) || decide ((bs : Int) * (c : Int) > 2 ^ 48)) = false := by
    rw [Bool.or_eq_false_iff, decide_eq_false_iff_not, decide_eq_false_iff_not]
    have : ((bs * c : Nat) : Int) = (bs : Int) * c := by simp
    rw [← this, Nat.mul_comm]
    omega
  have hl0 : (decide ((l : Int) < 0)) = false := decide_eq_false (by omega)
  have hlc' : (decide ((l : Int) > (c : Int))) = false := decide_eq_false (by omega)
  unfold Instr.makeSlice
  simp only [Sem.run_bind, run_und hu, Result.andThen_ok, hasi, hinfo, hwl, hwc, hby, htl, hl0, hlc', Bool.or_self, Bool.false_eq_true, if_false, run_askRoom, hsize, Int.toNat_natCast, Sem.run_pure]
  by_cases h0 : c * es = 0
  · have h9 : repZ z c = [] := List.length_eq_zero_iff.1 (by rw [repZ_length, hzl]; exact h0)
    simp [h0, h9, hnr, Blk.toObj]
    congr 2
    apply Array.ext'
    simp
  · have hrep : ((Array.range (c * es)).map ((⟨z⟩ : Array Value)[· % (⟨z⟩ : Array Value).size]!)) = ⟨repZ z c⟩ := by rw [← zeros_eq z c, hzl]
    simp only [h0, if_false, Sem.run_bind, hzv, Result.andThen_ok, hzc, Sem.run_pure, hrep, hnr, Blk.toObj]
/-- copy into a row of the call's own: from cell o on -/
theorem run_copy {T e es bs : Nat} {ts : Array TypeId} {ty : TypeId} {g o dl dc sl sc : Nat} {q : Option Addr} {l src : List Value} (hT : slcO P T = some (e, es, bs)) (hts : ts[0]? = some T) (hg : w.heap[g]? = some (Blk.row e l).toObj) (hfit : o + dl * es ≤ l.length) (hq : Rd w q src) (hs : src.length = min sl dl * es) (h1 : src.all (·.oneCell') = true) :
    (Builtin.copy_ ts ty #[.slice (some ⟨g, o, none⟩) dl dc, .slice q sl sc]).run P w = .ok (.int .i64 (min sl dl : Nat)) (w.setRow g ⟨upds l o src⟩) := by
  obtain ⟨hu, i, hi, hsz, hby⟩ := slcO_spec hT
  have hsize : ∀ u : World, (sizeOf e).run P u = .ok es u := fun u => by simp [sizeOf, typeInfo, hi, hsz]
  have hf := run_firstRd (P := P) (len := sl) (cap := sc) hq hs
  have hmin : Nat.min sl dl = min sl dl := rfl
  have hle : o + src.length ≤ l.length := by
    rw [hs]
    have : min sl dl * es ≤ dl * es := Nat.mul_le_mul_right _ (Nat.min_le_right _ _)
    omega
  have hst := run_storeCells_at P g o e src 0 ⟨l⟩ w hg (by simpa using hle) (by simpa using h1)
  simp only [Nat.add_zero] at hst
  rw [← upds_eq src l o hle] at hst
  unfold Builtin.copy_
  simp only [hts, List.getElem?_toArray, List.getElem?_cons_zero, List.getElem?_cons_succ, Sem.run_bind, run_und hu, Result.andThen_ok, hsize, Sem.run_pure, Builtin.lenOf, hf, hst, hmin]
  rfl
/-- a copy of nothing into nothing -/
theorem run_copy0 {T e es bs : Nat} {ts : Array TypeId} {ty : TypeId} {dl dc sl sc : Nat} {p q : Option Addr} (hT : slcO P T = some (e, es, bs)) (hts : ts[0]? = some T) (hq : Rd w q []) (h0 : min sl dl = 0) (hp : p = none ∨ ∃ ad, p = some ad) :
    (Builtin.copy_ ts ty #[.slice p dl dc, .slice q sl sc]).run P w = .ok (.int .i64 0) w := by
  obtain ⟨hu, i, hi, hsz, hby⟩ := slcO_spec hT
  have hsize : ∀ u : World, (sizeOf e).run P u = .ok es u := fun u => by simp [sizeOf, typeInfo, hi, hsz]
  have hf := run_firstRd (P := P) (es := es) (m := 0) (len := sl) (cap := sc) hq (by simp)
  have hmin : Nat.min sl dl = 0 := h0
  unfold Builtin.copy_
  simp only [hts, List.getElem?_toArray, List.getElem?_cons_zero, List.getElem?_cons_succ, Sem.run_bind, run_und hu, Result.andThen_ok, hsize, Sem.run_pure, Builtin.lenOf, hf, hmin]
  cases p with
  | none => simp [goInt]
  | some a => simp [goInt, storeCells]
end
section
variable {P : Program} {r : Option Nat} {k : Ks} {ops : Array Oper} {md : Md} {n : Nat} {D : List Deferred} {S : List (Nat × Value)} {w : World} {i : Nat} {t : Tr}
variable {ty : TypeId} {pos : String} {af : Array Edge} {g : Option (Nat × Bool)} {dst : Option Tmp} {d : Nat} {w0 : World} {X : Bs} {L : List (Nat × Blk)}
theorem a_appendZ {T e es bs : Nat} {s x : Operand} {ts : Array TypeId} {p : Option Addr} {na cap m gg : Nat} {b : Blk} {k1 k2 : IntKind} {cells z : List Value} {T2 : TypeId}
    (ho : opu ops S i = some (⟨dst, .call ⟨.builtin .append, #[s, x], ts⟩, ty, pos, af, g⟩, d)) (hd : Nat.blt d n = true) (hs : ev S s = some (.slice p na cap)) (hx : ev S x = some (.int k1 m)) (hts : ts[0]? = some T) (hts2 : ts[1]? = some T2)
    (hT : slcO P T = some (e, es, bs)) (hT2 : intO P T2 = some k2) (hz : zer P e = some z) (hzl : z.length = es) (h1 : z.all (·.oneCell') = true) (ha : Acc e es p na cap cells gg b)
    (hm : Mem w0 w X L) (j : Nat) (hj : blk L j = some (gg, b)) (hb : (na + m) * bs ≤ 140737488355328) (h63 : na + m < 2 ^ 63)
    (h : ∀ p' cap' g' b' w', Acc e es p' (na + m) cap' (cells ++ repZ z m) g' b' → Mem w0 w' X (setE L j (g', b')) → HR P r k ops none n D ((d, .slice p' (na + m) cap') :: S) t w') : HR P r k ops none n D S (.act i t) w := by
  obtain ⟨hfit, hgrow⟩ := run_appendZ (w := w) (cap := cap) (k' := k1) (ty := ty) hT hts hts2 hT2 hz hzl (ha.rd hm j hj) ha.len hb h63
  obtain ⟨p', cap', g', b', w', hrun, ha', hm', _⟩ := Acc.appendOf (T := T) (bs := bs) hzl (repZ_one z m h1) (by rw [repZ_length, hzl]) ha hm j hj hfit hgrow
  refine a_val ho hd rfl (fun a hf => ?_) trivial (h p' cap' g' b' w' ha' hm')
  simp only [execOp, resolve, List.map_toArray, List.map_cons, List.map_nil, hf.eval hs, hf.eval hx, Sem.run_bind, Sem.run_pure, Result.andThen_ok, invoke, builtin, hrun]
/-- make -/
theorem a_make {T e es bs l c : Nat} {x y : Operand} {k1 k2 : IntKind} {z : List Value} (ho : opu ops S i = some (⟨dst, .makeSlice T x y, ty, pos, af, g⟩, d)) (hd : Nat.blt d n = true) (hx : ev S x = some (.int k1 l)) (hy : ev S y = some (.int k2 c))
    (hT : slcO P T = some (e, es, bs)) (hz : zer P e = some z) (hzl : z.length = es) (hlc : l ≤ c) (hb : c * bs ≤ 140737488355328) (hc : c ≤ 4611686018427387903) (hm : Mem w0 w X L) (hh : Hold md w)
    (h : ∀ m w', Geq md m → Acc e es (some ⟨m, 0, none⟩) l c (repZ z l) m (.row e (repZ z c)) → Mem w0 w' X ((m, .row e (repZ z c)) :: L) → Hold md w' → HR P r k ops md n D ((d, .slice (some ⟨m, 0, none⟩) l c) :: S) t w') : HR P r k ops md n D S (.act i t) w := by
  have htk : ∀ (a b : Nat), a ≤ b → (repZ z b).take (a * z.length) = repZ z a := fun a => by
    induction a with
    | zero => intro b _; simp [repZ]
    | succ a ih =>
      intro b hab
      obtain ⟨b, rfl⟩ : ∃ b', b = b' + 1 := ⟨b - 1, by omega⟩
      simp only [repZ]
      rw [Nat.succ_mul, Nat.add_comm, List.take_append, List.take_of_length_le (by omega), Nat.add_sub_cancel_left, ih b (by omega)]
  have hacc : Acc e es (some ⟨w.heap.size, 0, none⟩) l c (repZ z l) w.heap.size (.row e (repZ z c)) := ⟨by rw [repZ_length, hzl], .inr ⟨_, rfl, rfl, hlc, by rw [repZ_length, hzl], by rw [← hzl]; exact htk l c hlc⟩⟩
  refine a_val (v := .slice (some ⟨w.heap.size, 0, none⟩) l c) (w' := w.alloc (Blk.row e (repZ z c)).toObj) ho hd rfl (fun a hf => ?_) (hh.ext (ext_alloc _ _)) (h _ _ hh.geq hacc (hm.alloc _) (hh.ext (ext_alloc _ _)))
  simp only [execOp, hf.eval hx, hf.eval hy, Sem.run_bind, run_mk hT hz hzl hlc hb hc, Result.andThen_ok, Sem.run_pure]
end
section
variable {P : Program} {md : Md} {w : World} {n : Nat} {D : List Deferred} {S : List (Nat × Value)} {dst : Option Tmp} {ty : TypeId} {pos : String} {af : Array Edge} {g : Option (Nat × Bool)}
theorem y_cap {t : TypeId} {x : Operand} {p : Option Addr} {l c : Nat} {ts : Array TypeId} {e : TypeId × Nat × Nat} (hx : ev S x = some (.slice p l c)) (hts : ts[0]? = some t) (ht : slcO P t = some e) :
    ∀ a, Fr a n D S → Yl P md w a ⟨dst, .call ⟨.builtin .cap, #[x], ts⟩, ty, pos, af, g⟩ (.int .i64 c) := fun a hf u _ => by
  obtain ⟨e1, e2, e3⟩ := e
  obtain ⟨hu, _⟩ := slcO_spec ht
  simp [execOp, resolve, hf.eval hx, invoke, builtin, Builtin.cap_, hts, run_und hu, goInt]
end
end Go.Cx

namespace Go.Pl
set_option linter.unusedVariables false
set_option linter.unusedSimpArgs false
abbrev I64 (x : Int) : Prop := -9223372036854775808 ≤ x ∧ x ≤ 9223372036854775807
/-- the greatest length -/
abbrev mx : Int := 4611686018427387903
def valid (o l : Int) : Bool := decide (0 ≤ o ∧ 0 ≤ l ∧ l ≤ 4611686018427387903 - o)
theorem valid_iff {o l : Int} : valid o l = true ↔ 0 ≤ o ∧ 0 ≤ l ∧ l ≤ 4611686018427387903 - o := by simp [valid]
theorem valid_t {o l : Int} (h : valid o l = true) : 0 ≤ o ∧ 0 ≤ l ∧ o + l ≤ 4611686018427387903 := by have := valid_iff.1 h; omega
theorem valid_mk {o l : Int} (h : 0 ≤ o ∧ 0 ≤ l ∧ o + l ≤ 4611686018427387903) : valid o l = true := valid_iff.2 (by omega)
/-- the extent from lo to hi, if it has a length that is at least least -/
def btw (lo hi least : Int) : Option (Int × Int) := if hi - lo < least then none else some (lo, hi - lo)
def overlap (a b c d : Int) : Option (Int × Int) := btw (max a c) (min (a + b) (c + d)) 1
def joined (a b c d : Int) : Option (Int × Int) := if (btw (max a c) (min (a + b) (c + d)) 0).isSome then btw (min a c) (max (a + b) (c + d)) 0 else none
def shifted (a b by_ : Int) : Option (Int × Int) := if 4611686018427387903 - a < by_ then none else if valid (a + by_) b then some (a + by_, b) else none
/-- is (c, d) within (a, b)? -/
def within (a b c d : Int) : Bool := decide (a ≤ c ∧ c + d ≤ a + b)
def idx {α : Type} (p : α → Bool) (xs : List α) : Int := match xs.findIdx? p with | some i => i | none => -1
theorem idx_nonneg {α : Type} (p : α → Bool) (xs : List α) : decide (0 ≤ idx p xs) = xs.any p := by
  unfold idx
  cases h : xs.findIdx? p with
  | none => rw [List.findIdx?_eq_none_iff] at h; simp; intro x hx; simpa using h x hx
  | some i =>
    have h' : (xs.findIdx? p).isSome = true := by rw [h]; rfl
    rw [List.findIdx?_isSome] at h'
    simp [h']
theorem idx_first {α : Type} {p : α → Bool} {xs : List α} {k : Nat} {x : α} (hx : xs[k]? = some x) (hp : p x = true) (hb : ∀ (j : Nat) (y : α), j < k → xs[j]? = some y → p y = false) : idx p xs = k := by
  unfold idx
  have : xs.findIdx? p = some k := by
    rw [List.findIdx?_eq_some_iff_getElem]
    obtain ⟨h1, h2⟩ := List.getElem?_eq_some_iff.1 hx
    exact ⟨h1, by rw [h2]; exact hp, fun j hj => by simp [hb j _ hj (List.getElem?_eq_getElem (by omega))]⟩
  rw [this]
theorem idx_none {α : Type} {p : α → Bool} {xs : List α} (hb : ∀ (j : Nat) (y : α), j < xs.length → xs[j]? = some y → p y = false) : idx p xs = -1 := by
  unfold idx
  have : xs.findIdx? p = none := by
    rw [List.findIdx?_eq_none_iff]
    intro x hx
    obtain ⟨j, hj, e⟩ := List.getElem_of_mem hx
    simpa using hb j x hj (by rw [← e]; exact List.getElem?_eq_getElem hj)
  rw [this]
/-- the sum of the lengths, or none -/
def total : Int → List (Int × Int) → Option Int
  | n, [] => some n
  | n, e :: r => if 4611686018427387903 < n + e.2 then none else total (n + e.2) r
def okE (e : Int × Int) : Prop := 0 ≤ e.1 ∧ 0 ≤ e.2 ∧ e.1 + e.2 ≤ 4611686018427387903
theorem drop_cons {α : Type} {xs : List α} {k : Nat} {x : α} (h : xs[k]? = some x) : xs.drop k = x :: xs.drop (k + 1) := by
  obtain ⟨h1, h2⟩ := List.getElem?_eq_some_iff.1 h
  rw [List.drop_eq_getElem_cons h1, h2]
def piece (o l size : Int) (i : Nat) : Int × Int := (o + i * size, min size (l - i * size))
def pieces (l size : Int) : Int := if size < 1 ∨ l = 0 ∨ 1048576 ≤ (l - 1) / size then 0 else (l - 1) / size + 1
/-- where Split stands after i pieces: the rest's offset and length -/
def rest (o l size : Int) (i : Nat) : Int × Int := (min (o + i * size) (o + l), max (l - i * size) 0)
theorem rest_zero {o l size : Int} (h : 0 ≤ l) : rest o l size 0 = (o, l) := by
  simp only [rest, Prod.mk.injEq]; constructor <;> omega
theorem rest_sum (o l size : Int) (i : Nat) : (rest o l size i).1 + (rest o l size i).2 = o + l ∧ 0 ≤ (rest o l size i).2 := by
  simp only [rest]; generalize (i : Int) * size = q; omega
theorem rest_le {o l size : Int} {i : Nat} (hs : 1 ≤ size) (h : 0 ≤ l) : o ≤ (rest o l size i).1 ∧ (rest o l size i).2 ≤ l := by
  have hq : 0 ≤ (i : Int) * size := Int.mul_nonneg (by omega) (by omega)
  simp only [rest]; revert hq; generalize (i : Int) * size = q; omega
theorem rest_lt {o l size : Int} {i : Nat} : 0 < (rest o l size i).2 ↔ (i : Int) * size < l := by
  simp only [rest]; generalize (i : Int) * size = q; omega
theorem piece_rest {o l size : Int} {i : Nat} (h : 0 < (rest o l size i).2) : piece o l size i = ((rest o l size i).1, min size (rest o l size i).2) := by
  have := rest_lt.1 h
  simp only [rest, piece, Prod.mk.injEq]; revert this; generalize (i : Int) * size = q; intro h; constructor <;> omega
theorem rest_succ {o l size : Int} {i : Nat} (hs : 1 ≤ size) (h : 0 < (rest o l size i).2) :
    rest o l size (i + 1) = ((rest o l size i).1 + min size (rest o l size i).2, (rest o l size i).2 - min size (rest o l size i).2) := by
  have := rest_lt.1 h
  have e : ((i + 1 : Nat) : Int) * size = i * size + size := by rw [Int.natCast_add, Int.add_mul]; simp
  simp only [rest, Prod.mk.injEq, e]; revert this; generalize (i : Int) * size = q; intro h; constructor <;> omega
theorem rest_idx {o l size : Int} {i : Nat} (hs : 1 ≤ size) (h : 0 < (rest o l size i).2) : (i : Int) ≤ (l - 1) / size :=
  Int.le_ediv_of_mul_le (by omega) (by have := rest_lt.1 h; omega)
theorem pieces_of {o l size : Int} {i : Nat} (hs : 1 ≤ size) (hl : 0 < l) (hb : (l - 1) / size < 1048576) (h0 : (rest o l size i).2 = 0) (hp : ∀ j, j < i → 0 < (rest o l size j).2) : (i : Int) = pieces l size := by
  have hi : i ≠ 0 := fun e => by subst e; rw [rest_zero (by omega)] at h0; simp at h0; omega
  obtain ⟨j, rfl⟩ := Nat.exists_eq_succ_of_ne_zero hi
  simp only [Nat.succ_eq_add_one] at h0 hp hi
  have h1 := rest_idx hs (hp j (Nat.lt_succ_self _))
  have h2 : ¬ ((j + 1 : Nat) : Int) * size < l := fun h => by have := (rest_lt (o := o)).2 h; omega
  have e : ((j + 1 : Nat) : Int) * size = (j + 1 : Int) * size := by simp
  have h3 : (l - 1) / size < (j + 1 : Int) := Int.ediv_lt_of_lt_mul (by omega) (by rw [e] at h2; omega)
  unfold pieces
  rw [if_neg (by omega)]
  simp only [Nat.succ_eq_add_one, Int.natCast_add, Int.natCast_one]
  omega
theorem tdiv_len {l size : Int} (hl : 0 ≤ l) : (l - 1).tdiv size = if l = 0 then (-1 : Int).tdiv size else (l - 1) / size := by
  split
  · rename_i h; subst h; rfl
  · rw [Int.tdiv_eq_ediv_of_nonneg (by omega)]
theorem alls {α : Type} {p : α → Bool} {xs : List α} (h : ∀ (j : Nat) (y : α), j < xs.length → xs[j]? = some y → p y = true) : xs.all p = true := by
  rw [List.all_eq_true]
  intro x hx
  obtain ⟨j, hj, e⟩ := List.getElem_of_mem hx
  exact h j x hj (by rw [← e]; exact List.getElem?_eq_getElem hj)
theorem notall {α : Type} {p : α → Bool} {xs : List α} {k : Nat} {x : α} (hx : xs[k]? = some x) (hp : p x = false) : xs.all p = false := by
  rw [List.all_eq_false]
  exact ⟨x, List.mem_of_getElem? hx, by simp [hp]⟩
theorem eq_of {α : Type} {xs ys : List α} (hl : xs.length = ys.length) (h : ∀ (j : Nat), j < xs.length → xs[j]? = ys[j]?) : xs = ys := by
  apply List.ext_getElem?
  intro j
  by_cases hj : j < xs.length
  · exact h j hj
  · rw [List.getElem?_eq_none (by omega), List.getElem?_eq_none (by omega)]
theorem overlap_comm (a b c e : Int) : overlap c e a b = overlap a b c e := by
  simp only [overlap, Int.max_comm c a, Int.min_comm (c + e) (a + b)]
theorem overlap_some {a b c e x y : Int} (h : overlap a b c e = some (x, y)) : x = max a c ∧ y = min (a + b) (c + e) - max a c ∧ 1 ≤ y := by
  simp only [overlap, btw] at h
  split at h
  · cases h
  · simp only [Option.some.injEq, Prod.mk.injEq] at h; omega
theorem joined_isSome {a b c e : Int} (h1 : 0 ≤ b) (h2 : 0 ≤ e) : (joined a b c e).isSome = (decide (a ≤ c + e) && decide (c ≤ a + b)) := by
  rw [← Bool.decide_and]
  by_cases h : min (a + b) (c + e) - max a c < 0
  · have h3 : ¬ (a ≤ c + e ∧ c ≤ a + b) := by omega
    have e1 : btw (max a c) (min (a + b) (c + e)) 0 = none := by simp [btw, h]
    rw [joined, e1, decide_eq_false h3]; rfl
  · have h3 : a ≤ c + e ∧ c ≤ a + b := by omega
    have e1 : (btw (max a c) (min (a + b) (c + e)) 0).isSome = true := by simp [btw, h]
    have e2 : (btw (min a c) (max (a + b) (c + e)) 0).isSome = true := by
      have : ¬ max (a + b) (c + e) - min a c < 0 := by omega
      simp [btw, this]
    rw [joined, if_pos e1, e2, decide_eq_true h3]
theorem joined_some {a b c e x y : Int} (h : joined a b c e = some (x, y)) : x = min a c ∧ y = max (a + b) (c + e) - min a c := by
  simp only [joined] at h
  split at h
  · simp only [btw] at h
    split at h
    · cases h
    · simp only [Option.some.injEq, Prod.mk.injEq] at h; omega
  · cases h
theorem shifted_isSome {a b c : Int} (h : 0 ≤ a ∧ 0 ≤ b ∧ a + b ≤ 4611686018427387903) : (shifted a b c).isSome = ((decide (c ≥ 0) && decide (c ≤ 4611686018427387903 - a - b)) || (decide (c < 0) && decide (c ≥ -a))) := by
  simp only [shifted]
  split
  · rename_i h1
    rw [Bool.eq_iff_iff]; simp; omega
  · split
    · rename_i h1 h2
      have := valid_t h2
      rw [Bool.eq_iff_iff]; simp; omega
    · rename_i h1 h2
      have : ¬ (0 ≤ a + c ∧ 0 ≤ b ∧ a + c + b ≤ 4611686018427387903) := fun h => h2 (valid_mk h)
      rw [Bool.eq_iff_iff]; simp; omega
theorem shifted_some {a b c x y : Int} (h : shifted a b c = some (x, y)) : x = a + c ∧ y = b ∧ 0 ≤ a + c ∧ 0 ≤ b ∧ a + c + b ≤ 4611686018427387903 := by
  simp only [shifted] at h
  split at h
  · cases h
  · split at h
    · rename_i h2
      have := valid_t h2
      simp only [Option.some.injEq, Prod.mk.injEq] at h; omega
    · cases h
theorem shifted_mk {a b c : Int} (h1 : 0 ≤ a ∧ 0 ≤ b ∧ a + b ≤ 4611686018427387903) (h : 0 ≤ a + c ∧ a + c + b ≤ 4611686018427387903) : shifted a b c = some (a + c, b) := by
  simp only [shifted]
  rw [if_neg (by omega), if_pos (valid_mk (by omega))]
theorem pieces_pos {b c : Int} {k : Nat} (hb : 0 ≤ b) (h : (k : Int) < pieces b c) : 1 ≤ c ∧ 0 < b ∧ (k : Int) * c < b ∧ 0 ≤ (k : Int) * c := by
  unfold pieces at h
  split at h
  · omega
  · rename_i hn
    have h1 : (k : Int) ≤ (b - 1) / c := by omega
    have h2 := Int.mul_le_of_le_ediv (by omega) h1
    have h3 : 0 ≤ (k : Int) * c := Int.mul_nonneg (by omega) (by omega)
    exact ⟨by omega, by omega, by omega, h3⟩
theorem rest_end {a b c : Int} {n : Nat} (hb : 0 ≤ b) (h : (n : Int) = pieces b c) : (rest a b c n).1 - a = if n = 0 then 0 else b := by
  split
  · rename_i h0; subst h0; rw [rest_zero hb]; omega
  · unfold pieces at h
    split at h
    · omega
    · have h1 := Int.lt_ediv_add_one_mul_self (b - 1) (show 0 < c by omega)
      rw [← h] at h1
      simp only [rest]
      revert h1
      generalize (n : Int) * c = q
      omega
theorem total_pieces {a b c : Int} {n : Nat} (h0 : 0 ≤ a ∧ 0 ≤ b ∧ a + b ≤ 4611686018427387903) (h : (n : Int) = pieces b c) : total 0 ((List.range n).map (piece a b c)) = some (if n = 0 then 0 else b) := by
  have hgo : ∀ (m k : Nat), k + m = n → total ((rest a b c k).1 - a) ((List.range' k m).map (piece a b c)) = some ((rest a b c n).1 - a) := fun m => by
    induction m with
    | zero => intro k hk; simp only [Nat.add_zero] at hk; subst hk; simp [total]
    | succ m ih =>
      intro k hk
      obtain ⟨h1, h2, h3, h4⟩ := pieces_pos h0.2.1 (show (k : Int) < pieces b c by omega)
      have h5 := (rest_lt (o := a)).2 h3
      have h6 := piece_rest h5
      have h7 := rest_succ h1 h5
      have h8 := rest_sum a b c k
      have h9 := rest_le (o := a) (i := k) h1 h0.2.1
      have h10 := ih (k + 1) (by omega)
      rw [h7] at h10
      simp only at h10
      rw [List.range'_succ, List.map_cons, total, h6]
      simp only
      rw [if_neg (by omega), ← h10]
      congr 1
      omega
  have := hgo n 0 (by omega)
  rw [rest_zero h0.2.1, rest_end h0.2.1 h, ← List.range_eq_range'] at this
  simpa using this
theorem pieces_ok {a b c : Int} {n : Nat} (h0 : 0 ≤ a ∧ 0 ≤ b ∧ a + b ≤ 4611686018427387903) (h : (n : Int) = pieces b c) : ∀ x ∈ (List.range n).map (piece a b c), a ≤ x.1 ∧ 1 ≤ x.2 ∧ x.1 + x.2 ≤ a + b := by
  intro x hx
  obtain ⟨k, hk, rfl⟩ := List.mem_map.1 hx
  obtain ⟨h1, h2, h3, h4⟩ := pieces_pos h0.2.1 (show (k : Int) < pieces b c by have := List.mem_range.1 hk; omega)
  have h5 := (rest_lt (o := a)).2 h3
  have h8 := rest_sum a b c k
  have h9 := rest_le (o := a) (i := k) h1 h0.2.1
  rw [piece_rest h5]
  simp only
  omega
theorem split_end {a b c : Int} {k : Nat} (hb : 0 ≤ b) (h : (k : Int) = pieces b c) :
    ((decide ((k : Int) = 0) && decide ((if k = 0 then 0 else b) = 0)) || ((decide ((k : Int) > 0) && decide ((if k = 0 then 0 else b) = b)) && decide ((rest a b c k).1 = a + b))) = true := by
  have := rest_end (a := a) hb h
  rcases Nat.eq_zero_or_pos k with h1 | h1
  · subst h1; simp
  · have h2 : k ≠ 0 := by omega
    rw [if_neg h2] at this
    simp [h2]
    omega
theorem pieces_le (b c : Int) : pieces b c ≤ 1048576 := by
  unfold pieces
  split <;> omega
end Go.Pl

namespace Go.Pl
set_option linter.unusedVariables false
set_option linter.unusedSimpArgs false
theorem div_bnd {x s : Int} (h : 0 ≤ x) (hs : 1 ≤ s) : 0 ≤ x / s ∧ x / s ≤ x := ⟨Int.ediv_nonneg h (by omega), Int.ediv_le_self s h⟩
theorem div_mono {x y s : Int} (h : x ≤ y) (hs : 1 ≤ s) : x / s ≤ y / s := Int.ediv_le_ediv (by omega) h
/-- the sectors of a slot for a record of at most b bytes -/
def slot (s b : Int) : Int := if s < 1 ∨ b < 1 ∨ b > 65536 then 0 else (b + 43) / s + 1
theorem slot_bnd (s b : Int) : 0 ≤ slot s b ∧ slot s b ≤ 65580 := by
  unfold slot
  split
  · omega
  · have := div_bnd (x := b + 43) (s := s) (by omega) (by omega); omega
theorem slot_zero (s b : Int) : slot s b = 0 ↔ s < 1 ∨ b < 1 ∨ b > 65536 := by
  unfold slot
  split
  · rename_i h; simp [h]
  · have := div_bnd (x := b + 43) (s := s) (by omega) (by omega)
    rename_i h
    constructor
    · omega
    · intro h'; exact absurd h' h
/-- the record's size -/
def rsize (b : Int) : Int := if b < 0 ∨ b > 1048576 then 0 else 40 + b + 4
theorem ceil_eq {n s : Int} (hn : 1 ≤ n) (hs : 1 ≤ s) : (n - 1) / s + 1 = if n.tmod s = 0 then n / s else n / s + 1 := by
  rw [Int.tmod_eq_emod_of_nonneg (by omega)]
  have h1 := Int.emod_add_mul_ediv n s
  have h2 := Int.emod_nonneg n (show s ≠ 0 by omega)
  have h3 := Int.emod_lt_of_pos n (show 0 < s by omega)
  split
  · rename_i h0
    have : (n - 1) / s = n / s - 1 := by
      apply Int.le_antisymm
      · have : (n - 1) / s < n / s := Int.ediv_lt_of_lt_mul (by omega) (by rw [Int.mul_comm]; omega)
        omega
      · refine Int.le_ediv_of_mul_le (by omega) ?_
        have : (n / s - 1) * s = s * (n / s) - s := by rw [Int.sub_mul, Int.mul_comm]; omega
        omega
    omega
  · rename_i h0
    have : (n - 1) / s = n / s := by
      apply Int.le_antisymm
      · exact Int.ediv_le_ediv (by omega) (by omega)
      · exact Int.le_ediv_of_mul_le (by omega) (by rw [Int.mul_comm]; omega)
    omega
/-- the sectors that have bytes of an extent -/
def secs (s a b : Int) : Int × Int := if s < 1 ∨ valid a b = false ∨ b = 0 then (0, 0) else (a / s, (a + b - 1) / s - a / s + 1)
theorem secs_bnd (s a b : Int) : 0 ≤ (secs s a b).2 ∧ (secs s a b).2 ≤ 4611686018427387904 ∧ 0 ≤ (secs s a b).1 ∧ (secs s a b).1 ≤ 4611686018427387904 := by
  unfold secs
  split
  · simp
  · rename_i h
    have hv : valid a b = true := by
      cases hh : valid a b with
      | true => rfl
      | false => simp [hh] at h
    have := valid_t hv
    have h1 := div_bnd (x := a) (s := s) (by omega) (by omega)
    have h2 := div_bnd (x := a + b - 1) (s := s) (by omega) (by omega)
    have h3 := div_mono (x := a) (y := a + b - 1) (s := s) (by omega) (by omega)
    simp only
    omega
def okLen (x : Int) : Bool := valid 0 x
theorem okLen_iff {x : Int} : okLen x = true ↔ 0 ≤ x ∧ x ≤ 4611686018427387903 := by simp only [okLen, valid_iff]; omega
/-- the error of a layout for these sizes -/
def layE (s b o n : Int) : Int := if slot s b = 0 then 20 else if okLen o = false ∨ okLen n = false then 2 else 0
def lz (e x : Int) : Int := if e = 0 then x else 0
def layF (s o n : Int) : Int := (secs s 0 (max o n)).2
end Go.Pl
