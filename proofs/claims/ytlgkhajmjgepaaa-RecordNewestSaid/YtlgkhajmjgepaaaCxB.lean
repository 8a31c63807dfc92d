/- The program logic of these proofs, part B: frames as lists of slots, own memory as a list of blocks, one lemma for each kind of operation. No condition. -/
import Derived.Test.YtlgkhajmjgepaaaCxA
import Derived.Laws.Sem
import Derived.Laws.World
import Derived.Laws.Tables
import Derived.Laws.Cells
namespace Go.Cx
set_option linter.unusedVariables false
set_option linter.unusedSimpArgs false
open Go

/-! ### Frames -/
def look : List (Nat × Value) → Nat → Option Value
  | [], _ => none
  | (k, v) :: r, i => bif Nat.beq k i then some v else look r i

def ev (S : List (Nat × Value)) : Operand → Option Value
  | .tmp t => look S t
  | .const v => some v
  | .global g => some (.pointer (some ⟨g, 0, none⟩))
  | .func f => some (.func (.func f) #[] #[])

def evs (S : List (Nat × Value)) : List Operand → Option (List Value)
  | [] => some []
  | x :: r => match ev S x with
    | none => none
    | some v => match evs S r with
      | none => none
      | some vs => some (v :: vs)

structure Fr (a : Act) (n : Nat) (D : List Deferred) (S : List (Nat × Value)) : Prop where
  size : a.tmps.size = n
  defers : a.defers = D
  get : ∀ i v, look S i = some v → a.tmps[i]? = some v

section
variable {a : Act} {n : Nat} {D : List Deferred} {S : List (Nat × Value)}

theorem Fr.eval (h : Fr a n D S) {x : Operand} {v : Value} (hx : ev S x = some v) : a.eval x = v := by
  cases x with
  | tmp t => have := h.get t v hx; simp [Act.eval, Array.getD_eq_getD_getElem?, this]
  | const c => exact Option.some.inj hx
  | global g => exact Option.some.inj hx
  | func f => exact Option.some.inj hx

theorem Fr.evals (h : Fr a n D S) {xs : List Operand} {vs : List Value} (hx : evs S xs = some vs) : xs.map a.eval = vs := by
  induction xs generalizing vs with
  | nil => simpa [evs] using hx
  | cons x r ih =>
    simp only [evs] at hx
    split at hx
    · cases hx
    · rename_i v hv
      split at hx
      · cases hx
      · rename_i vs' hvs
        cases hx
        simp [h.eval hv, ih hvs]

theorem Fr.put (h : Fr a n D S) {d : Nat} (v : Value) (hd : Nat.blt d n = true) : Fr (a.put (some d) v) n D ((d, v) :: S) := by
  have hd' : d < n := by simpa using hd
  refine ⟨by simp [Act.put, h.size], h.defers, fun i u hi => ?_⟩
  simp only [look] at hi
  by_cases e : Nat.beq d i = true
  · simp only [e, cond_true, Option.some.injEq] at hi
    have : d = i := by simpa using e
    subst this
    simp [Act.put, h.size, hd', hi]
  · have e' : Nat.beq d i = false := Bool.eq_false_iff.2 e
    simp only [e', cond_false] at hi
    have hne : d ≠ i := fun hh => by subst hh; simp at e'
    simp [Act.put, Array.getElem?_setIfInBounds_ne hne, h.get i u hi]

theorem Fr.nop (h : Fr a n D S) (v : Value) : Fr (a.put none v) n D S := h

def slots : Nat → List Value → List (Nat × Value)
  | _, [] => []
  | i, v :: r => (i, v) :: slots (i + 1) r

theorem look_slots : ∀ (l : List Value) (i j : Nat) (v : Value), look (slots i l) j = some v → i ≤ j ∧ l[j - i]? = some v
  | [], _, _, _, h => by simp [slots, look] at h
  | u :: r, i, j, v, h => by
    simp only [slots, look] at h
    by_cases e : Nat.beq i j = true
    · have : i = j := by simpa using e
      subst this
      simp at h
      simp [h]
    · have e' : Nat.beq i j = false := Bool.eq_false_iff.2 e
      simp only [e', cond_false] at h
      obtain ⟨h1, h2⟩ := look_slots r (i + 1) j v h
      refine ⟨by omega, ?_⟩
      rw [show j - i = (j - (i + 1)) + 1 by omega]
      simpa using h2

theorem Fr.init (l : List Value) (n : Nat) (hn : l.length ≤ n) : Fr { tmps := l.toArray ++ Array.replicate (n - l.toArray.size) undef, defers := [] } n [] (slots 0 l) := by
  refine ⟨by simp; omega, rfl, fun i v h => ?_⟩
  obtain ⟨_, h2⟩ := look_slots l 0 i v h
  rw [Nat.sub_zero] at h2
  have hlt : i < l.length := (List.getElem?_eq_some_iff.1 h2).1
  simpa [Array.getElem?_append, hlt] using (List.getElem?_eq_some_iff.1 h2).2

theorem Fr.sub (h : Fr a n D S) {T : List (Nat × Value)} (hT : ∀ i v, look T i = some v → look S i = some v) : Fr a n D T :=
  ⟨h.size, h.defers, fun i v hi => h.get i v (hT i v hi)⟩
end

/-! ### Own memory -/
/-- A block: a row of cells; another object; or none yet (the place of a slice that has no block). -/
inductive Blk where
  | row (t : TypeId) (l : List Value)
  | obj (o : Obj)
  | gap

def Blk.toObj : Blk → Obj
  | .row t l => .cells ⟨l⟩ t (0, 0)
  | .obj o => o
  | .gap => .deferred none
def Blk.real : Blk → Bool
  | .gap => false
  | _ => true

def nth : List Value → Nat → Option Value
  | [], _ => none
  | v :: _, 0 => some v
  | _ :: r, n + 1 => nth r n

def upd : List Value → Nat → Value → List Value
  | [], _, _ => []
  | _ :: r, 0, u => u :: r
  | v :: r, n + 1, u => v :: upd r n u

def nths (l : List Value) (o : Nat) : Nat → Option (List Value)
  | 0 => some []
  | m + 1 => match nth l o with
    | none => none
    | some v => match nths l (o + 1) m with
      | none => none
      | some r => some (v :: r)

def upds (l : List Value) (o : Nat) : List Value → List Value
  | [] => l
  | u :: r => upds (upd l o u) (o + 1) r

def blk : List (Nat × Blk) → Nat → Option (Nat × Blk)
  | [], _ => none
  | b :: _, 0 => some b
  | _ :: r, k + 1 => blk r k

def setB : List (Nat × Blk) → Nat → Blk → List (Nat × Blk)
  | [], _, _ => []
  | (n, _) :: r, 0, x => (n, x) :: r
  | b :: r, k + 1, x => b :: setB r k x

/-- the k-th entry is now q -/
def setE : List (Nat × Blk) → Nat → Nat × Blk → List (Nat × Blk)
  | [], _, _ => []
  | _ :: r, 0, q => q :: r
  | b :: r, k + 1, q => b :: setE r k q
/-- the blocks that are there -/
def reals (L : List (Nat × Blk)) : List Nat := (L.filter (·.2.real)).map (·.1)

theorem nth_eq : ∀ (l : List Value) (i : Nat), nth l i = l[i]?
  | [], _ => by simp [nth]
  | v :: r, 0 => by simp [nth]
  | v :: r, i + 1 => by simp [nth, nth_eq r i]
theorem upd_eq : ∀ (l : List Value) (i : Nat) (u : Value), upd l i u = l.set i u
  | [], _, _ => by simp [upd]
  | v :: r, 0, u => by simp [upd]
  | v :: r, i + 1, u => by simp [upd, upd_eq r i u]
theorem upds_length : ∀ (us l : List Value) (o : Nat), (upds l o us).length = l.length
  | [], _, _ => rfl
  | u :: r, l, o => by simp [upds, upds_length r, upd_eq]
theorem blk_eq : ∀ (L : List (Nat × Blk)) (k : Nat), blk L k = L[k]?
  | [], _ => by simp [blk]
  | v :: r, 0 => by simp [blk]
  | v :: r, i + 1 => by simp [blk, blk_eq r i]
theorem setB_fst : ∀ (L : List (Nat × Blk)) (k : Nat) (x : Blk), (setB L k x).map (·.1) = L.map (·.1)
  | [], _, _ => rfl
  | (n, b) :: r, 0, x => rfl
  | (n, b) :: r, k + 1, x => by simp [setB, setB_fst r k x]

theorem reals_cons (q : Nat × Blk) (L : List (Nat × Blk)) : reals (q :: L) = if q.2.real = true then q.1 :: reals L else reals L := by
  unfold reals
  by_cases h : q.2.real = true <;> simp [h]
theorem mem_reals {n : Nat} {L : List (Nat × Blk)} : n ∈ reals L ↔ ∃ b, (n, b) ∈ L ∧ b.real = true := by
  simp only [reals, List.mem_map, List.mem_filter]
  constructor
  · rintro ⟨⟨m, b⟩, ⟨h1, h2⟩, rfl⟩; exact ⟨b, h1, h2⟩
  · rintro ⟨b, h1, h2⟩; exact ⟨(n, b), ⟨h1, h2⟩, rfl⟩
theorem reals_setB : ∀ (L : List (Nat × Blk)) (k n : Nat) (b x : Blk), blk L k = some (n, b) → b.real = x.real → reals (setB L k x) = reals L
  | [], _, _, _, _, h, _ => by simp [blk] at h
  | (m, c) :: r, 0, n, b, x, h, hb => by
    simp only [blk, Option.some.injEq, Prod.mk.injEq] at h
    obtain ⟨rfl, rfl⟩ := h
    simp only [setB, reals_cons, hb]
  | (m, c) :: r, k + 1, n, b, x, h, hb => by
    simp only [blk] at h
    simp only [setB, reals_cons, reals_setB r k n b x h hb]

/-- Since w0 (the world in which the call began) only the blocks of X (handed over by the caller) and new ones have turned; the blocks of L are the call's own now. -/
structure Mem (w0 w : World) (X : Bs) (L : List (Nat × Blk)) : Prop where
  os : w.os = w0.os
  tape : w.tape = w0.tape
  output : w.output = w0.output
  size : w0.heap.size ≤ w.heap.size
  same : ∀ k, k < w0.heap.size → ¬ X k → w.heap[k]? = w0.heap[k]?
  own : ∀ p, p ∈ L → p.2.real = true → w.heap[p.1]? = some p.2.toObj
  fresh : ∀ p, p ∈ L → p.2.real = true → X p.1 ∨ w0.heap.size ≤ p.1
  nodup : (reals L).Nodup

section
variable {w0 w w' : World} {X : Bs} {L : List (Nat × Blk)}

theorem Mem.start (w : World) : Mem w w No [] := ⟨rfl, rfl, rfl, Nat.le_refl _, fun _ _ _ => rfl, by simp, by simp, by simp [reals]⟩

theorem Mem.to (h : Mem w0 w X L) : Ext X w0 w := ⟨h.os, h.tape, h.output, h.size, h.same⟩

theorem blk_mem {k n : Nat} {b : Blk} (hk : blk L k = some (n, b)) : (n, b) ∈ L := List.mem_of_getElem? ((blk_eq L k).symm.trans hk)
theorem Mem.getR (h : Mem w0 w X L) {k : Nat} {n : Nat} {b : Blk} (hk : blk L k = some (n, b)) (hr : b.real = true) : w.heap[n]? = some b.toObj := h.own (n, b) (blk_mem hk) hr
theorem Mem.get (h : Mem w0 w X L) {k : Nat} {n : Nat} {b : Blk} (hk : blk L k = some (n, b)) (hr : b.real = true := by rfl) : w.heap[n]? = some b.toObj := h.getR hk hr

theorem Mem.lt (h : Mem w0 w X L) {p : Nat × Blk} (hp : p ∈ L) (hr : p.2.real = true := by rfl) : p.1 < w.heap.size := (Array.getElem?_eq_some_iff.1 (h.own p hp hr)).1

theorem Mem.ext (h : Mem w0 w X L) (hx : Ext No w w') : Mem w0 w' X L :=
  ⟨hx.os.trans h.os, hx.tape.trans h.tape, hx.output.trans h.output, Nat.le_trans h.size hx.size,
    fun k hk hX => (hx.same k (Nat.lt_of_lt_of_le hk h.size) id).trans (h.same k hk hX),
    fun p hp hr => (hx.same p.1 (h.lt hp hr) id).trans (h.own p hp hr), h.fresh, h.nodup⟩

theorem Mem.alloc (h : Mem w0 w X L) (b : Blk) : Mem w0 (w.alloc b.toObj) X ((w.heap.size, b) :: L) := by
  have ho : ∀ k, k < w.heap.size → (w.alloc b.toObj).heap[k]? = w.heap[k]? := fun k hk => by
    show (w.heap.push _)[k]? = _
    rw [Array.getElem?_push, if_neg (by omega)]
  refine ⟨h.os, h.tape, h.output, by have := h.size; simp; omega, fun k hk hX => (ho k (Nat.lt_of_lt_of_le hk h.size)).trans (h.same k hk hX), fun p hp hr => ?_, fun p hp hr => ?_, ?_⟩
  · rcases List.mem_cons.1 hp with rfl | hp
    · show (w.heap.push _)[w.heap.size]? = _
      simp
    · exact (ho _ (h.lt hp hr)).trans (h.own p hp hr)
  · rcases List.mem_cons.1 hp with rfl | hp
    · exact .inr h.size
    · exact h.fresh p hp hr
  · rw [reals_cons]
    split
    · rw [List.nodup_cons]
      refine ⟨fun hm => ?_, h.nodup⟩
      obtain ⟨c, hc, hr⟩ := mem_reals.1 hm
      have := h.lt hc hr
      simp only at this
      omega
    · exact h.nodup
/-- a place for a slice that has no block yet -/
theorem Mem.gapIn (h : Mem w0 w X L) : Mem w0 w X ((0, .gap) :: L) :=
  ⟨h.os, h.tape, h.output, h.size, h.same, fun p hp hr => (List.mem_cons.1 hp).elim (fun e => by subst e; cases hr) fun hp => h.own p hp hr, fun p hp hr => (List.mem_cons.1 hp).elim (fun e => by subst e; cases hr) fun hp => h.fresh p hp hr,
    by rw [reals_cons]; exact h.nodup⟩

theorem Mem.ofEq (h : Mem w0 w X L) (he : w'.heap = w.heap) (ho : w'.os = w.os) (ht : w'.tape = w.tape) (hp : w'.output = w.output) : Mem w0 w' X L :=
  ⟨ho.trans h.os, ht.trans h.tape, hp.trans h.output, by rw [he]; exact h.size, fun k hk hX => by rw [he]; exact h.same k hk hX, fun p hp hr => by rw [he]; exact h.own p hp hr, h.fresh, h.nodup⟩

theorem setB_mem : ∀ (L : List (Nat × Blk)) (k n : Nat) (b x : Blk), blk L k = some (n, b) → b.real = true → (reals L).Nodup → ∀ p, p ∈ setB L k x → p = (n, x) ∨ (p ∈ L ∧ (p.2.real = true → p.1 ≠ n))
  | [], _, _, _, _, h, _, _, _, _ => by simp [blk] at h
  | (m, c) :: r, 0, n, b, x, h, hb, hn, p, hp => by
    simp only [blk, Option.some.injEq, Prod.mk.injEq] at h
    obtain ⟨rfl, rfl⟩ := h
    simp only [setB, List.mem_cons] at hp
    rcases hp with rfl | hp
    · exact .inl rfl
    · refine .inr ⟨by simp [hp], fun hr e => ?_⟩
      rw [reals_cons, if_pos hb, List.nodup_cons] at hn
      exact hn.1 (mem_reals.2 ⟨p.2, by rw [← e]; exact hp, hr⟩)
  | (m, c) :: r, k + 1, n, b, x, h, hb, hn, p, hp => by
    simp only [blk] at h
    simp only [setB, List.mem_cons] at hp
    have hn' : (reals r).Nodup := by
      rw [reals_cons] at hn
      split at hn
      · exact (List.nodup_cons.1 hn).2
      · exact hn
    rcases hp with rfl | hp
    · refine .inr ⟨by simp, fun hr e => ?_⟩
      rw [reals_cons, if_pos hr, List.nodup_cons] at hn
      exact hn.1 (mem_reals.2 ⟨b, by have e' : m = n := e; rw [e']; exact blk_mem h, hb⟩)
    · rcases setB_mem r k n b x h hb hn' p hp with h1 | ⟨h1, h2⟩
      · exact .inl h1
      · exact .inr ⟨by simp [h1], h2⟩

/-- Block k of the own ones is now x; nothing else has turned. -/
theorem Mem.set (h : Mem w0 w X L) {k n : Nat} {b : Blk} (hk : blk L k = some (n, b)) (x : Blk) (ho : w'.os = w.os) (ht : w'.tape = w.tape) (hu : w'.output = w.output) (hs : w'.heap.size = w.heap.size)
    (hn : w'.heap[n]? = some x.toObj) (hr : ∀ j, j ≠ n → w'.heap[j]? = w.heap[j]?) (hb : b.real = true := by rfl) (hx : x.real = true := by rfl) : Mem w0 w' X (setB L k x) := by
  have hin := blk_mem hk
  refine ⟨ho.trans h.os, ht.trans h.tape, hu.trans h.output, by rw [hs]; exact h.size, fun j hj hX => ?_, fun p hp hpr => ?_, fun p hp hpr => ?_, by rw [reals_setB L k n b x hk (hb.trans hx.symm)]; exact h.nodup⟩
  · rw [hr j fun e => ?_]
    · exact h.same j hj hX
    · rcases h.fresh _ hin hb with h1 | h1
      · exact hX (e ▸ h1)
      · have e' : j = n := e; simp only at h1; omega
  · rcases setB_mem L k n b x hk hb h.nodup p hp with rfl | ⟨h1, h2⟩
    · exact hn
    · rw [hr _ (h2 hpr)]; exact h.own p h1 hpr
  · rcases setB_mem L k n b x hk hb h.nodup p hp with rfl | ⟨h1, _⟩
    · exact h.fresh (n, b) hin hb
    · exact h.fresh p h1 hpr
end

/-- An own block in every world near. -/
theorem Mem.nt {w0 w : World} {X : Bs} {L : List (Nat × Blk)} (h : Mem w0 w X L) (j : Nat) {m : Nat} {b : Blk} (hk : blk L j = some (m, b)) (hr : b.real = true := by rfl) : ∀ u, Near none w u → u.heap[m]? = some b.toObj := fun u hu => by cases hu; exact h.getR hk hr
theorem Mem.nd {w0 w b : World} {X Y : Bs} {L : List (Nat × Blk)} (h : Mem w0 b X L) (j : Nat) {m : Nat} {x : Blk} (hk : blk L j = some (m, x)) (hY : ¬ Y m) (hr : x.real = true := by rfl) : ∀ u, Near (some (b, Y)) w u → u.heap[m]? = some x.toObj := fun _ hu =>
  (Ext.same hu m (h.lt (p := (m, x)) (blk_mem hk) hr) hY).trans (h.getR hk hr)
theorem reals_ne : ∀ (L : List (Nat × Blk)) (i j m n : Nat) (b c : Blk), (reals L).Nodup → blk L i = some (m, b) → blk L j = some (n, c) → b.real = true → c.real = true → i < j → m ≠ n
  | [], _, _, _, _, _, _, _, h, _, _, _, _ => by simp [blk] at h
  | (q, d) :: r, 0, j + 1, m, n, b, c, hn, hi, hj, hb, hc, _ => by
    simp only [blk, Option.some.injEq, Prod.mk.injEq] at hi hj
    obtain ⟨rfl, rfl⟩ := hi
    rw [reals_cons, if_pos hb, List.nodup_cons] at hn
    intro e
    exact hn.1 (mem_reals.2 ⟨c, by rw [e]; exact blk_mem hj, hc⟩)
  | (q, d) :: r, i + 1, j + 1, m, n, b, c, hn, hi, hj, hb, hc, hlt => by
    simp only [blk] at hi hj
    have hn' : (reals r).Nodup := by
      rw [reals_cons] at hn
      split at hn
      · exact (List.nodup_cons.1 hn).2
      · exact hn
    exact reals_ne r i j m n b c hn' hi hj hb hc (by omega)
  | _ :: _, _, 0, _, _, _, _, _, _, _, _, _, h => by omega
theorem Mem.ne {w0 w : World} {X : Bs} {L : List (Nat × Blk)} (h : Mem w0 w X L) (i j : Nat) {m n : Nat} {b c : Blk} (hi : blk L i = some (m, b)) (hj : blk L j = some (n, c)) (hij : Nat.beq i j = false) (hb : b.real = true := by rfl) (hc : c.real = true := by rfl) : m ≠ n := by
  rcases Nat.lt_or_ge i j with hlt | hge
  · exact reals_ne L i j m n b c h.nodup hi hj hb hc hlt
  · exact fun e => reals_ne L j i n m c b h.nodup hj hi hc hb (by
      rcases Nat.lt_or_eq_of_le hge with h1 | h1
      · exact h1
      · subst h1; simp at hij) e.symm

/-! ### Triples over frames -/
def HR (P : Program) (r : Option Nat) (k : Ks) (ops : Array Oper) (md : Md) (n : Nat) (D : List Deferred) (S : List (Nat × Value)) (t : Tr) (w : World) : Prop :=
  ∀ a, Fr a n D S → RW P r k ops md t a w
def HW (P : Program) (r : Option Nat) (c : Code) (k : Ks) (n : Nat) (D : List Deferred) (S : List (Nat × Value)) (w : World) : Prop :=
  ∀ a, Fr a n D S → W P r c k a w

/-! ### Where code goes on -/
def Ks.sq (k : Ks) (P : Program) (r : Option Nat) (c : Code) : Ks := { k with norm := fun a w => W P r c k a w }
def Ks.bl (k : Ks) (i : Nat) : Ks := { k with ex := fun j a w => if j = i then k.norm a w else k.ex j a w }
def Ks.lp {ι : Type} (k : Ks) (Sx : ι → List (Nat × Value)) (M : ι → World → Prop) (μ : ι → Nat) (x : ι) (n : Nat) (D : List Deferred) : Ks := { k with norm := fun a w => ∃ y, μ y < μ x ∧ M y w ∧ Fr a n D (Sx y) }
/-- from these slots in this world: on to K -/
def GoD (K : Act → World → Prop) (n : Nat) (D : List Deferred) (S : List (Nat × Value)) (w : World) : Prop := ∀ a, Fr a n D S → K a w
def GN (k : Ks) (n : Nat) (D : List Deferred) (S : List (Nat × Value)) (w : World) : Prop := ∀ a, Fr a n D S → k.norm a w
def GR (k : Ks) (n : Nat) (D : List Deferred) (S : List (Nat × Value)) (w : World) : Prop := ∀ a, Fr a n D S → k.ret a w
def GX (k : Ks) (i : Nat) (n : Nat) (D : List Deferred) (S : List (Nat × Value)) (w : World) : Prop := ∀ a, Fr a n D S → k.ex i a w
section
variable {P : Program} {r : Option Nat} {k : Ks} {c : Code} {n : Nat} {D : List Deferred} {S : List (Nat × Value)} {w : World} {i j : Nat}
theorem toN (h : GoD k.norm n D S w) : GN k n D S w := h
theorem toR (h : GoD k.ret n D S w) : GR k n D S w := h
theorem gn_sq (h : HW P r c k n D S w) : GN (k.sq P r c) n D S w := h
theorem gn_bl (h : GN k n D S w) : GN (k.bl i) n D S w := h
theorem gr_sq (h : GR k n D S w) : GR (k.sq P r c) n D S w := h
theorem gr_bl (h : GR k n D S w) : GR (k.bl i) n D S w := h
theorem gx_sq (h : GX k i n D S w) : GX (k.sq P r c) i n D S w := h
theorem gx_here (h : GN k n D S w) : GX (k.bl i) i n D S w := fun a hf => by
  show (if i = i then k.norm a w else k.ex i a w)
  rw [if_pos rfl]; exact h a hf
theorem gx_up (hne : i ≠ j) (h : GX k i n D S w) : GX (k.bl j) i n D S w := fun a hf => by
  show (if i = j then k.norm a w else k.ex i a w)
  rw [if_neg hne]; exact h a hf
variable {ι : Type} {Sx : ι → List (Nat × Value)} {M : ι → World → Prop} {μ : ι → Nat} {x : ι} {m : Nat} {D' : List Deferred}
theorem gr_lp (h : GR k n D S w) : GR (k.lp Sx M μ x m D') n D S w := h
theorem gx_lp (h : GX k i n D S w) : GX (k.lp Sx M μ x m D') i n D S w := h
end

/-- is operation o wanted, its guard's slot (if any) being in S? -/
def met (ops : Array Oper) (S : List (Nat × Value)) : Option (Nat × Bool) → Bool
  | none => true
  | some (g, b) => match ops[g]? with
    | some og => match og.dst with
      | some gd => match look S gd with | some (.bool c) => (match c, b with | true, true => true | false, false => true | _, _ => false) | _ => false
      | none => false
    | none => false
/-- Operation number i, unguarded or its guard as wanted, with its slot. -/
def opu (ops : Array Oper) (S : List (Nat × Value)) (i : Nat) : Option (Oper × Nat) :=
  match ops[i]? with
  | some o => match met ops S o.guard, o.dst with | true, some d => some (o, d) | _, _ => none
  | none => none
/-- .. without a slot -/
def opn (ops : Array Oper) (S : List (Nat × Value)) (i : Nat) : Option Oper :=
  match ops[i]? with
  | some o => match met ops S o.guard, o.dst with | true, none => some o | _, _ => none
  | none => none
/-- Operation number i, guarded: the slot of its guard and what is wanted there; its slot. -/
def opg (ops : Array Oper) (i : Nat) : Option (Oper × Nat × Nat × Bool) :=
  match ops[i]? with
  | some o => match o.guard, o.dst with
    | some (g, b), some d => match ops[g]? with
      | some og => match og.dst with | some gd => some (o, d, gd, b) | none => none
      | none => none
    | _, _ => none
  | none => none

theorem met_spec {ops : Array Oper} {a : Act} {n : Nat} {D : List Deferred} {S : List (Nat × Value)} {o : Oper} (h : met ops S o.guard = true) (hf : Fr a n D S) : Region.wanted o (yielded ops a.tmps) = true := by
  unfold met at h
  split at h
  · rename_i hg; simp [Region.wanted, hg]
  · rename_i g b hg
    split at h
    · rename_i og hog
      split at h
      · rename_i gd hgd
        split at h
        · rename_i c hl
          have := hf.get gd _ hl
          have hcb : c = b := by cases c <;> cases b <;> simp_all
          simp [Region.wanted, hg, yielded, hog, hgd, this, hcb]
        · cases h
      · cases h
    · cases h
theorem opu_spec {ops : Array Oper} {a : Act} {n : Nat} {D : List Deferred} {S : List (Nat × Value)} {i : Nat} {o : Oper} {d : Nat} (h : opu ops S i = some (o, d)) (hf : Fr a n D S) : ops[i]? = some o ∧ Region.wanted o (yielded ops a.tmps) = true ∧ o.dst = some d := by
  unfold opu at h
  split at h
  · rename_i o' ho
    split at h
    · rename_i hg hd; cases h; exact ⟨ho, met_spec hg hf, hd⟩
    · cases h
  · cases h
theorem opn_spec {ops : Array Oper} {a : Act} {n : Nat} {D : List Deferred} {S : List (Nat × Value)} {i : Nat} {o : Oper} (h : opn ops S i = some o) (hf : Fr a n D S) : ops[i]? = some o ∧ Region.wanted o (yielded ops a.tmps) = true ∧ o.dst = none := by
  unfold opn at h
  split at h
  · rename_i o' ho
    split at h
    · rename_i hg hd; cases h; exact ⟨ho, met_spec hg hf, hd⟩
    · cases h
  · cases h
theorem opg_spec {ops : Array Oper} {i : Nat} {o : Oper} {d gd : Nat} {b : Bool} (h : opg ops i = some (o, d, gd, b)) : ops[i]? = some o ∧ o.dst = some d ∧ ∃ g og, o.guard = some (g, b) ∧ ops[g]? = some og ∧ og.dst = some gd := by
  unfold opg at h
  split at h
  · rename_i o' ho
    split at h
    · rename_i g b' d' hg hd
      split at h
      · rename_i og hog
        split at h
        · rename_i gd' hgd; cases h; exact ⟨ho, hd, g, og, hg, hog, hgd⟩
        · cases h
      · cases h
    · cases h
  · cases h

section
variable {P : Program} {r : Option Nat} {k : Ks} {ops : Array Oper} {md : Md} {n : Nat} {D : List Deferred} {S : List (Nat × Value)} {w : World}

theorem wanted_of {a : Act} {o : Oper} {g gd : Nat} {b c : Bool} {og : Oper} (hf : Fr a n D S) (hg : o.guard = some (g, b)) (hog : ops[g]? = some og) (hgd : og.dst = some gd) (hl : look S gd = some (.bool c)) :
    Region.wanted o (yielded ops a.tmps) = (c == b) := by
  have := hf.get gd _ hl
  simp [Region.wanted, hg, yielded, hog, hgd, this]

/-- A value that is there only if the guard's Bool is as wanted. -/
def gv (c b : Bool) (v : Value) : Value := bif (c == b) then v else undef

theorem rw_done (h : GN k n D S w) : HR P r k ops md n D S .done w := h

theorem rw_p {i : Nat} {t : Tr} {o : Oper} {d : Nat} {v : Value} (ho : opu ops S i = some (o, d)) (hd : Nat.blt d n = true) (hy : ∀ a, Fr a n D S → Yl P md w a o v)
    (h : HR P r k ops md n D ((d, v) :: S) t w) : HR P r k ops md n D S (.pure i t) w := fun a hf => by
  obtain ⟨h1, h2, h3⟩ := opu_spec ho hf
  refine ⟨o, v, h1, ⟨fun _ => hy a hf, fun hw => by rw [h2] at hw; cases hw⟩, ?_⟩
  rw [h3]
  exact h _ (hf.put v hd)

/-- a guarded operation whose guard is c, whatever c is -/
theorem rw_g {i : Nat} {t : Tr} {o : Oper} {d gd : Nat} {b c : Bool} {v : Value} (ho : opg ops i = some (o, d, gd, b)) (hl : look S gd = some (.bool c)) (hd : Nat.blt d n = true) (hy : c = b → ∀ a, Fr a n D S → Yl P md w a o v)
    (h : HR P r k ops md n D ((d, gv c b v) :: S) t w) : HR P r k ops md n D S (.pure i t) w := fun a hf => by
  obtain ⟨h1, h3, g, og, hg, hog, hgd⟩ := opg_spec ho
  have hw := wanted_of (ops := ops) hf hg hog hgd hl
  refine ⟨o, gv c b v, h1, ⟨fun hh => ?_, fun hh => ?_⟩, ?_⟩
  · rw [hw] at hh
    have : gv c b v = v := by simp [gv, hh]
    rw [this]
    exact hy (by simpa using hh) a hf
  · rw [hw] at hh
    simp [gv, hh]
  · rw [h3]
    exact h _ (hf.put _ hd)

theorem wanted_gv {a : Act} {o : Oper} {g gd : Nat} {b b' c d : Bool} {og : Oper} (hf : Fr a n D S) (hg : o.guard = some (g, b')) (hog : ops[g]? = some og) (hgd : og.dst = some gd) (hl : look S gd = some (gv c b (.bool d))) :
    Region.wanted o (yielded ops a.tmps) = (c == b && d == b') := by
  have := hf.get gd _ hl
  by_cases h : c = b
  · simp [Region.wanted, hg, yielded, hog, hgd, this, gv, h]
  · have e : (c == b) = false := by simpa using h
    simp [Region.wanted, hg, yielded, hog, hgd, this, gv, e, undef]
/-- a guarded operation whose guard is guarded itself -/
theorem rw_gg {i : Nat} {t : Tr} {o : Oper} {dd gd : Nat} {b b' c d : Bool} {v : Value} (ho : opg ops i = some (o, dd, gd, b')) (hl : look S gd = some (gv c b (.bool d))) (hd : Nat.blt dd n = true) (hy : (c == b && d == b') = true → ∀ a, Fr a n D S → Yl P md w a o v)
    (h : HR P r k ops md n D ((dd, gv (c == b && d == b') true v) :: S) t w) : HR P r k ops md n D S (.pure i t) w := fun a hf => by
  obtain ⟨h1, h3, g, og, hg, hog, hgd⟩ := opg_spec ho
  have hw := wanted_gv (ops := ops) hf hg hog hgd hl
  refine ⟨o, gv (c == b && d == b') true v, h1, ⟨fun hh => ?_, fun hh => ?_⟩, ?_⟩
  · rw [hw] at hh
    have : gv (c == b && d == b') true v = v := by simp only [gv, hh]; rfl
    rw [this]
    exact hy hh a hf
  · rw [hw] at hh
    simp only [gv, hh]; rfl
  · rw [h3]
    exact h _ (hf.put _ hd)

/-- .. whose guard was not carried out itself -/
theorem wanted_un {a : Act} {o : Oper} {g gd : Nat} {b : Bool} {og : Oper} (hf : Fr a n D S) (hg : o.guard = some (g, b)) (hog : ops[g]? = some og) (hgd : og.dst = some gd) (hl : look S gd = some undef) : Region.wanted o (yielded ops a.tmps) = false := by
  have := hf.get gd _ hl
  simp [Region.wanted, hg, yielded, hog, hgd, this, undef]
theorem rw_gu {i : Nat} {t : Tr} {o : Oper} {d gd : Nat} {b : Bool} (ho : opg ops i = some (o, d, gd, b)) (hl : look S gd = some undef) (hd : Nat.blt d n = true)
    (h : HR P r k ops md n D ((d, undef) :: S) t w) : HR P r k ops md n D S (.pure i t) w := fun a hf => by
  obtain ⟨h1, h3, g, og, hg, hog, hgd⟩ := opg_spec ho
  have hw := wanted_un (ops := ops) hf hg hog hgd hl
  refine ⟨o, undef, h1, ⟨fun hh => (by rw [hw] at hh; cases hh), fun _ => rfl⟩, ?_⟩
  rw [h3]
  exact h _ (hf.put _ hd)

/-- .. whose guard is as wanted -/
theorem rw_gt {i : Nat} {t : Tr} {o : Oper} {d gd : Nat} {b c : Bool} {v : Value} (ho : opg ops i = some (o, d, gd, b)) (hl : look S gd = some (.bool c)) (hc : c = b) (hd : Nat.blt d n = true) (hy : ∀ a, Fr a n D S → Yl P md w a o v)
    (h : HR P r k ops md n D ((d, v) :: S) t w) : HR P r k ops md n D S (.pure i t) w := by
  refine rw_g ho hl hd (fun _ => hy) ?_
  have : gv c b v = v := by simp [gv, hc]
  rw [this]; exact h

/-- .. whose guard is not as wanted: it is not carried out -/
theorem rw_gf {i : Nat} {t : Tr} {o : Oper} {d gd : Nat} {b c : Bool} (ho : opg ops i = some (o, d, gd, b)) (hl : look S gd = some (.bool c)) (hc : c ≠ b) (hd : Nat.blt d n = true)
    (h : HR P r k ops md n D ((d, undef) :: S) t w) : HR P r k ops md n D S (.pure i t) w := by
  have e : (c == b) = false := by simpa using hc
  refine rw_g (v := undef) ho hl hd (fun hh => absurd hh hc) ?_
  have : gv c b undef = undef := by simp [gv]
  rw [this]; exact h
end
end Go.Cx
