/- The program logic of these proofs, part F: slices: reading, indexing, cutting, append, make, copy. No condition. -/
import Derived.Test.YtlgkhajmjgepaaaCxE
import Derived.Laws.Append
import Derived.Laws.MakeOwn
namespace Go.Cx
set_option linter.unusedVariables false
set_option linter.unusedSimpArgs false
open Go

/-- From the address p on lie the cells cs. -/
def Rd (w : World) : Option Addr → List Value → Prop
  | none, cs => cs = []
  | some a, cs => (cs ≠ [] → a.spot = none) ∧ ∀ j v, cs[j]? = some v → w.cell? ⟨a.block, a.off + j, none⟩ = some v

theorem cell_lt {w : World} {a : Addr} {v : Value} (h : w.cell? a = some v) : a.block < w.heap.size := by
  unfold World.cell? at h
  split at h
  · rename_i c _ _ hc; exact (Array.getElem?_eq_some_iff.1 hc).1
  · cases h
theorem cell_same {w w' : World} {a : Addr} (h : w'.heap[a.block]? = w.heap[a.block]?) : w'.cell? a = w.cell? a := by simp [World.cell?, h]

theorem Rd.ext {w w' : World} {p : Option Addr} {cs : List Value} {Y : Bs} (h : Rd w p cs) (hx : Ext Y w w') (hY : ∀ a, p = some a → ¬ Y a.block) : Rd w' p cs := by
  cases p with
  | none => exact h
  | some a => exact ⟨h.1, fun j v hj => by
      have h1 := h.2 j v hj
      rw [cell_same (a := ⟨a.block, a.off + j, none⟩) (hx.same a.block (cell_lt (a := ⟨a.block, a.off + j, none⟩) h1) (hY a rfl))]
      exact h1⟩
theorem Rd.ext0 {w w' : World} {p : Option Addr} {cs : List Value} (h : Rd w p cs) (hx : Ext No w w') : Rd w' p cs := h.ext hx fun _ _ h => h

theorem Rd.row {w : World} {g off : Nat} {e : TypeId} {l cs : List Value} (h : w.heap[g]? = some (Blk.row e l).toObj) (hl : ∀ (j : Nat) v, cs[j]? = some v → l[off + j]? = some v) : Rd w (some ⟨g, off, none⟩) cs :=
  ⟨fun _ => rfl, fun j v hj => by rw [cell_row h]; exact hl j v hj⟩
theorem Rd.row0 {w : World} {g : Nat} {e : TypeId} {l : List Value} (h : w.heap[g]? = some (Blk.row e l).toObj) : Rd w (some ⟨g, 0, none⟩) l := Rd.row h fun j v hj => by simpa using hj
theorem Rd.pre {w : World} {p : Option Addr} {cs ds : List Value} (h : Rd w p cs) (hp : ∀ (j : Nat) v, ds[j]? = some v → cs[j]? = some v) (hn : p = none → ds = []) : Rd w p ds := by
  cases p with
  | none => exact hn rfl
  | some a => exact ⟨fun hd => h.1 fun e => by
      subst e
      cases ds with
      | nil => exact hd rfl
      | cons v r => have := hp 0 v rfl; simp at this, fun j v hj => h.2 j v (hp j v hj)⟩
theorem Rd.take {w : World} {p : Option Addr} {cs : List Value} (h : Rd w p cs) (m : Nat) : Rd w p (cs.take m) :=
  Rd.pre h (fun j v hj => by rw [List.getElem?_take] at hj; split at hj <;> simp_all) (fun e => by subst e; have h : cs = [] := h; simp [h])

/-- the address behind a cut at l elements of es cells -/
def slp (p : Option Addr) (cap l es : Nat) : Option Addr := if cap = l then p else p.map fun a => ⟨a.block, a.off + l * es, none⟩
theorem slp_zero {p : Option Addr} {cap es : Nat} (hp : ∀ a, p = some a → a.spot = none) : slp p cap 0 es = p := by
  unfold slp
  split
  · rfl
  · cases p with
    | none => rfl
    | some a => obtain ⟨b, o, s⟩ := a; have : s = none := hp _ rfl; subst this; simp
theorem Rd.spot {w : World} {p : Option Addr} {cs : List Value} (h : Rd w p cs) (hc : cs ≠ []) : ∀ a, p = some a → a.spot = none := fun a e => by subst e; exact h.1 hc
theorem Rd.slp {w : World} {p : Option Addr} {cs ds : List Value} {cap l es : Nat} (h : Rd w p cs) (hd : ∀ (j : Nat) v, ds[j]? = some v → cs[l * es + j]? = some v) (he : cap = l → ds = []) : Rd w (slp p cap l es) ds := by
  unfold Cx.slp
  split
  · rename_i e
    rw [he e]
    cases p with
    | none => rfl
    | some a => exact ⟨fun h => absurd rfl h, by simp⟩
  · cases p with
    | none =>
      have h : cs = [] := h
      subst h
      cases ds with
      | nil => rfl
      | cons v r => have := hd 0 v rfl; simp at this
    | some a => exact ⟨fun _ => rfl, fun j v hj => by
        have h1 := h.2 _ v (hd j v hj)
        rw [show a.off + l * es + j = a.off + (l * es + j) by omega]
        exact h1⟩

/-- The call's own slice of n elements (es cells each), of type e: nothing yet (b is a gap), or the head of block g, which is b. -/
structure Acc (e es : Nat) (p : Option Addr) (n cap : Nat) (cells : List Value) (g : Nat) (b : Blk) : Prop where
  len : cells.length = n * es
  cases' : (n = 0 ∧ cap = 0 ∧ b = .gap) ∨ (∃ l, p = some ⟨g, 0, none⟩ ∧ b = .row e l ∧ n ≤ cap ∧ l.length = cap * es ∧ l.take (n * es) = cells)

theorem Acc.nil (e es : Nat) (p : Option Addr) (g : Nat) : Acc e es p 0 0 [] g .gap := ⟨by simp, .inl ⟨rfl, rfl, rfl⟩⟩
/-- a row, as it was laid -/
theorem Acc.row {e es g n : Nat} {l : List Value} (h : l.length = n * es) : Acc e es (some ⟨g, 0, none⟩) n n l g (.row e l) := ⟨h, .inr ⟨l, rfl, rfl, Nat.le_refl _, h, by rw [← h, List.take_length]⟩⟩

theorem Acc.rd {w0 w : World} {X : Bs} {L : List (Nat × Blk)} {e es n cap g : Nat} {b : Blk} {p : Option Addr} {cells : List Value} (h : Acc e es p n cap cells g b) (hm : Mem w0 w X L) (j : Nat) (hj : blk L j = some (g, b)) : Rd w p cells := by
  rcases h.cases' with ⟨h1, _, _⟩ | ⟨l, hpg, hB, _, _, h4⟩
  · have hl := h.len
    rw [h1, Nat.zero_mul] at hl
    have : cells = [] := List.length_eq_zero_iff.1 hl
    subst this
    cases p with
    | none => rfl
    | some a => exact ⟨fun h => absurd rfl h, by simp⟩
  · subst hpg hB
    exact Rd.row (hm.get hj) fun j v hj => by
      rw [← h4, List.getElem?_take] at hj
      split at hj
      · simpa using hj
      · cases hj

section
variable {w0 w w' : World} {X : Bs} {L B : List (Nat × Blk)}

theorem reals_app (L B : List (Nat × Blk)) : reals (L ++ B) = reals L ++ reals B := by simp [reals]
theorem reals_perm {L L' : List (Nat × Blk)} (hp : L.Perm L') : (reals L).Perm (reals L') := by unfold reals; exact (hp.filter _).map _
theorem reals_sub {L L' : List (Nat × Blk)} (hs : L'.Sublist L) : (reals L').Sublist (reals L) := by unfold reals; exact (hs.filter _).map _
theorem Mem.perm {L' : List (Nat × Blk)} (h : Mem w0 w X L) (hp : L.Perm L') : Mem w0 w X L' :=
  ⟨h.os, h.tape, h.output, h.size, h.same, fun p hh => h.own p (hp.mem_iff.2 hh), fun p hh => h.fresh p (hp.mem_iff.2 hh), (reals_perm hp).nodup_iff.1 h.nodup⟩
theorem Mem.drop {L' : List (Nat × Blk)} (h : Mem w0 w X L) (hs : L'.Sublist L) : Mem w0 w X L' :=
  ⟨h.os, h.tape, h.output, h.size, h.same, fun p hh => h.own p (hs.subset hh), fun p hh => h.fresh p (hs.subset hh), h.nodup.sublist (reals_sub hs)⟩
theorem Mem.left (h : Mem w0 w X (L ++ B)) : Mem w0 w X L := h.drop (List.sublist_append_left _ _)
theorem Mem.right (h : Mem w0 w X (L ++ B)) : Mem w0 w X B := h.drop (List.sublist_append_right _ _)
theorem Mem.tail {b : Nat × Blk} (h : Mem w0 w X (b :: L)) : Mem w0 w X L := h.drop (List.sublist_cons_self _ _)
/-- keep the entries of these places -/
def pickL (L : List (Nat × Blk)) : List Nat → List (Nat × Blk)
  | [] => []
  | k :: r => match blk L k with | some q => q :: pickL L r | none => pickL L r
theorem perm_get : ∀ (L : List (Nat × Blk)) (k : Nat) (q : Nat × Blk), blk L k = some q → L.Perm (q :: L.eraseIdx k)
  | [], _, _, h => by simp [blk] at h
  | b :: r, 0, q, h => by simp only [blk, Option.some.injEq] at h; subst h; simp
  | b :: r, k + 1, q, h => by
    simp only [blk] at h
    simp only [List.eraseIdx_cons_succ]
    exact (List.Perm.cons b (perm_get r k q h)).trans (List.Perm.swap q b _)
theorem perm_setB : ∀ (L : List (Nat × Blk)) (k n : Nat) (b x : Blk), blk L k = some (n, b) → (setB L k x).Perm ((n, x) :: L.eraseIdx k)
  | [], _, _, _, _, h => by simp [blk] at h
  | (m, c) :: r, 0, n, b, x, h => by simp only [blk, Option.some.injEq, Prod.mk.injEq] at h; obtain ⟨rfl, rfl⟩ := h; simp [setB]
  | (m, c) :: r, k + 1, n, b, x, h => by
    simp only [blk] at h
    simp only [List.eraseIdx_cons_succ, setB]
    exact (List.Perm.cons _ (perm_setB r k n b x h)).trans (List.Perm.swap _ _ _)
theorem perm_setE : ∀ (L : List (Nat × Blk)) (k : Nat) (q o : Nat × Blk), blk L k = some o → (setE L k q).Perm (q :: L.eraseIdx k)
  | [], _, _, _, h => by simp [blk] at h
  | b :: r, 0, q, o, h => by simp [setE]
  | b :: r, k + 1, q, o, h => by
    simp only [blk] at h
    simp only [List.eraseIdx_cons_succ, setE]
    exact (List.Perm.cons _ (perm_setE r k q o h)).trans (List.Perm.swap _ _ _)
/-- the head, laid at place k -/
theorem Mem.lay {q o : Nat × Blk} (h : Mem w0 w X (q :: L)) (k : Nat) (hk : blk L k = some o) : Mem w0 w X (setE L k q) :=
  (h.drop (List.Sublist.cons_cons q (List.eraseIdx_sublist L k))).perm (perm_setE L k q o hk).symm
/-- a turn of blocks that are not among the own ones -/
theorem Mem.turn {Y : Bs} (h : Mem w0 w X L) (hx : Ext Y w w') (hY : ∀ k, Y k → X k ∨ w0.heap.size ≤ k) (hL : ∀ p, p ∈ L → p.2.real = true → ¬ Y p.1) : Mem w0 w' X L :=
  ⟨hx.os.trans h.os, hx.tape.trans h.tape, hx.output.trans h.output, Nat.le_trans h.size hx.size,
    fun k hk hX => (hx.same k (Nat.lt_of_lt_of_le hk h.size) fun hy => by rcases hY k hy with h1 | h1; exact hX h1; omega).trans (h.same k hk hX),
    fun p hp hr => (hx.same p.1 (h.lt hp hr) (hL p hp hr)).trans (h.own p hp hr), h.fresh, h.nodup⟩
/-- some of the own blocks (A) handed over to a callee, which leaves A' -/
theorem Mem.call {A A' : List (Nat × Blk)} {Y : Bs} (h : Mem w0 w X (A ++ L)) (hc : Mem w w' Y A') (hY : ∀ k, Y k → k ∈ reals A) : Mem w0 w' X (A' ++ L) := by
  have hx : Ext Y w w' := hc.to
  have hfr : ∀ k, Y k → X k ∨ w0.heap.size ≤ k := fun k hk => by
    obtain ⟨b, hp, hr⟩ := mem_reals.1 (hY k hk)
    exact h.fresh (k, b) (List.mem_append_left _ hp) hr
  have hL : ∀ p, p ∈ L → p.2.real = true → ¬ Y p.1 := fun p hp hr hy => by
    have hn := h.nodup
    rw [reals_app] at hn
    exact (List.nodup_append.1 hn).2.2 p.1 (hY _ hy) p.1 (mem_reals.2 ⟨p.2, hp, hr⟩) rfl
  have h1 := h.right.turn hx hfr hL
  refine ⟨h1.os, h1.tape, h1.output, h1.size, h1.same, fun p hp hr => ?_, fun p hp hr => ?_, ?_⟩
  · rcases List.mem_append.1 hp with hp | hp
    · exact hc.own p hp hr
    · exact h1.own p hp hr
  · rcases List.mem_append.1 hp with hp | hp
    · rcases hc.fresh p hp hr with h2 | h2
      · exact hfr _ h2
      · exact .inr (Nat.le_trans h.size h2)
    · exact h1.fresh p hp hr
  · rw [reals_app, List.nodup_append]
    refine ⟨hc.nodup, h1.nodup, ?_⟩
    intro k hk j hj e
    subst e
    obtain ⟨b, hp, hr⟩ := mem_reals.1 hk
    obtain ⟨c, hq, hs⟩ := mem_reals.1 hj
    have hqlt : k < w.heap.size := h.lt (p := (k, c)) (List.mem_append_right _ hq) hs
    rcases hc.fresh _ hp hr with h2 | h2
    · exact hL _ hq hs h2
    · simp only at h2; omega
end

/-- a call that turns nothing of the caller's and hands back blocks of its own -/
theorem Mem.callN {w0 w w' : World} {X : Bs} {L N : List (Nat × Blk)} (h : Mem w0 w X L) (hc : Mem w w' No N) : Mem w0 w' X (N ++ L) := Mem.call (A := []) h hc fun _ h => h.elim
/-- a call that turns the block of place j, and hands back blocks of its own -/
theorem Mem.callJ {w0 w w' : World} {X : Bs} {L N : List (Nat × Blk)} {g : Nat} {b b' : Blk} (h : Mem w0 w X L) (j : Nat) (hj : blk L j = some (g, b)) (hc : Mem w w' (fun k => k = g) ((g, b') :: N)) (hb : b.real = true := by rfl) : Mem w0 w' X (N ++ setB L j b') := by
  have h1 : Mem w0 w X ([(g, b)] ++ L.eraseIdx j) := h.perm (perm_get L j _ hj)
  have h2 := Mem.call h1 hc fun k hk => mem_reals.2 ⟨b, by rw [hk]; simp, hb⟩
  refine h2.perm ?_
  rw [List.cons_append]
  exact (List.perm_middle (l₁ := N) (l₂ := L.eraseIdx j) (a := (g, b'))).symm.trans (List.Perm.append_left N (perm_setB L j g b b' hj).symm)
theorem C.as {P : Program} {f : FuncId} {vs : List Value} {w : World} {u v : Value} (h : C P f vs w fun x w' => x = u ∧ Ext No w w') (e : u = v) : C P f vs w fun x w' => x = v ∧ Ext No w w' := h.mono fun _ _ h => ⟨h.1.trans e, h.2⟩

theorem C.eqv {P : Program} {f : FuncId} {vs vs' : List Value} {w : World} {R : Value → World → Prop} (h : C P f vs w R) (e : vs = vs') : C P f vs' w R := e ▸ h

/-! ### Runs -/
section
variable {P : Program} {w : World}

theorem run_firstRd {p : Option Addr} {cs : List Value} {es m len cap : Nat} (h : Rd w p cs) (hl : cs.length = m * es) : (Builtin.firstCells es m (.slice p len cap)).run P w = .ok ⟨cs⟩ w := by
  cases p with
  | none =>
    have h : cs = [] := h
    subst h
    simp [Builtin.firstCells]
  | some a =>
    obtain ⟨b, o, s⟩ := a
    by_cases hne : cs = []
    · subst hne
      simp only [Builtin.firstCells, ← hl]
      simpa using run_loadCells_list (P := P) w ⟨b, o, s⟩ [] (by simp)
    have hs : s = none := h.1 hne
    subst hs
    simp only [Builtin.firstCells, ← hl]
    refine run_loadCells_list (P := P) w _ cs fun j v hj => ?_
    have := h.2 j v hj
    by_cases hj0 : j = 0
    · subst hj0; simpa [Addr.add] using this
    · simpa [Addr.add, hj0] using this

theorem slcO_spec {T e es bs : Nat} (h : slcO P T = some (e, es, bs)) : P.underlying T = some (.slice e) ∧ ∃ i, P.info? e = some i ∧ i.size = es ∧ i.bytes = bs := by
  unfold slcO at h
  cases hu : P.underlying T with
  | none => simp [hu] at h
  | some d =>
    cases d <;> simp [hu] at h
    rename_i e'
    cases hi : P.info? e' with
    | none => simp [hi] at h
    | some i =>
      simp [hi] at h
      obtain ⟨rfl, h2, h3⟩ := h
      exact ⟨rfl, i, hi, h2, h3⟩

/-- the capacity that the tape gives -/
def newCap (w : World) (need old : Nat) (e : TypeId) : Nat := need + (w.tape w.drawn (.appendCap need old e)) % (2 ^ 63 - need)

theorem arr3 (a b : List Value) (z : Array Value) : ((⟨a⟩ : Array Value) ++ ⟨b⟩ ++ z) = ⟨a ++ b ++ z.toList⟩ := by apply Array.ext'; simp

theorem run_append {T e es bs : Nat} {ts : Array TypeId} {ty : TypeId} {p q : Option Addr} {n cap m c : Nat} {cells new : List Value} {z : List Value} (hT : slcO P T = some (e, es, bs)) (hts : ts[0]? = some T) {T2 : TypeId} {x2 : TypeId × Nat × Nat} (hts2 : ts[1]? = some T2) (hT2 : slcO P T2 = some x2)
    (hz : zer P e = some z) (hq : Rd w q new) (hnew : new.length = m * es) (hp : Rd w p cells) (hc : cells.length = n * es) (hb : (n + m) * bs ≤ 140737488355328) (h63 : n + m < 2 ^ 63) :
    (n + m ≤ cap → (Builtin.append_ ts ty #[.slice p n cap, .slice q m c]).run P w = (match p with | some a => (storeCells (a.add (n * es)) new).run P w | none => .ok () w).andThen fun _ w' => .ok (.slice p (n + m) cap) w') ∧
    (cap < n + m → (Builtin.append_ ts ty #[.slice p n cap, .slice q m c]).run P w =
      .ok (.slice (some ⟨w.heap.size, 0, none⟩) (n + m) (newCap w (n + m) cap e)) (w.drew.alloc (Blk.row e (cells ++ new ++ (Builtin.zeroCells ⟨z⟩ (newCap w (n + m) cap e - (n + m))).toList)).toObj)) := by
  obtain ⟨hu, i, hi, hsz, hby⟩ := slcO_spec hT
  obtain ⟨zv, hzv, hzc⟩ := run_zer (w := w.drew) hz
  have hzv' : ∀ u : World, (zeroValue e).run P u = .ok zv u := fun u => by
    obtain ⟨v', h1, h2⟩ := run_zer (w := u) hz
    have : v' = zv := by
      unfold zer at hz
      have e1 : (zeroValue e).run P u = (match i.zero with | some v => .ok v u | none => .halt (.unsupported (.resourceLimit "a value of more than 2^22 cells")) u) := by
        simp [zeroValue, typeInfo, hi]; cases i.zero <;> rfl
      have e2 : (zeroValue e).run P w.drew = (match i.zero with | some v => .ok v w.drew | none => .halt (.unsupported (.resourceLimit "a value of more than 2^22 cells")) w.drew) := by
        simp [zeroValue, typeInfo, hi]; cases i.zero <;> rfl
      cases hzz : i.zero with
      | none => rw [hzz] at e1; rw [e1] at h1; cases h1
      | some v => rw [hzz] at e1 e2; rw [e1] at h1; rw [e2] at hzv; cases h1; cases hzv; rfl
    rw [h1, this]
  have hinfo : ∀ u : World, (typeInfo e).run P u = .ok i u := fun u => by simp [typeInfo, hi]
  obtain ⟨e2, es2, bs2⟩ := x2
  obtain ⟨hu2, _⟩ := slcO_spec hT2
  have hf := run_firstRd (P := P) (len := m) (cap := c) hq hnew
  have hpf := run_firstRd (P := P) (w := w.drew) (len := n) (cap := cap) (hp.ext0 (Ext.drew w)) hc
  have hqf := run_firstRd (P := P) (w := w.drew) (len := m) (cap := c) (hq.ext0 (Ext.drew w)) hnew
  have hsize : ∀ u : World, (sizeOf e).run P u = .ok es u := fun u => by simp [sizeOf, hinfo, hsz]
  refine ⟨fun hle => ?_, fun hlt => ?_⟩
  · unfold Builtin.append_
    simp only [hts, hts2, List.getElem?_toArray, List.getElem?_cons_zero, List.getElem?_cons_succ, Sem.run_bind, run_und hu, run_und hu2, Result.andThen_ok, hsize, Sem.run_pure, Bool.false_eq_true, if_false, Builtin.lenOf, hle, if_true, Bool.not_false, hf]
    cases p with
    | none => simp
    | some a => simp
  · have hn : ¬ n + m ≤ cap := by omega
    have hg : ¬ (Builtin.nextslicecap (n + m) cap * i.bytes > 2 ^ 48) := by
      have := growslice_fits (bytes := i.bytes) hlt (by rw [hby]; exact hb)
      simpa using this
    have hmx : ¬ (((n + m : Nat) : Int) > IntKind.i64.max ∧ (False ∨ i.bytes = 0)) := by
      intro ⟨h1, _⟩
      have : IntKind.i64.max = 9223372036854775807 := rfl
      rw [this] at h1
      omega
    unfold Builtin.append_
    simp only [hts, hts2, List.getElem?_toArray, List.getElem?_cons_zero, List.getElem?_cons_succ, Sem.run_bind, run_und hu, run_und hu2, Result.andThen_ok, hsize, Sem.run_pure, Bool.false_eq_true, if_false, Builtin.lenOf, hn, Bool.not_false, if_true, hinfo, Sem.run_ite, hmx, hg]
    have hch : (choose (.appendCap (n + m) cap e)).run P w = .ok (newCap w (n + m) cap e) w.drew := by
      simp [Question.forced, newCap, Question.cut]
    have hnr : ∀ (cs : Array Value) (u : World), (newRow e cs).run P u = .ok ⟨u.heap.size, 0, none⟩ (u.alloc (.cells cs e)) := fun cs u => by simp [newRow]
    simp only [hch, Result.andThen_ok, run_askRoom, hpf, hqf, hzv', hzc, hnr, arr3, Blk.toObj]
    rfl

theorem newCap_ge (w : World) (need old : Nat) (e : TypeId) : need ≤ newCap w need old e := Nat.le_add_right _ _
theorem drew_ext (w : World) : Ext No w w.drew := ⟨rfl, rfl, rfl, Nat.le_refl _, fun _ _ _ => rfl⟩

/-- append to the call's own slice -/
theorem Acc.append {T e es bs : Nat} {ts : Array TypeId} {ty : TypeId} {p q : Option Addr} {n cap m c g : Nat} {b : Blk} {cells new z : List Value} {w0 : World} {X : Bs} {L : List (Nat × Blk)} (hT : slcO P T = some (e, es, bs)) (hts : ts[0]? = some T) {T2 : TypeId} {x2 : TypeId × Nat × Nat} (hts2 : ts[1]? = some T2) (hT2 : slcO P T2 = some x2)
    (hz : zer P e = some z) (hzl : z.length = es) (h1 : new.all (·.oneCell') = true) (hq : Rd w q new) (hnew : new.length = m * es) (ha : Acc e es p n cap cells g b) (hm : Mem w0 w X L) (j : Nat) (hj : blk L j = some (g, b)) (hb : (n + m) * bs ≤ 140737488355328) (h63 : n + m < 2 ^ 63) :
    ∃ p' cap' g' b' w', (Builtin.append_ ts ty #[.slice p n cap, .slice q m c]).run P w = .ok (.slice p' (n + m) cap') w' ∧ Acc e es p' (n + m) cap' (cells ++ new) g' b' ∧ Mem w0 w' X (setE L j (g', b')) ∧
      Ext (fun k => b.real = true ∧ k = g) w w' ∧ (g' = g ∧ b'.real = b.real ∨ w.heap.size ≤ g') := by
  have hrd := ha.rd hm j hj
  obtain ⟨hfit, hgrow⟩ := run_append (w := w) (cap := cap) (c := c) (ty := ty) hT hts hts2 hT2 hz hq hnew hrd ha.len hb h63
  have hlen : (cells ++ new).length = (n + m) * es := by rw [List.length_append, ha.len, hnew, Nat.add_mul]
  have hself : ∀ (L : List (Nat × Blk)) (k : Nat) (q : Nat × Blk), blk L k = some q → setE L k q = L := fun L => by
    induction L with
    | nil => intro k q h; simp [blk] at h
    | cons x r ih =>
      intro k q h
      cases k with
      | zero => simp only [blk, Option.some.injEq] at h; subst h; rfl
      | succ k => simp only [setE, ih k q h]
  have hsetB : ∀ (L : List (Nat × Blk)) (k n : Nat) (b x : Blk), blk L k = some (n, b) → setB L k x = setE L k (n, x) := fun L => by
    induction L with
    | nil => intro k n b x h; rfl
    | cons y r ih =>
      intro k n b x h
      obtain ⟨m, d⟩ := y
      cases k with
      | zero => simp only [blk, Option.some.injEq, Prod.mk.injEq] at h; obtain ⟨rfl, _⟩ := h; rfl
      | succ k => simp only [blk] at h; simp only [setB, setE, ih k n b x h]
  by_cases hle : n + m ≤ cap
  · have hrun := hfit hle
    rcases ha.cases' with ⟨h2, h3, h4⟩ | ⟨l, rfl, rfl, hnc, hl, htk⟩
    · have hm0 : m = 0 := by omega
      subst h2 h3 hm0
      have hnil : new = [] := List.length_eq_zero_iff.1 (by rw [hnew]; simp)
      have hcnil : cells = [] := List.length_eq_zero_iff.1 (by rw [ha.len]; simp)
      subst hnil hcnil h4
      refine ⟨p, 0, g, .gap, w, ?_, ⟨by simp, .inl ⟨rfl, rfl, rfl⟩⟩, by rw [hself L j _ hj]; exact hm, Ext.refl _ _, .inl ⟨rfl, rfl⟩⟩
      rw [hrun]
      cases p <;> simp [storeCells]
    · have hg := hm.get hj
      have hst := run_storeCells_at P g (n * es) e new 0 ⟨l⟩ w hg (by simp only [Nat.add_zero, hnew, List.size_toArray]; rw [hl, ← Nat.add_mul]; exact Nat.mul_le_mul_right _ hle) (by simpa using h1)
      simp only [Nat.add_zero] at hst
      have hadd : (⟨g, 0, none⟩ : Addr).add (n * es) = ⟨g, n * es, none⟩ := by
        unfold Addr.add; split
        · rename_i h0; rw [h0]
        · simp
      refine ⟨some ⟨g, 0, none⟩, cap, g, .row e (l.take (n * es) ++ new ++ l.drop (n * es + new.length)), _, by rw [hrun]; simp only [hadd, hst]; rfl, ⟨hlen, .inr ⟨_, rfl, rfl, hle, ?_, ?_⟩⟩, ?_, ?_, .inl ⟨rfl, rfl⟩⟩
      · have : n * es + new.length ≤ l.length := by rw [hnew, hl, ← Nat.add_mul]; exact Nat.mul_le_mul_right _ hle
        simp only [List.length_append, List.length_take, List.length_drop]
        omega
      · rw [htk, ← hlen]
        exact List.take_left
      · have := setRow_mem (l' := l.take (n * es) ++ new ++ l.drop (n * es + new.length)) hm hj
        rw [hsetB L j g _ _ hj] at this
        exact this
      · refine ⟨rfl, rfl, rfl, by simp [World.setRow], fun k hk hne => ?_⟩
        simp only [World.setRow, Array.getElem?_modify]
        rw [if_neg]
        intro e; subst e
        exact hne ⟨rfl, rfl⟩
  · have hlt : cap < n + m := by omega
    have hrun := hgrow hlt
    refine ⟨_, _, w.heap.size, .row e (cells ++ new ++ (Builtin.zeroCells ⟨z⟩ (newCap w (n + m) cap e - (n + m))).toList), _, hrun, ⟨hlen, .inr ⟨_, rfl, rfl, newCap_ge _ _ _ _, ?_, ?_⟩⟩, ?_, ?_, .inr (Nat.le_refl _)⟩
    · have : (Builtin.zeroCells ⟨z⟩ (newCap w (n + m) cap e - (n + m))).toList.length = (newCap w (n + m) cap e - (n + m)) * es := by
        rw [← hzl]; simp [Builtin.zeroCells]
      rw [List.length_append, hlen, this, ← Nat.add_mul]
      congr 1
      have := newCap_ge w (n + m) cap e
      omega
    · rw [← hlen]; exact List.take_left
    · exact ((hm.ext (drew_ext w)).alloc (Blk.row e (cells ++ new ++ (Builtin.zeroCells ⟨z⟩ (newCap w (n + m) cap e - (n + m))).toList))).lay j hj
    · exact ((drew_ext w).trans (ext_alloc _ _)).mono fun _ h => h.elim
end

section
variable {P : Program} {r : Option Nat} {k : Ks} {ops : Array Oper} {md : Md} {n : Nat} {D : List Deferred} {S : List (Nat × Value)} {w : World} {i : Nat} {t : Tr}
variable {ty : TypeId} {pos : String} {af : Array Edge} {g : Option (Nat × Bool)} {dst : Option Tmp} {d : Nat} {w0 : World} {X : Bs} {L : List (Nat × Blk)}

/-- append to the call's own slice, in text order -/
theorem a_append {T e es bs : Nat} {s x : Operand} {ts : Array TypeId} {p q : Option Addr} {na cap m c gg : Nat} {b : Blk} {cells new z : List Value} {T2 : TypeId} {x2 : TypeId × Nat × Nat}
    (ho : opu ops S i = some (⟨dst, .call ⟨.builtin .append, #[s, x], ts⟩, ty, pos, af, g⟩, d)) (hd : Nat.blt d n = true) (hs : ev S s = some (.slice p na cap)) (hx : ev S x = some (.slice q m c)) (hts : ts[0]? = some T) (hts2 : ts[1]? = some T2)
    (hT : slcO P T = some (e, es, bs)) (hT2 : slcO P T2 = some x2) (hz : zer P e = some z) (hzl : z.length = es) (h1 : new.all (·.oneCell') = true) (hq : Rd w q new) (hnew : new.length = m * es) (ha : Acc e es p na cap cells gg b)
    (hm : Mem w0 w X L) (j : Nat) (hj : blk L j = some (gg, b)) (hb : (na + m) * bs ≤ 140737488355328) (h63 : na + m < 2 ^ 63)
    (h : ∀ p' cap' g' b' w', Acc e es p' (na + m) cap' (cells ++ new) g' b' → Mem w0 w' X (setE L j (g', b')) → HR P r k ops none n D ((d, .slice p' (na + m) cap') :: S) t w') : HR P r k ops none n D S (.act i t) w := by
  obtain ⟨p', cap', g', b', w', hrun, ha', hm', _⟩ := ha.append (c := c) (ty := ty) hT hts hts2 hT2 hz hzl h1 hq hnew hm j hj hb h63
  refine a_val ho hd rfl (fun a hf => ?_) trivial (h p' cap' g' b' w' ha' hm')
  simp only [execOp, resolve, List.map_toArray, List.map_cons, List.map_nil, hf.eval hs, hf.eval hx, Sem.run_bind, Sem.run_pure, Result.andThen_ok, invoke, builtin, hrun]

/-- .. in a drawn region that may turn the slice's own block -/
theorem a_appendN {b0 : World} {Y : Bs} {T e es bs : Nat} {s x : Operand} {ts : Array TypeId} {p q : Option Addr} {na cap m c gg : Nat} {b : Blk} {cells new z : List Value} {T2 : TypeId} {x2 : TypeId × Nat × Nat}
    (ho : opu ops S i = some (⟨dst, .call ⟨.builtin .append, #[s, x], ts⟩, ty, pos, af, g⟩, d)) (hd : Nat.blt d n = true) (hs : ev S s = some (.slice p na cap)) (hx : ev S x = some (.slice q m c)) (hts : ts[0]? = some T) (hts2 : ts[1]? = some T2)
    (hT : slcO P T = some (e, es, bs)) (hT2 : slcO P T2 = some x2) (hz : zer P e = some z) (hzl : z.length = es) (h1 : new.all (·.oneCell') = true) (hq : Rd w q new) (hnew : new.length = m * es) (ha : Acc e es p na cap cells gg b)
    (hm : Mem w0 w X L) (j : Nat) (hj : blk L j = some (gg, b)) (hb : (na + m) * bs ≤ 140737488355328) (h63 : na + m < 2 ^ 63) (hh : Hold (some (b0, Y)) w) (hY : b.real = true → b0.heap.size ≤ gg ∨ Y gg)
    (h : ∀ p' cap' g' b' w', (b.real = true → b0.heap.size ≤ gg) ∨ True → Acc e es p' (na + m) cap' (cells ++ new) g' b' → Mem w0 w' X (setE L j (g', b')) → Hold (some (b0, Y)) w' → (b'.real = true → b0.heap.size ≤ g' ∨ Y g') → HR P r k ops (some (b0, Y)) n D ((d, .slice p' (na + m) cap') :: S) t w') : HR P r k ops (some (b0, Y)) n D S (.act i t) w := by
  obtain ⟨p', cap', g', b', w', hrun, ha', hm', hx', hg'⟩ := ha.append (c := c) (ty := ty) hT hts hts2 hT2 hz hzl h1 hq hnew hm j hj hb h63
  have hh0 : Ext Y b0 w := hh
  have hh' : Hold (some (b0, Y)) w' := by
    show Ext Y b0 w'
    refine ⟨hx'.os.trans hh0.os, hx'.tape.trans hh0.tape, hx'.output.trans hh0.output, Nat.le_trans hh0.size hx'.size, fun j hj hn => ?_⟩
    rw [hx'.same j (Nat.lt_of_lt_of_le hj hh0.size) fun hmem => ?_, hh0.same j hj hn]
    rcases hY hmem.1 with h2 | h2
    · rw [hmem.2] at hj; omega
    · exact hn (hmem.2 ▸ h2)
  refine a_val ho hd rfl (fun a hf => ?_) hh' (h p' cap' g' b' w' (.inr trivial) ha' hm' hh' fun hr => ?_)
  · simp only [execOp, resolve, List.map_toArray, List.map_cons, List.map_nil, hf.eval hs, hf.eval hx, Sem.run_bind, Sem.run_pure, Result.andThen_ok, invoke, builtin, hrun]
  · rcases hg' with ⟨rfl, hr'⟩ | hge
    · exact hY (by rw [← hr']; exact hr)
    · exact .inl (Nat.le_trans hh0.size hge)

/-- an element's address -/
theorem y_index {T e es bs : Nat} {x y : Operand} {p : Option Addr} {l c b o : Nat} {k' : IntKind} {j : Int} (hx : ev S x = some (.slice p l c)) (hy : ev S y = some (.int k' j)) (hT : slcO P T = some (e, es, bs)) (hp : p = some ⟨b, o, none⟩) (h0 : 0 ≤ j) (h1 : j < l) :
    ∀ a, Fr a n D S → Yl P md w a ⟨dst, .indexAddr T x y, ty, pos, af, g⟩ (.pointer (some ⟨b, o + j.toNat * es, none⟩)) := fun a hf u _ => by
  obtain ⟨hu, i, hi, hs, _⟩ := slcO_spec hT
  subst hp
  have hsz : (sizeOf e).run P u = .ok es u := by simp [sizeOf, typeInfo, hi, hs]
  have hadd : (⟨b, o, none⟩ : Addr).add (j.toNat * es) = ⟨b, o + j.toNat * es, none⟩ := by
    unfold Addr.add; split
    · rename_i h; rw [h]; simp
    · simp
  simp [execOp, hf.eval hx, hf.eval hy, Instr.indexAt, asIntOf, run_und hu, h0, h1, hsz, hadd]

/-- s[lo:hi]; either bound may lack -/
theorem y_slice {T e es bs : Nat} {x : Operand} {lo hi : Option Operand} {p : Option Addr} {l c ln hn : Nat} (hx : ev S x = some (.slice p l c)) (hT : slcO P T = some (e, es, bs))
    (hlo : (match lo with | none => ln = 0 | some y => ∃ k', ev S y = some (.int k' ln)) ) (hhi : (match hi with | none => hn = l | some y => ∃ k', ev S y = some (.int k' hn))) (h1 : ln ≤ hn) (h2 : hn ≤ c) (hsp : c ≠ ln → ∀ ad, p = some ad → ad.spot = none) :
    ∀ a, Fr a n D S → Yl P md w a ⟨dst, .slice T x lo hi none, ty, pos, af, g⟩ (.slice (slp p c ln es) (hn - ln) (c - ln)) := fun a hf u _ => by
  obtain ⟨hu, i, hi', hs, _⟩ := slcO_spec hT
  have hsz : (sizeOf e).run P u = .ok es u := by simp [sizeOf, typeInfo, hi', hs]
  have hb : (Instr.sliceBounds true l c (lo.map a.eval) (hi.map a.eval) none).run P u = .ok (ln, hn, c) u := by
    have e1 : ∀ (k' : IntKind) (m y : Nat) (cd : BoundsCode), m ≤ y → (Instr.sliceBound (.int k' m) y cd).run P u = .ok m u := fun k' m y cd h => by
      have h' : (m : Int) ≤ y := by omega
      simp [Instr.sliceBound, asIntOf, h']
    unfold Instr.sliceBounds
    cases lo with
    | none =>
      subst hlo
      cases hi with
      | none => subst hhi; simp
      | some y => obtain ⟨k', hy⟩ := hhi; simp [hf.eval hy, e1 k' hn c _ h2]
    | some z =>
      obtain ⟨k2, hz⟩ := hlo
      cases hi with
      | none => subst hhi; simp [hf.eval hz, e1 k2 ln _ _ h1]
      | some y => obtain ⟨k', hy⟩ := hhi; simp [hf.eval hy, hf.eval hz, e1 k' hn c _ h2, e1 k2 ln _ _ h1]
  have hp : (if c = ln then p else p.map (·.add (ln * es))) = slp p c ln es := by
    unfold slp
    split
    · rfl
    · rename_i hne
      cases p with
      | none => rfl
      | some ad =>
        obtain ⟨b, o, s⟩ := ad
        have hs0 : s = none := hsp hne _ rfl
        subst hs0
        simp only [Option.map_some, Addr.add]
        split
        · rename_i h; rw [h]; simp
        · simp
  simp only [execOp, hf.eval hx, Option.map_none, Instr.sliceAt, Sem.run_bind, run_und hu, Result.andThen_ok, Instr.slice, hb, hsz, Sem.run_pure, hp]
end
end Go.Cx
