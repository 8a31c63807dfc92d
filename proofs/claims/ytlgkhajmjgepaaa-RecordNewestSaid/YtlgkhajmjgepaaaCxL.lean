/- The program logic of these proofs, part L: make, append of zeros, copy. No condition. -/
import Derived.Test.YtlgkhajmjgepaaaCxK
namespace Go.Cx
set_option linter.unusedVariables false
set_option linter.unusedSimpArgs false
open Go

section
variable {P : Program} {w : World}
/-- an append to the call's own slice, whatever it appends -/
theorem Acc.appendOf {T e es bs : Nat} {R : Sem Value} {p : Option Addr} {n cap m g : Nat} {b : Blk} {cells new z : List Value} {w0 : World} {X : Bs} {L : List (Nat × Blk)} (hzl : z.length = es) (h1 : new.all (·.oneCell') = true) (hnew : new.length = m * es) (ha : Acc e es p n cap cells g b) (hm : Mem w0 w X L) (j : Nat) (hj : blk L j = some (g, b))
    (hfit : n + m ≤ cap → R.run P w = (match p with | some a => (storeCells (a.add (n * es)) new).run P w | none => .ok () w).andThen fun _ w' => .ok (.slice p (n + m) cap) w')
    (hgrow : cap < n + m → R.run P w = .ok (.slice (some ⟨w.heap.size, 0, none⟩) (n + m) (newCap w (n + m) cap e)) (w.drew.alloc (Blk.row e (cells ++ new ++ (Builtin.zeroCells ⟨z⟩ (newCap w (n + m) cap e - (n + m))).toList)).toObj)) :
    ∃ p' cap' g' b' w', R.run P w = .ok (.slice p' (n + m) cap') w' ∧ Acc e es p' (n + m) cap' (cells ++ new) g' b' ∧ Mem w0 w' X (setE L j (g', b')) ∧
      Ext (fun k => b.real = true ∧ k = g) w w' ∧ (g' = g ∧ b'.real = b.real ∨ w.heap.size ≤ g') := by
  have hlen : (cells ++ new).length = (n + m) * es := by rw [List.length_append, ha.len, hnew, Nat.add_mul]
  have hself : ∀ (L : List (Nat × Blk)) (k : Nat) (q : Nat × Blk), blk L k = some q → setE L k q = L := fun L => by
    induction L with
    | nil => intro k q h; simp [blk] at h
    | cons x r ih =>
      intro k q h
      cases k with
      | zero => simp only [blk, Option.some.injEq] at h; subst h; rfl
      | succ k => simp only [setE, ih k q h]
  have hsetB : ∀ (L : List (Nat × Blk)) (k n : Nat) (b x : Blk), blk L k = some (n, b) → setB L k x = setE L k (n, x) := fun L => by
    induction L with
    | nil => intro k n b x h; rfl
    | cons y r ih =>
      intro k n b x h
      obtain ⟨m, d⟩ := y
      cases k with
      | zero => simp only [blk, Option.some.injEq, Prod.mk.injEq] at h; obtain ⟨rfl, _⟩ := h; rfl
      | succ k => simp only [blk] at h; simp only [setB, setE, ih k n b x h]
  by_cases hle : n + m ≤ cap
  · have hrun := hfit hle
    rcases ha.cases' with ⟨h2, h3, h4⟩ | ⟨l, rfl, rfl, hnc, hl, htk⟩
    · have hm0 : m = 0 := by omega
      subst h2 h3 hm0
      have hnil : new = [] := List.length_eq_zero_iff.1 (by rw [hnew]; simp)
      have hcnil : cells = [] := List.length_eq_zero_iff.1 (by rw [ha.len]; simp)
      subst hnil hcnil h4
      refine ⟨p, 0, g, .gap, w, ?_, ⟨by simp, .inl ⟨rfl, rfl, rfl⟩⟩, by rw [hself L j _ hj]; exact hm, Ext.refl _ _, .inl ⟨rfl, rfl⟩⟩
      rw [hrun]
      cases p <;> simp [storeCells]
    · have hg := hm.get hj
      have hst := run_storeCells_at P g (n * es) e new 0 ⟨l⟩ w hg (by simp only [Nat.add_zero, hnew, List.size_toArray]; rw [hl, ← Nat.add_mul]; exact Nat.mul_le_mul_right _ hle) (by simpa using h1)
      simp only [Nat.add_zero] at hst
      have hadd : (⟨g, 0, none⟩ : Addr).add (n * es) = ⟨g, n * es, none⟩ := by
        unfold Addr.add; split
        · rename_i h0; rw [h0]
        · simp
      refine ⟨some ⟨g, 0, none⟩, cap, g, .row e (l.take (n * es) ++ new ++ l.drop (n * es + new.length)), _, by rw [hrun]; simp only [hadd, hst]; rfl, ⟨hlen, .inr ⟨_, rfl, rfl, hle, ?_, ?_⟩⟩, ?_, ?_, .inl ⟨rfl, rfl⟩⟩
      · have : n * es + new.length ≤ l.length := by rw [hnew, hl, ← Nat.add_mul]; exact Nat.mul_le_mul_right _ hle
        simp only [List.length_append, List.length_take, List.length_drop]
        omega
      · rw [htk, ← hlen]
        exact List.take_left
      · have := setRow_mem (l' := l.take (n * es) ++ new ++ l.drop (n * es + new.length)) hm hj
        rw [hsetB L j g _ _ hj] at this
        exact this
      · refine ⟨rfl, rfl, rfl, by simp [World.setRow], fun k hk hne => ?_⟩
        simp only [World.setRow, Array.getElem?_modify]
        rw [if_neg]
        intro e; subst e
        exact hne ⟨rfl, rfl⟩
  · have hlt : cap < n + m := by omega
    have hrun := hgrow hlt
    refine ⟨_, _, w.heap.size, .row e (cells ++ new ++ (Builtin.zeroCells ⟨z⟩ (newCap w (n + m) cap e - (n + m))).toList), _, hrun, ⟨hlen, .inr ⟨_, rfl, rfl, newCap_ge _ _ _ _, ?_, ?_⟩⟩, ?_, ?_, .inr (Nat.le_refl _)⟩
    · have : (Builtin.zeroCells ⟨z⟩ (newCap w (n + m) cap e - (n + m))).toList.length = (newCap w (n + m) cap e - (n + m)) * es := by
        rw [← hzl]; simp [Builtin.zeroCells]
      rw [List.length_append, hlen, this, ← Nat.add_mul]
      congr 1
      have := newCap_ge w (n + m) cap e
      omega
    · rw [← hlen]; exact List.take_left
    · exact ((hm.ext (drew_ext w)).alloc (Blk.row e (cells ++ new ++ (Builtin.zeroCells ⟨z⟩ (newCap w (n + m) cap e - (n + m))).toList))).lay j hj
    · exact ((drew_ext w).trans (ext_alloc _ _)).mono fun _ h => h.elim

theorem intO_spec {T : TypeId} {k : IntKind} (h : intO P T = some k) : P.underlying T = some (.int k) := by
  unfold intO at h
  cases hu : P.underlying T with
  | none => simp [hu] at h
  | some d => cases d <;> simp [hu] at h; subst h; rfl
theorem zeroCells_eq (z : List Value) (n : Nat) : Builtin.zeroCells ⟨z⟩ n = ⟨repZ z n⟩ := zeros_eq z n
theorem repZ_one : ∀ (z : List Value) (n : Nat), z.all (·.oneCell') = true → (repZ z n).all (·.oneCell') = true
  | _, 0, _ => rfl
  | z, n + 1, h => by simp only [repZ, List.all_append, h, repZ_one z n h, Bool.and_self]
theorem run_appendZ {T e es bs : Nat} {ts : Array TypeId} {ty : TypeId} {p : Option Addr} {n cap m : Nat} {k k' : IntKind} {cells : List Value} {z : List Value} (hT : slcO P T = some (e, es, bs)) (hts : ts[0]? = some T) {T2 : TypeId} (hts2 : ts[1]? = some T2) (hT2 : intO P T2 = some k)
    (hz : zer P e = some z) (hzl : z.length = es) (hp : Rd w p cells) (hc : cells.length = n * es) (hb : (n + m) * bs ≤ 140737488355328) (h63 : n + m < 2 ^ 63) :
    (n + m ≤ cap → (Builtin.append_ ts ty #[.slice p n cap, .int k' m]).run P w = (match p with | some a => (storeCells (a.add (n * es)) (repZ z m)).run P w | none => .ok () w).andThen fun _ w' => .ok (.slice p (n + m) cap) w') ∧
    (cap < n + m → (Builtin.append_ ts ty #[.slice p n cap, .int k' m]).run P w =
      .ok (.slice (some ⟨w.heap.size, 0, none⟩) (n + m) (newCap w (n + m) cap e)) (w.drew.alloc (Blk.row e (cells ++ repZ z m ++ (Builtin.zeroCells ⟨z⟩ (newCap w (n + m) cap e - (n + m))).toList)).toObj)) := by
  obtain ⟨hu, i, hi, hsz, hby⟩ := slcO_spec hT
  have hu2 := intO_spec hT2
  obtain ⟨zv, hzv, hzc⟩ := run_zer (w := w.drew) hz
  have hzz : i.zero = some zv := by
    unfold zer at hz
    cases hzz : i.zero with
    | none => simp [hi, hzz] at hz
    | some v => have : (zeroValue e).run P w.drew = .ok v w.drew := by simp [zeroValue, typeInfo, hi, hzz]
                rw [this] at hzv; cases hzv; rfl
  have hzv' : ∀ u : World, (zeroValue e).run P u = .ok zv u := fun u => by simp [zeroValue, typeInfo, hi, hzz]
  have hinfo : ∀ u : World, (typeInfo e).run P u = .ok i u := fun u => by simp [typeInfo, hi]
  have hpf := run_firstRd (P := P) (w := w.drew) (len := n) (cap := cap) (hp.ext0 (Ext.drew w)) hc
  have hsize : ∀ u : World, (sizeOf e).run P u = .ok es u := fun u => by simp [sizeOf, hinfo, hsz]
  have hasi : ∀ u : World, (asInt (.int k' (m : Int))).run P u = .ok (m : Int) u := fun u => by simp [asInt, asIntOf]
  have hw : IntKind.i64.wrap (m : Int) = m := i64w (by omega) (by omega)
  have hmb : m * bs ≤ (n + m) * bs := Nat.mul_le_mul_right _ (by omega)
  have hn0 : ¬ ((m : Int) < 0) := by omega
  have hn1 : ¬ ((m : Int) * (i.bytes : Int) > 2 ^ 48) := by
    rw [hby]
    have : ((m * bs : Nat) : Int) = (m : Int) * bs := by simp
    rw [← this]
    omega
  have happ : ∀ u : World, ((if m * es = 0 then (pure #[] : Sem (Array Value)) else do pure (Builtin.zeroCells (← zeroValue e).cells m))).run P u = .ok ⟨repZ z m⟩ u := fun u => by
    by_cases h0 : m * es = 0
    · have : repZ z m = [] := List.length_eq_zero_iff.1 (by rw [repZ_length, hzl]; exact h0)
      simp [h0, this]
    · simp [h0, hzv' u, hzc, zeroCells_eq]
  refine ⟨fun hle => ?_, fun hlt => ?_⟩
  · unfold Builtin.append_
    simp only [hts, hts2, List.getElem?_toArray, List.getElem?_cons_zero, List.getElem?_cons_succ, Sem.run_bind, run_und hu, run_und hu2, Result.andThen_ok, hsize, Sem.run_pure, if_true, hasi, hw, hn0, hn1, if_false, hinfo, hle, Int.toNat_natCast, Bool.not_true, Bool.false_eq_true, happ]
    cases p with
    | none => simp
    | some a => simp
  · have hn : ¬ n + m ≤ cap := by omega
    have hg : ¬ (Builtin.nextslicecap (n + m) cap * i.bytes > 2 ^ 48) := by
      have := growslice_fits (bytes := i.bytes) hlt (by rw [hby]; exact hb)
      simpa using this
    have hmx : ¬ (((n + m : Nat) : Int) > IntKind.i64.max ∧ (True ∨ i.bytes = 0)) := by
      intro ⟨h1, _⟩
      have : IntKind.i64.max = 9223372036854775807 := rfl
      rw [this] at h1
      omega
    unfold Builtin.append_
    simp only [hts, hts2, List.getElem?_toArray, List.getElem?_cons_zero, List.getElem?_cons_succ, Sem.run_bind, run_und hu, run_und hu2, Result.andThen_ok, hsize, Sem.run_pure, if_true, hasi, hw, hn0, hn1, if_false, hinfo, hn, Int.toNat_natCast, Bool.not_true, Bool.false_eq_true, Sem.run_ite, hmx, hg]
    have hch : (choose (.appendCap (n + m) cap e)).run P w = .ok (newCap w (n + m) cap e) w.drew := by
      simp [Question.forced, newCap, Question.cut]
    have hnr : ∀ (cs : Array Value) (u : World), (newRow e cs).run P u = .ok ⟨u.heap.size, 0, none⟩ (u.alloc (.cells cs e)) := fun cs u => by simp [newRow]
    have happ' := happ w.drew
    simp only [hch, Result.andThen_ok, run_askRoom, hpf, hzv', hzc, hnr, Blk.toObj]
    by_cases h0 : m * es = 0
    · have h9 : repZ z m = [] := List.length_eq_zero_iff.1 (by rw [repZ_length, hzl]; exact h0)
      simp [h0, h9, hzv', hzc]
      congr 1
      congr 1
      apply Array.ext'
      simp
    · simp [h0, hzv', hzc, zeroCells_eq]
theorem run_mk {T e es bs : Nat} {k k' : IntKind} {l c : Nat} {z : List Value} {u : World} (hT : slcO P T = some (e, es, bs)) (hz : zer P e = some z) (hzl : z.length = es) (hlc : l ≤ c) (hb : c * bs ≤ 140737488355328) (hc : c ≤ 4611686018427387903) :
    (Instr.makeSlice T (.int k l) (.int k' c)).run P u = .ok (.slice (some ⟨u.heap.size, 0, none⟩) l c) (u.alloc (Blk.row e (repZ z c)).toObj) := by
  obtain ⟨hu, i, hi, hsz, hby⟩ := slcO_spec hT
  obtain ⟨zv, hzv, hzc⟩ := run_zer (w := u) hz
  have hinfo : ∀ u : World, (typeInfo e).run P u = .ok i u := fun u => by simp [typeInfo, hi]
  have hsize : ∀ u : World, (sizeOf e).run P u = .ok es u := fun u => by simp [sizeOf, hinfo, hsz]
  have hasi : ∀ (k : IntKind) (m : Nat) (u : World), (asInt (.int k (m : Int))).run P u = .ok (m : Int) u := fun k m u => by simp [asInt, asIntOf]
  have hwl : IntKind.i64.wrap (l : Int) = l := i64w (by omega) (by omega)
  have hwc : IntKind.i64.wrap (c : Int) = c := i64w (by omega) (by omega)
  have hnr : ∀ (cs : Array Value) (u : World), (newRow e cs).run P u = .ok ⟨u.heap.size, 0, none⟩ (u.alloc (.cells cs e)) := fun cs u => by simp [newRow]
  have htl : (decide ((c : Int) < 0) || decide ((bs : Int) * (c : Int) > 2 ^ 48)) = false := by
    rw [Bool.or_eq_false_iff, decide_eq_false_iff_not, decide_eq_false_iff_not]
    have : ((bs * c : Nat) : Int) = (bs : Int) * c := by simp
    rw [← this, Nat.mul_comm]
    omega
  have hl0 : (decide ((l : Int) < 0)) = false := decide_eq_false (by omega)
  have hlc' : (decide ((l : Int) > (c : Int))) = false := decide_eq_false (by omega)
  unfold Instr.makeSlice
  simp only [Sem.run_bind, run_und hu, Result.andThen_ok, hasi, hinfo, hwl, hwc, hby, htl, hl0, hlc', Bool.or_self, Bool.false_eq_true, if_false, run_askRoom, hsize, Int.toNat_natCast, Sem.run_pure]
  by_cases h0 : c * es = 0
  · have h9 : repZ z c = [] := List.length_eq_zero_iff.1 (by rw [repZ_length, hzl]; exact h0)
    simp [h0, h9, hnr, Blk.toObj]
    congr 2
    apply Array.ext'
    simp
  · have hrep : ((Array.range (c * es)).map ((⟨z⟩ : Array Value)[· % (⟨z⟩ : Array Value).size]!)) = ⟨repZ z c⟩ := by rw [← zeros_eq z c, hzl]
    simp only [h0, if_false, Sem.run_bind, hzv, Result.andThen_ok, hzc, Sem.run_pure, hrep, hnr, Blk.toObj]
/-- copy into a row of the call's own: from cell o on -/
theorem run_copy {T e es bs : Nat} {ts : Array TypeId} {ty : TypeId} {g o dl dc sl sc : Nat} {q : Option Addr} {l src : List Value} (hT : slcO P T = some (e, es, bs)) (hts : ts[0]? = some T) (hg : w.heap[g]? = some (Blk.row e l).toObj) (hfit : o + dl * es ≤ l.length) (hq : Rd w q src) (hs : src.length = min sl dl * es) (h1 : src.all (·.oneCell') = true) :
    (Builtin.copy_ ts ty #[.slice (some ⟨g, o, none⟩) dl dc, .slice q sl sc]).run P w = .ok (.int .i64 (min sl dl : Nat)) (w.setRow g ⟨upds l o src⟩) := by
  obtain ⟨hu, i, hi, hsz, hby⟩ := slcO_spec hT
  have hsize : ∀ u : World, (sizeOf e).run P u = .ok es u := fun u => by simp [sizeOf, typeInfo, hi, hsz]
  have hf := run_firstRd (P := P) (len := sl) (cap := sc) hq hs
  have hmin : Nat.min sl dl = min sl dl := rfl
  have hle : o + src.length ≤ l.length := by
    rw [hs]
    have : min sl dl * es ≤ dl * es := Nat.mul_le_mul_right _ (Nat.min_le_right _ _)
    omega
  have hst := run_storeCells_at P g o e src 0 ⟨l⟩ w hg (by simpa using hle) (by simpa using h1)
  simp only [Nat.add_zero] at hst
  rw [← upds_eq src l o hle] at hst
  unfold Builtin.copy_
  simp only [hts, List.getElem?_toArray, List.getElem?_cons_zero, List.getElem?_cons_succ, Sem.run_bind, run_und hu, Result.andThen_ok, hsize, Sem.run_pure, Builtin.lenOf, hf, hst, hmin]
  rfl
/-- a copy of nothing into nothing -/
theorem run_copy0 {T e es bs : Nat} {ts : Array TypeId} {ty : TypeId} {dl dc sl sc : Nat} {p q : Option Addr} (hT : slcO P T = some (e, es, bs)) (hts : ts[0]? = some T) (hq : Rd w q []) (h0 : min sl dl = 0) (hp : p = none ∨ ∃ ad, p = some ad) :
    (Builtin.copy_ ts ty #[.slice p dl dc, .slice q sl sc]).run P w = .ok (.int .i64 0) w := by
  obtain ⟨hu, i, hi, hsz, hby⟩ := slcO_spec hT
  have hsize : ∀ u : World, (sizeOf e).run P u = .ok es u := fun u => by simp [sizeOf, typeInfo, hi, hsz]
  have hf := run_firstRd (P := P) (es := es) (m := 0) (len := sl) (cap := sc) hq (by simp)
  have hmin : Nat.min sl dl = 0 := h0
  unfold Builtin.copy_
  simp only [hts, List.getElem?_toArray, List.getElem?_cons_zero, List.getElem?_cons_succ, Sem.run_bind, run_und hu, Result.andThen_ok, hsize, Sem.run_pure, Builtin.lenOf, hf, hmin]
  cases p with
  | none => simp [goInt]
  | some a => simp [goInt, storeCells]
end
section
variable {P : Program} {r : Option Nat} {k : Ks} {ops : Array Oper} {md : Md} {n : Nat} {D : List Deferred} {S : List (Nat × Value)} {w : World} {i : Nat} {t : Tr}
variable {ty : TypeId} {pos : String} {af : Array Edge} {g : Option (Nat × Bool)} {dst : Option Tmp} {d : Nat} {w0 : World} {X : Bs} {L : List (Nat × Blk)}
theorem a_appendZ {T e es bs : Nat} {s x : Operand} {ts : Array TypeId} {p : Option Addr} {na cap m gg : Nat} {b : Blk} {k1 k2 : IntKind} {cells z : List Value} {T2 : TypeId}
    (ho : opu ops S i = some (⟨dst, .call ⟨.builtin .append, #[s, x], ts⟩, ty, pos, af, g⟩, d)) (hd : Nat.blt d n = true) (hs : ev S s = some (.slice p na cap)) (hx : ev S x = some (.int k1 m)) (hts : ts[0]? = some T) (hts2 : ts[1]? = some T2)
    (hT : slcO P T = some (e, es, bs)) (hT2 : intO P T2 = some k2) (hz : zer P e = some z) (hzl : z.length = es) (h1 : z.all (·.oneCell') = true) (ha : Acc e es p na cap cells gg b)
    (hm : Mem w0 w X L) (j : Nat) (hj : blk L j = some (gg, b)) (hb : (na + m) * bs ≤ 140737488355328) (h63 : na + m < 2 ^ 63)
    (h : ∀ p' cap' g' b' w', Acc e es p' (na + m) cap' (cells ++ repZ z m) g' b' → Mem w0 w' X (setE L j (g', b')) → HR P r k ops none n D ((d, .slice p' (na + m) cap') :: S) t w') : HR P r k ops none n D S (.act i t) w := by
  obtain ⟨hfit, hgrow⟩ := run_appendZ (w := w) (cap := cap) (k' := k1) (ty := ty) hT hts hts2 hT2 hz hzl (ha.rd hm j hj) ha.len hb h63
  obtain ⟨p', cap', g', b', w', hrun, ha', hm', _⟩ := Acc.appendOf (T := T) (bs := bs) hzl (repZ_one z m h1) (by rw [repZ_length, hzl]) ha hm j hj hfit hgrow
  refine a_val ho hd rfl (fun a hf => ?_) trivial (h p' cap' g' b' w' ha' hm')
  simp only [execOp, resolve, List.map_toArray, List.map_cons, List.map_nil, hf.eval hs, hf.eval hx, Sem.run_bind, Sem.run_pure, Result.andThen_ok, invoke, builtin, hrun]
/-- make -/
theorem a_make {T e es bs l c : Nat} {x y : Operand} {k1 k2 : IntKind} {z : List Value} (ho : opu ops S i = some (⟨dst, .makeSlice T x y, ty, pos, af, g⟩, d)) (hd : Nat.blt d n = true) (hx : ev S x = some (.int k1 l)) (hy : ev S y = some (.int k2 c))
    (hT : slcO P T = some (e, es, bs)) (hz : zer P e = some z) (hzl : z.length = es) (hlc : l ≤ c) (hb : c * bs ≤ 140737488355328) (hc : c ≤ 4611686018427387903) (hm : Mem w0 w X L) (hh : Hold md w)
    (h : ∀ m w', Geq md m → Acc e es (some ⟨m, 0, none⟩) l c (repZ z l) m (.row e (repZ z c)) → Mem w0 w' X ((m, .row e (repZ z c)) :: L) → Hold md w' → HR P r k ops md n D ((d, .slice (some ⟨m, 0, none⟩) l c) :: S) t w') : HR P r k ops md n D S (.act i t) w := by
  have htk : ∀ (a b : Nat), a ≤ b → (repZ z b).take (a * z.length) = repZ z a := fun a => by
    induction a with
    | zero => intro b _; simp [repZ]
    | succ a ih =>
      intro b hab
      obtain ⟨b, rfl⟩ : ∃ b', b = b' + 1 := ⟨b - 1, by omega⟩
      simp only [repZ]
      rw [Nat.succ_mul, Nat.add_comm, List.take_append, List.take_of_length_le (by omega), Nat.add_sub_cancel_left, ih b (by omega)]
  have hacc : Acc e es (some ⟨w.heap.size, 0, none⟩) l c (repZ z l) w.heap.size (.row e (repZ z c)) := ⟨by rw [repZ_length, hzl], .inr ⟨_, rfl, rfl, hlc, by rw [repZ_length, hzl], by rw [← hzl]; exact htk l c hlc⟩⟩
  refine a_val (v := .slice (some ⟨w.heap.size, 0, none⟩) l c) (w' := w.alloc (Blk.row e (repZ z c)).toObj) ho hd rfl (fun a hf => ?_) (hh.ext (ext_alloc _ _)) (h _ _ hh.geq hacc (hm.alloc _) (hh.ext (ext_alloc _ _)))
  simp only [execOp, hf.eval hx, hf.eval hy, Sem.run_bind, run_mk hT hz hzl hlc hb hc, Result.andThen_ok, Sem.run_pure]
end
section
variable {P : Program} {md : Md} {w : World} {n : Nat} {D : List Deferred} {S : List (Nat × Value)} {dst : Option Tmp} {ty : TypeId} {pos : String} {af : Array Edge} {g : Option (Nat × Bool)}
theorem y_cap {t : TypeId} {x : Operand} {p : Option Addr} {l c : Nat} {ts : Array TypeId} {e : TypeId × Nat × Nat} (hx : ev S x = some (.slice p l c)) (hts : ts[0]? = some t) (ht : slcO P t = some e) :
    ∀ a, Fr a n D S → Yl P md w a ⟨dst, .call ⟨.builtin .cap, #[x], ts⟩, ty, pos, af, g⟩ (.int .i64 c) := fun a hf u _ => by
  obtain ⟨e1, e2, e3⟩ := e
  obtain ⟨hu, _⟩ := slcO_spec ht
  simp [execOp, resolve, hf.eval hx, invoke, builtin, Builtin.cap_, hts, run_und hu, goInt]
end
end Go.Cx
