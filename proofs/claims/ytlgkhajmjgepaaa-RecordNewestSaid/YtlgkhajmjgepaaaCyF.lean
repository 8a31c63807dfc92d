/- The program logic of these proofs, part yF: clear of the tail of a slice of one's own, and the head of such a slice. No condition. -/
import Derived.Test.YtlgkhajmjgepaaaCxQ
namespace Go.Cx
set_option linter.unusedVariables false
set_option linter.unusedSimpArgs false
open Go
theorem run_clear0 {P : Program} {w : World} {T e es bs c : Nat} {p : Option Addr} {ty : TypeId} (hT : slcO P T = some (e, es, bs)) : (Builtin.clear_ #[T] ty #[.slice p 0 c]).run P w = .ok (.tuple #[]) w := by
  obtain ⟨hu, i, hi, hsz, hby⟩ := slcO_spec hT
  unfold Builtin.clear_
  simp only [List.getElem?_toArray, List.getElem?_cons_zero, Sem.run_bind, run_und hu, Result.andThen_ok]
  cases p <;> rfl
theorem run_clear {P : Program} {w : World} {T e es bs g o m c : Nat} {ty : TypeId} {l z : List Value} (hT : slcO P T = some (e, es, bs)) (hz : zer P e = some z) (hzl : z.length = es) (h1 : z.all (·.oneCell') = true) (hg : w.heap[g]? = some (Blk.row e l).toObj) (hfit : o + m * es ≤ l.length) (h0 : m ≠ 0) :
    (Builtin.clear_ #[T] ty #[.slice (some ⟨g, o, none⟩) m c]).run P w = .ok (.tuple #[]) (w.setRow g ⟨upds l o (repZ z m)⟩) := by
  obtain ⟨hu, i, hi, hsz, hby⟩ := slcO_spec hT
  obtain ⟨zv, hzv, hzc⟩ := run_zer (w := w) hz
  have hrl : (repZ z m).length = m * es := by rw [repZ_length, hzl]
  have hle : o + (repZ z m).length ≤ l.length := by rw [hrl]; exact hfit
  have hst := run_storeCells_at P g o e (repZ z m) 0 ⟨l⟩ w hg (by simpa using hle) (by simpa using repZ_one z m h1)
  simp only [Nat.add_zero] at hst
  rw [← upds_eq (repZ z m) l o hle] at hst
  obtain ⟨k, rfl⟩ : ∃ k, m = k + 1 := ⟨m - 1, by omega⟩
  unfold Builtin.clear_
  simp only [List.getElem?_toArray, List.getElem?_cons_zero, Sem.run_bind, run_und hu, Result.andThen_ok, hzv, hzc, zeroCells_eq, hst]
  rfl
theorem Acc.clear {e es bs g n cap o dc T : Nat} {ty : TypeId} {b : Blk} {p : Option Addr} {cells z : List Value} {w0 w : World} {X : Bs} {L : List (Nat × Blk)} {P : Program} (ha : Acc e es p n cap cells g b) (hm : Mem w0 w X L) (j : Nat) (hj : blk L j = some (g, b)) (ho : o ≤ n)
    (hT : slcO P T = some (e, es, bs)) (hz : zer P e = some z) (hzl : z.length = es) (h1 : z.all (·.oneCell') = true) :
    ∃ b' w', (Builtin.clear_ #[T] ty #[.slice (slp p cap o es) (n - o) dc]).run P w = .ok (.tuple #[]) w' ∧ Acc e es p n cap (upds cells (o * es) (repZ z (n - o))) g b' ∧ Mem w0 w' X (setE L j (g, b')) ∧ b'.real = b.real := by
  by_cases h0 : n - o = 0
  · refine ⟨b, w, by rw [h0]; exact run_clear0 hT, by rw [h0]; exact ha, by rw [setE_self L j _ hj]; exact hm, rfl⟩
  · rcases ha.cases' with ⟨h2, h3, _⟩ | ⟨l, rfl, rfl, hnc, hll, htk⟩
    · omega
    · have hco : cap ≠ o := by omega
      have hsp : slp (some ⟨g, 0, none⟩) cap o es = some ⟨g, o * es, none⟩ := by unfold slp; rw [if_neg hco]; simp
      have hle2 : n * es ≤ cap * es := Nat.mul_le_mul_right _ hnc
      have hle3 : o * es + (n - o) * es = n * es := by rw [← Nat.add_mul]; congr 1; omega
      have hcl := ha.len
      have hrl : (repZ z (n - o)).length = (n - o) * es := by rw [repZ_length, hzl]
      rw [hsp]
      refine ⟨.row e (upds l (o * es) (repZ z (n - o))), _, run_clear hT hz hzl h1 (hm.get hj) (by omega) h0, ⟨by rw [upds_length, hcl], .inr ⟨_, rfl, rfl, hnc, by rw [upds_length, hll], ?_⟩⟩, ?_, rfl⟩
      · rw [upds_eq _ l _ (by omega), upds_eq _ cells _ (by omega), ← htk, List.take_append, List.take_append]
        simp only [List.length_take, List.length_append, List.take_take, List.drop_take]
        have e1 : min (n * es) (o * es) = o * es := by omega
        have e2 : min (o * es) (n * es) = o * es := by omega
        have e3 : min (o * es) l.length = o * es := by omega
        rw [e1, e2, e3, List.take_of_length_le (l := repZ z (n - o)) (by omega)]
      · rw [← setB_eq L j g _ _ hj]
        exact setRow_mem hm hj
/-- the head of a slice of one's own -/
theorem Acc.head {e es g n cap i : Nat} {b : Blk} {p : Option Addr} {cells : List Value} (ha : Acc e es p n cap cells g b) (h : i ≤ n) : Acc e es p i cap (cells.take (i * es)) g b := by
  have hle : i * es ≤ n * es := Nat.mul_le_mul_right _ h
  refine ⟨by rw [List.length_take, ha.len]; omega, ?_⟩
  rcases ha.cases' with ⟨h2, h3, h4⟩ | ⟨l, h2, h3, hnc, hll, htk⟩
  · exact .inl ⟨by omega, h3, h4⟩
  · exact .inr ⟨l, h2, h3, by omega, hll, by rw [← htk, List.take_take]; congr 1; omega⟩
section
variable {P : Program} {r : Option Nat} {k : Ks} {ops : Array Oper} {n : Nat} {D : List Deferred} {S : List (Nat × Value)} {w : World} {i : Nat} {t : Tr}
variable {ty : TypeId} {pos : String} {af : Array Edge} {g : Option (Nat × Bool)} {dst : Option Tmp} {d : Nat} {w0 : World} {X : Bs} {L : List (Nat × Blk)}
theorem a_vno {md : Md} {o : Oper} {v : Value} {w' : World} (ho : opn ops S i = some o) (hp : ndef o = true) (hrun : ∀ a, Fr a n D S → (execOp a.eval o).run P w = .ok (.value v) w')
    (hh : Hold md w') (h : HR P r k ops md n D S t w') : HR P r k ops md n D S (.act i t) w := fun a hf => by
  obtain ⟨h1, h2, h3⟩ := opn_spec ho hf
  refine ⟨o, h1, fun _ => ?_, fun hw => by rw [h2] at hw; cases hw⟩
  unfold OpW
  rw [semAt_of_plain hp, hrun a hf]
  refine ⟨hh, ?_⟩
  rw [h3]
  exact h _ hf
theorem a_clearL {T e es bs : Nat} {x : Operand} {p : Option Addr} {na cap o dl dc gg : Nat} {b : Blk} {cells z : List Value}
    (ho : opn ops S i = some ⟨dst, .call ⟨.builtin .clear, #[x], #[T]⟩, ty, pos, af, g⟩) (hx : ev S x = some (.slice (slp p cap o es) dl dc))
    (hT : slcO P T = some (e, es, bs)) (hz : zer P e = some z) (hzl : z.length = es) (h1 : z.all (·.oneCell') = true) (hdl : dl = na - o) (hle : o ≤ na) (ha : Acc e es p na cap cells gg b)
    (hm : Mem w0 w X L) (j : Nat) (hj : blk L j = some (gg, b))
    (h : ∀ b' w', Acc e es p na cap (upds cells (o * es) (repZ z (na - o))) gg b' → Mem w0 w' X (setE L j (gg, b')) → HR P r k ops none n D S t w') : HR P r k ops none n D S (.act i t) w := by
  subst hdl
  obtain ⟨b', w', hrun, ha', hm', _⟩ := ha.clear (dc := dc) (ty := ty) hm j hj hle hT hz hzl h1
  refine a_vno (v := .tuple #[]) ho rfl (fun a hf => ?_) trivial (h b' w' ha' hm')
  simp [execOp, resolve, invoke, builtin, hf.eval hx, hrun]
end
theorem Mem.startB {w : World} {g : Nat} {b : Blk} (h : b.real = true → w.heap[g]? = some b.toObj) : Mem w w (fun k => k = g ∧ b.real = true) [(g, b)] :=
  ⟨rfl, rfl, rfl, Nat.le_refl _, fun _ _ _ => rfl, fun p hp hr => by rcases List.mem_singleton.1 hp with rfl; exact h hr, fun p hp hr => by rcases List.mem_singleton.1 hp with rfl; exact .inl ⟨rfl, hr⟩, by
    unfold reals; simp only [List.filter_cons, List.filter_nil]; split <;> simp⟩
theorem Mem.callB {w0 w w' : World} {X : Bs} {L : List (Nat × Blk)} {g : Nat} {b b' : Blk} (h : Mem w0 w X L) (j : Nat) (hj : blk L j = some (g, b)) (hc : Mem w w' (fun k => k = g ∧ b.real = true) [(g, b')]) : Mem w0 w' X (setE L j (g, b')) := by
  have h1 : Mem w0 w X ([(g, b)] ++ L.eraseIdx j) := h.perm (perm_get L j _ hj)
  have h2 := h1.call hc fun k hk => by obtain ⟨rfl, hr⟩ := hk; exact mem_reals.2 ⟨b, by simp, hr⟩
  exact h2.perm (perm_setE L j (g, b') _ hj).symm
theorem upds_fm {α : Type} {enc : α → List Value} {es : Nat} (he : ∀ x, (enc x).length = es) {xs : List α} {i : Nat} (hi : i < xs.length) (y : α) : upds (xs.flatMap enc) (i * es) (enc y) = (xs.set i y).flatMap enc := by
  have hl := fm_length he
  have hle : (i + 1) * es ≤ xs.length * es := Nat.mul_le_mul_right _ hi
  rw [Nat.succ_mul] at hle
  have e0 : xs = xs.take i ++ xs.drop i := (List.take_append_drop i xs).symm
  have e1 : xs.drop i = xs[i] :: xs.drop (i + 1) := List.drop_eq_getElem_cons hi
  have hti : (xs.take i).length = i := by rw [List.length_take]; omega
  rw [upds_eq _ _ _ (by rw [he, hl]; omega), List.set_eq_take_append_cons_drop, if_pos hi, List.flatMap_append, List.flatMap_cons, he]
  conv => lhs; rw [e0, e1]
  have hf : ((xs.take i).flatMap enc).length = i * es := by rw [hl, hti]
  rw [List.flatMap_append, List.flatMap_cons, List.take_append_of_le_length (by omega), List.take_of_length_le (by omega), List.append_assoc]
  congr 1
  congr 1
  rw [← hf, List.drop_append, List.drop_append, Nat.add_sub_cancel_left, List.drop_of_length_le (by omega), List.drop_of_length_le (l := enc xs[i]) (by rw [he]; omega), he, Nat.sub_self, List.drop_zero, List.nil_append, List.nil_append]
theorem take_upds : ∀ (us l : List Value) (o : Nat), (upds l o us).take o = l.take o
  | [], l, o => rfl
  | u :: us, l, o => by
    show (upds (upd l o u) (o + 1) us).take o = _
    have h1 := take_upds us (upd l o u) (o + 1)
    have h2 := congrArg (List.take o) h1
    rw [List.take_take, List.take_take, Nat.min_eq_left (by omega)] at h2
    rw [h2, upd_eq, List.take_set_of_le (Nat.le_refl _)]
theorem take_fm {α : Type} {enc : α → List Value} {es : Nat} (he : ∀ x, (enc x).length = es) (xs : List α) (i : Nat) : (xs.flatMap enc).take (i * es) = (xs.take i).flatMap enc := by
  by_cases hi : i ≤ xs.length
  · conv => lhs; rw [← List.take_append_drop i xs, List.flatMap_append]
    have hf : ((xs.take i).flatMap enc).length = i * es := by rw [fm_length he, List.length_take, Nat.min_eq_left hi]
    rw [List.take_append_of_le_length (by omega), List.take_of_length_le (by omega)]
  · rw [List.take_of_length_le (l := xs) (by omega), List.take_of_length_le]
    rw [fm_length he]
    exact Nat.mul_le_mul_right _ (by omega)
theorem idx_case {α : Type} (p : α → Bool) (xs : List α) : (Pl.idx p xs = -1 ∧ xs.filter (fun x => !p x) = xs) ∨ ∃ (i : Nat) (x : α), Pl.idx p xs = (i : Int) ∧ xs[i]? = some x ∧ p x = true ∧ (xs.take i).filter (fun x => !p x) = xs.take i := by
  unfold Pl.idx
  cases h : xs.findIdx? p with
  | none =>
    rw [List.findIdx?_eq_none_iff] at h
    exact .inl ⟨rfl, List.filter_eq_self.2 fun x hx => by rw [h x hx]; rfl⟩
  | some i =>
    rw [List.findIdx?_eq_some_iff_getElem] at h
    obtain ⟨h1, h2, h3⟩ := h
    refine .inr ⟨i, xs[i], rfl, List.getElem?_eq_getElem h1, h2, List.filter_eq_self.2 fun x hx => ?_⟩
    obtain ⟨j, hj, e⟩ := List.getElem_of_mem hx
    rw [List.length_take] at hj
    rw [List.getElem_take] at e
    have := h3 j (by omega)
    rw [e] at this
    simpa using this
/-- DeleteFunc under way: the elements that stay of the first j stand ahead, those from j on stand as they stood -/
structure DelI {α : Type} (p : α → Bool) (xs : List α) (j i : Nat) (zs : List α) : Prop where
  len : zs.length = xs.length
  le : j ≤ xs.length
  lt : i < j
  head : zs.take i = (xs.take j).filter fun x => !p x
  tail : zs.drop j = xs.drop j
section
variable {α : Type} {p : α → Bool} {xs zs : List α} {i j : Nat} {x : α}
theorem DelI.start (hx : xs[i]? = some x) (hp : p x = true) (h : (xs.take i).filter (fun x => !p x) = xs.take i) : DelI p xs (i + 1) i xs := by
  have hl := (List.getElem?_eq_some_iff.1 hx).1
  refine ⟨rfl, hl, by omega, ?_, rfl⟩
  rw [List.take_add_one, hx, Option.toList, List.filter_append, h, List.filter_cons_of_neg (by rw [hp]; simp), List.filter_nil, List.append_nil]
theorem DelI.at (h : DelI p xs j i zs) (hx : zs[j]? = some x) : xs[j]? = some x := by
  have := congrArg (fun l => l[0]?) h.tail
  simp only [List.getElem?_drop, Nat.add_zero] at this
  rw [← this]; exact hx
theorem DelI.skip (h : DelI p xs j i zs) (hx : zs[j]? = some x) (hp : p x = true) : DelI p xs (j + 1) i zs := by
  have hx' := h.at hx
  have hl := (List.getElem?_eq_some_iff.1 hx').1
  have hlt := h.lt
  refine ⟨h.len, hl, by omega, ?_, ?_⟩
  · rw [List.take_add_one, hx', Option.toList, List.filter_append, h.head, List.filter_cons_of_neg (by rw [hp]; simp), List.filter_nil, List.append_nil]
  · have := congrArg (List.drop 1) h.tail
    simpa only [List.drop_drop] using this
theorem DelI.put (h : DelI p xs j i zs) (hx : zs[j]? = some x) (hp : p x = false) : DelI p xs (j + 1) (i + 1) (zs.set i x) := by
  have hx' := h.at hx
  have hl := (List.getElem?_eq_some_iff.1 hx').1
  have hlt := h.lt
  have hzl := h.len
  refine ⟨by rw [List.length_set, h.len], hl, by omega, ?_, ?_⟩
  · rw [List.take_add_one, List.take_add_one, hx', List.filter_append, ← h.head, List.take_set_of_le (Nat.le_refl _), List.getElem?_set_self (by omega)]
    simp only [Option.toList]
    rw [List.filter_cons_of_pos (by rw [hp]; rfl), List.filter_nil]
  · rw [List.drop_set_of_lt (by omega)]
    have := congrArg (List.drop 1) h.tail
    simpa only [List.drop_drop] using this
theorem DelI.done (h : DelI p xs j i zs) (hj : xs.length ≤ j) : zs.take i = xs.filter (fun x => !p x) ∧ (xs.filter fun x => !p x).length = i ∧ i ≤ xs.length := by
  have h1 := h.head
  have h2 := h.le
  have h3 := h.lt
  have h4 := h.len
  rw [List.take_of_length_le hj] at h1
  exact ⟨h1, by rw [← h1, List.length_take]; omega, by omega⟩
end
theorem Mem.neB {w0 w : World} {X : Bs} {L : List (Nat × Blk)} (h : Mem w0 w X L) (i j : Nat) {m n : Nat} {b c : Blk} (hi : blk L i = some (m, b)) (hj : blk L j = some (n, c)) (hij : Nat.beq i j = false) (hb : b.real = true := by rfl) : ¬ (m = n ∧ c.real = true) := fun ⟨e, hc⟩ => h.ne i j hi hj hij hb hc e
end Go.Cx
