/- The program logic of these proofs, part Q: copy into a slice of one's own. No condition. -/
import Derived.Test.YtlgkhajmjgepaaaCxM
namespace Go.Cx
set_option linter.unusedVariables false
set_option linter.unusedSimpArgs false
open Go
theorem setE_self : ∀ (L : List (Nat × Blk)) (k : Nat) (q : Nat × Blk), blk L k = some q → setE L k q = L
  | [], k, q, h => by simp [blk] at h
  | x :: r, 0, q, h => by simp only [blk, Option.some.injEq] at h; subst h; rfl
  | x :: r, k + 1, q, h => by simp only [setE]; rw [setE_self r k q h]
theorem Acc.copy {e es bs g n cap o sl sc dc T : Nat} {ts : Array TypeId} {ty : TypeId} {b : Blk} {p q : Option Addr} {cells src : List Value} {w0 w : World} {X : Bs} {L : List (Nat × Blk)} {P : Program} (ha : Acc e es p n cap cells g b) (hm : Mem w0 w X L) (j : Nat) (hj : blk L j = some (g, b)) (ho : o ≤ n)
    (hT : slcO P T = some (e, es, bs)) (hts : ts[0]? = some T) (hq : Rd w q src) (hs : src.length = min sl (n - o) * es) (h1 : src.all (·.oneCell') = true) :
    ∃ b' w', (Builtin.copy_ ts ty #[.slice (slp p cap o es) (n - o) dc, .slice q sl sc]).run P w = .ok (.int .i64 (min sl (n - o) : Nat)) w' ∧ Acc e es p n cap (upds cells (o * es) src) g b' ∧ Mem w0 w' X (setE L j (g, b')) ∧ b'.real = b.real ∧ Ext (fun k => k = g) w w' := by
  have none_ : min sl (n - o) = 0 → ∀ p' : Option Addr, ∃ b' w', (Builtin.copy_ ts ty #[.slice p' (n - o) dc, .slice q sl sc]).run P w = .ok (.int .i64 (min sl (n - o) : Nat)) w' ∧ Acc e es p n cap (upds cells (o * es) src) g b' ∧ Mem w0 w' X (setE L j (g, b')) ∧ b'.real = b.real ∧ Ext (fun k => k = g) w w' := fun h0 p' => by
    have hs0 : src = [] := List.length_eq_zero_iff.1 (by rw [hs, h0, Nat.zero_mul])
    subst hs0
    refine ⟨b, w, ?_, ha, by rw [setE_self L j _ hj]; exact hm, rfl, Ext.refl _ _⟩
    rw [h0]
    exact run_copy0 hT hts hq h0 (by cases p' with | none => exact .inl rfl | some a => exact .inr ⟨a, rfl⟩)
  rcases ha.cases' with ⟨h2, h3, _⟩ | ⟨l, rfl, rfl, hnc, hll, htk⟩
  · exact none_ (by omega) _
  · by_cases hco : cap = o
    · exact none_ (by omega) _
    · have hsp : slp (some ⟨g, 0, none⟩) cap o es = some ⟨g, o * es, none⟩ := by unfold slp; rw [if_neg hco]; simp
      have hle2 : n * es ≤ cap * es := Nat.mul_le_mul_right _ hnc
      have hle3 : o * es + (n - o) * es = n * es := by rw [← Nat.add_mul]; congr 1; omega
      have hle4 : min sl (n - o) * es ≤ (n - o) * es := Nat.mul_le_mul_right _ (Nat.min_le_right _ _)
      have hcl := ha.len
      rw [hsp]
      refine ⟨.row e (upds l (o * es) src), _, run_copy hT hts (hm.get hj) (by omega) hq hs h1, ⟨by rw [upds_length, hcl], .inr ⟨_, rfl, rfl, hnc, by rw [upds_length, hll], ?_⟩⟩, ?_, rfl, ?_⟩
      · rw [upds_eq src l _ (by omega), upds_eq src cells _ (by omega), ← htk, List.take_append, List.take_append]
        simp only [List.length_take, List.length_append, List.take_take, List.drop_take]
        have e1 : min (n * es) (o * es) = o * es := by omega
        have e2 : min (o * es) (n * es) = o * es := by omega
        have e3 : min (o * es) l.length = o * es := by omega
        rw [e1, e2, e3, List.take_of_length_le (l := src) (by omega)]
      · rw [← setB_eq L j g _ _ hj]
        exact setRow_mem hm hj
      · refine ⟨rfl, rfl, rfl, by simp [World.setRow], fun k hk hne => ?_⟩
        simp only [World.setRow, Array.getElem?_modify]
        rw [if_neg (by intro e; exact hne e.symm)]
section
variable {P : Program} {r : Option Nat} {k : Ks} {ops : Array Oper} {md : Md} {n : Nat} {D : List Deferred} {S : List (Nat × Value)} {w : World} {i : Nat} {t : Tr}
variable {ty : TypeId} {pos : String} {af : Array Edge} {g : Option (Nat × Bool)} {dst : Option Tmp} {d : Nat} {w0 : World} {X : Bs} {L : List (Nat × Blk)}
theorem a_copyN {b0 : World} {Y : Bs} {T e es bs : Nat} {x y : Operand} {ts : Array TypeId} {p q : Option Addr} {na cap o dl dc sl sc gg : Nat} {b : Blk} {cells src : List Value}
    (ho : opu ops S i = some (⟨dst, .call ⟨.builtin .copy, #[x, y], ts⟩, ty, pos, af, g⟩, d)) (hd : Nat.blt d n = true) (hx : ev S x = some (.slice (slp p cap o es) dl dc)) (hy : ev S y = some (.slice q sl sc)) (hts : ts[0]? = some T)
    (hT : slcO P T = some (e, es, bs)) (hdl : dl = na - o) (hle : o ≤ na) (hq : Rd w q src) (hs : src.length = min sl (na - o) * es) (h1 : src.all (·.oneCell') = true) (ha : Acc e es p na cap cells gg b)
    (hm : Mem w0 w X L) (j : Nat) (hj : blk L j = some (gg, b)) (hh : Hold (some (b0, Y)) w) (hY : Y gg)
    (h : ∀ b' w', Acc e es p na cap (upds cells (o * es) src) gg b' → Mem w0 w' X (setE L j (gg, b')) → Hold (some (b0, Y)) w' → HR P r k ops (some (b0, Y)) n D ((d, .int .i64 (min sl (na - o) : Nat)) :: S) t w') : HR P r k ops (some (b0, Y)) n D S (.act i t) w := by
  subst hdl
  obtain ⟨b', w', hrun, ha', hm', _, hx'⟩ := ha.copy (dc := dc) (sc := sc) (ty := ty) hm j hj hle hT hts hq hs h1
  have hh' := hh.turn hx' (fun k hk => by rw [hk]; exact hY)
  refine a_val ho hd rfl (fun a hf => ?_) hh' (h b' w' ha' hm' hh')
  simp only [execOp, resolve, List.map_toArray, List.map_cons, List.map_nil, hf.eval hx, hf.eval hy, Sem.run_bind, Sem.run_pure, Result.andThen_ok, invoke, builtin, hrun]
end
end Go.Cx
