/- Contracts of functions of the program: what each returns. Conditions: the hypotheses of each theorem. -/
import Derived.Test.YtlgkhajmjgepaaaNwD
set_option linter.unusedVariables false
set_option linter.unusedSimpArgs false
namespace Go.Proofs.Ytlgkhajmjgepaaa
open Go Go.Cx



theorem bestR_snoc {F : List RcV} (e : RcV) (h : F ≠ []) : bestR (F ++ [e]) = if (bestR F).sq < e.sq then e else bestR F := by
  cases F with
  | nil => exact absurd rfl h
  | cons x r =>
    rw [List.cons_append]
    simp only [bestR, List.foldl_append, List.foldl_cons, List.foldl_nil]
    rfl
/-- the reference's place holds the best of the records with the number -/
theorem newI_best (k : Int) (xs : List RcV) : ∀ i, i ≤ xs.length → ((newI k (xs.take i)).1 = -1 ∧ (xs.take i).filter (fun x => decide (x.id = k)) = []) ∨
    ∃ j : Nat, (newI k (xs.take i)).1 = (j : Int) ∧ (xs.take i).filter (fun x => decide (x.id = k)) ≠ [] ∧ xs[j]? = some (bestR ((xs.take i).filter (fun x => decide (x.id = k)))) ∧ (newI k (xs.take i)).2 = (bestR ((xs.take i).filter (fun x => decide (x.id = k)))).sq
  | 0, _ => .inl ⟨rfl, rfl⟩
  | i + 1, h => by
    obtain ⟨e, he⟩ : ∃ e, xs[i]? = some e := ⟨_, List.getElem?_eq_getElem (by omega)⟩
    have ih := newI_best k xs i (by omega)
    rw [newI_next he, List.take_add_one, he, Option.toList, List.filter_append]
    by_cases hid : e.id = k
    · rw [List.filter_cons_of_pos (by simpa using hid), List.filter_nil]
      rcases ih with ⟨h1, h2⟩ | ⟨j, h1, h2, h3, h4⟩
      · rw [if_pos ⟨hid, .inl (by omega)⟩, h2]
        exact .inr ⟨i, rfl, by simp, he, rfl⟩
      · rw [bestR_snoc e h2]
        by_cases hlt : (bestR ((xs.take i).filter (fun x => decide (x.id = k)))).sq < e.sq
        · rw [if_pos ⟨hid, .inr (by rw [h4]; exact hlt)⟩, if_pos hlt]
          exact .inr ⟨i, rfl, by simp, he, rfl⟩
        · rw [if_neg (fun h9 => h9.2.elim (fun h8 => by omega) (fun h8 => hlt (by rw [← h4]; exact h8))), if_neg hlt]
          exact .inr ⟨j, h1, by simp, h3, h4⟩
    · rw [if_neg (fun h9 => hid h9.1), List.filter_cons_of_neg (by simpa using hid), List.filter_nil, List.append_nil]
      exact ih
theorem new_same (k : Int) (xs : List RcV) : newR k xs = bestR (xs.filter fun x => decide (x.id = k)) ∧ decide (0 ≤ (newI k xs).1) = decide (0 < (xs.filter fun x => decide (x.id = k)).length) := by
  have h := newI_best k xs xs.length (Nat.le_refl _)
  rw [List.take_length] at h
  rcases h with ⟨h1, h2⟩ | ⟨j, h1, h2, h3, h4⟩
  · rw [h2]
    unfold newR
    rw [if_pos (by omega), h1]
    exact ⟨rfl, rfl⟩
  · refine ⟨?_, ?_⟩
    · unfold newR
      rw [if_neg (by omega), h1, Int.toNat_natCast, List.getD_eq_getElem?_getD, h3]
      rfl
    · rw [decide_eq_true (by omega), decide_eq_true (List.length_pos_iff.2 h2)]

end Go.Proofs.Ytlgkhajmjgepaaa
