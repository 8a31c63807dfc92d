/- Contracts of functions of the program: what each returns. Conditions: the hypotheses of each theorem. -/
import Derived.Test.YtlgkhajmjgepaaaNwB
set_option linter.unusedVariables false
set_option linter.unusedSimpArgs false
namespace Go.Proofs.Ytlgkhajmjgepaaa
open Go Go.Cx



/-- the place of the first record of number k that has the greatest sequence number, and -1 if there is none -/
def newJ (k : Int) : List RcV → Nat → Int × Int → Int × Int
  | [], _, b => b
  | x :: r, i, b => newJ k r (i + 1) (if x.id = k ∧ (b.1 < 0 ∨ b.2 < x.sq) then ((i : Int), x.sq) else b)
def newI (k : Int) (xs : List RcV) : Int × Int := newJ k xs 0 (-1, 0)
theorem newJ_snoc (k : Int) (e : RcV) : ∀ (xs : List RcV) (i : Nat) (b : Int × Int), newJ k (xs ++ [e]) i b = (if e.id = k ∧ ((newJ k xs i b).1 < 0 ∨ (newJ k xs i b).2 < e.sq) then (((i + xs.length : Nat) : Int), e.sq) else newJ k xs i b)
  | [], i, b => rfl
  | x :: r, i, b => by
    show newJ k (r ++ [e]) (i + 1) _ = _
    rw [newJ_snoc k e r (i + 1)]
    rw [show i + 1 + r.length = i + (x :: r).length by simp only [List.length_cons]; omega]
    rfl
theorem newI_next {k : Int} {xs : List RcV} {i : Nat} {e : RcV} (h : xs[i]? = some e) : newI k (xs.take (i + 1)) = if e.id = k ∧ ((newI k (xs.take i)).1 < 0 ∨ (newI k (xs.take i)).2 < e.sq) then ((i : Int), e.sq) else newI k (xs.take i) := by
  have hl := (List.getElem?_eq_some_iff.1 h).1
  unfold newI
  rw [List.take_add_one, h, Option.toList, newJ_snoc, List.length_take, Nat.min_eq_left (by omega), Nat.zero_add]
theorem newI_at {k : Int} : ∀ (xs : List RcV) (i : Nat), i ≤ xs.length → (newI k (xs.take i)).1 = -1 ∨ ∃ (j : Nat) (e : RcV), j < i ∧ (newI k (xs.take i)).1 = (j : Int) ∧ xs[j]? = some e ∧ e.sq = (newI k (xs.take i)).2
  | xs, 0, _ => .inl rfl
  | xs, i + 1, h => by
    obtain ⟨e, he⟩ : ∃ e, xs[i]? = some e := ⟨_, List.getElem?_eq_getElem (by omega)⟩
    rw [newI_next he]
    split
    · exact .inr ⟨i, e, by omega, rfl, he, rfl⟩
    · rcases newI_at xs i (by omega) with h1 | ⟨j, e1, h1, h2, h3, h4⟩
      · exact .inl h1
      · exact .inr ⟨j, e1, by omega, h2, h3, h4⟩

end Go.Proofs.Ytlgkhajmjgepaaa
