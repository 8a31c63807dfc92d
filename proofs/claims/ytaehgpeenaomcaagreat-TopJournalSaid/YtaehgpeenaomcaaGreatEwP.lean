/- The one global of the program: some integer. No condition. -/
import Derived.Test.YtaehgpeenaomcaaGreatEwO
namespace Go.Ev
open Go
/-- block 0 is an integer that may be turned -/
def GlobZ (w : World) : Prop := ∃ (z : Int) (e : TypeId) (fz : Nat × Nat), w.heap[0]? = some (.cells #[.int .i64 z] e fz) ∧ (∀ j, j < 1 → ¬ (fz.1 ≤ j ∧ j < fz.2)) ∧ fz.1 ≤ fz.2
theorem GlobZ.to {w w' : World} (h : GlobZ w) (hx : Cx.Ext Cx.No w w') : GlobZ w' := by
  obtain ⟨z, e, fz, h1, h2⟩ := h
  exact ⟨z, e, fz, (hx.same 0 (Array.getElem?_eq_some_iff.1 h1).1 id).trans h1, h2⟩
end Go.Ev
