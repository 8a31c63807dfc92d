/- Glue for the laws of devices. No condition. -/
import Derived.Test.YthokcfkcamcapaaCxV
namespace Go.Pl
set_option linter.unusedVariables false
set_option linter.unusedSimpArgs false
theorem new_zero (a c : Nat) (b : List UInt8) : ((nDv a c b).dk.drop b.length).any (fun x => decide (x ≠ 0)) = false := by
  show ((b ++ List.replicate (c * a - b.length) 0).drop b.length).any _ = false
  rw [List.drop_left, List.any_eq_false]
  intro x hx
  rw [(List.mem_replicate.1 hx).2]
  decide
theorem new_take (a c : Nat) (b : List UInt8) : (nDv a c b).dk.take b.length = b := by
  show (b ++ List.replicate (c * a - b.length) 0).take b.length = b
  exact List.take_left
theorem right_of {x y n : Int} (h : right x y n = true) : 1 ≤ x ∧ 1 ≤ y ∧ x * y ≤ 1048576 ∧ n ≤ x * y := by
  unfold right at h
  exact of_decide_eq_true h
end Go.Pl
