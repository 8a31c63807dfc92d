/- Facts of the program that the row of TopBack asks for, reckoned one by one. No condition. -/
import Derived.Test.YtaehgpeenaomcaaGreatRows
import Derived.WalkKit
import Derived.ProofKit
import Derived.OpenShut
import Derived.JoinedCond
namespace Go.Proofs.YtaehgpeenaomcaaGreat.topBack
open Go Go.ChangeShapes Go.WideShapes Go.ChangeAt Go.RowKit
theorem and_t {a b : Bool} (ha : a = true) (hb : b = true) : (a && b) = true := by rw [ha, hb]; rfl
set_option maxHeartbeats 8000000 in
theorem joined : joinedFacts Tryz.checked.prog 5 Tryz.f5 Rows.topBackSpec Rows.topBackRow = true := by
  unfold joinedFacts
  repeat' (with_reducible refine and_t ?_ ?_)
  all_goals decide +kernel
end Go.Proofs.YtaehgpeenaomcaaGreat.topBack
