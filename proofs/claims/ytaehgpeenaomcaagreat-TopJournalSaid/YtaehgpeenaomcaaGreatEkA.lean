/- Calls of the concrete walk, reckoned by the kernel. No condition. -/
import Derived.Test.YtaehgpeenaomcaaGreatEwV
namespace Go.Ev
set_option maxRecDepth 100000
open Go
theorem k89_1 (mb : Bool) : enB (env mb) .nil 1000000 89 e89_1 = true := by kernel_rfl
theorem k89_2 (mb : Bool) : enB (env mb) .nil 1000000 89 e89_2 = true := by kernel_rfl
theorem k89_3 (mb : Bool) : enB (env mb) .nil 1000000 89 e89_3 = true := by kernel_rfl
theorem k89_4 (mb : Bool) : enB (env mb) .nil 1000000 89 e89_4 = true := by kernel_rfl
theorem k89_5 (mb : Bool) : enB (env mb) .nil 1000000 89 e89_5 = true := by kernel_rfl
theorem k89_6 (mb : Bool) : enB (env mb) .nil 1000000 89 e89_6 = true := by kernel_rfl
theorem k89_7 (mb : Bool) : enB (env mb) .nil 1000000 89 e89_7 = true := by kernel_rfl
end Go.Ev
