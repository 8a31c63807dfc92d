/- Calls of the concrete walk, reckoned by the kernel. No condition. -/
import Derived.Test.YtaehgpeenaomcaaGreatEwV
namespace Go.Ev
set_option maxRecDepth 100000
open Go
theorem k89_8 (mb : Bool) : enB (env mb) .nil 1000000 89 e89_8 = true := by kernel_rfl
theorem k89_9 (mb : Bool) : enB (env mb) .nil 1000000 89 e89_9 = true := by kernel_rfl
theorem k89_10 (mb : Bool) : enB (env mb) .nil 1000000 89 e89_10 = true := by kernel_rfl
theorem k89_11 (mb : Bool) : enB (env mb) .nil 1000000 89 e89_11 = true := by kernel_rfl
theorem k89_12 (mb : Bool) : enB (env mb) .nil 1000000 89 e89_12 = true := by kernel_rfl
theorem k89_13 (mb : Bool) : enB (env mb) .nil 1000000 89 e89_13 = true := by kernel_rfl
theorem k199_1 (mb : Bool) : enB (env mb) .nil 1000000 199 e199_1 = true := by kernel_rfl
theorem k199_2 (mb : Bool) : enB (env mb) .nil 1000000 199 e199_2 = true := by kernel_rfl
end Go.Ev
