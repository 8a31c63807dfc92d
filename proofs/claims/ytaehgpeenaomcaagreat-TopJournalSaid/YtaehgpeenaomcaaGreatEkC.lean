/- Calls of the concrete walk, reckoned by the kernel. No condition. -/
import Derived.Test.YtaehgpeenaomcaaGreatEwV
namespace Go.Ev
set_option maxRecDepth 100000
open Go
theorem k77_1 (mb : Bool) : enB (env mb) tb1 1000000 77 e77_1 = true := by kernel_rfl
theorem k77_2 (mb : Bool) : enB (env mb) tb1 1000000 77 e77_2 = true := by kernel_rfl
end Go.Ev
