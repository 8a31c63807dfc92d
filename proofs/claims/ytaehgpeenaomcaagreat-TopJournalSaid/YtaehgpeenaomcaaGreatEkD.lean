/- The function runs, reckoned by the kernel: it comes to true and to nothing else. No condition. -/
import Derived.Test.YtaehgpeenaomcaaGreatEwV
import Derived.Test.YtaehgpeenaomcaaGreatEwO
namespace Go.Ev
set_option maxRecDepth 100000
open Go
theorem k7_t : runB (env true) tb2 1000000 7 = true := by kernel_rfl
theorem k7_f : runB (env false) tb2 1000000 7 = true := by kernel_rfl
theorem k7 (mb : Bool) : runB (env mb) tb2 1000000 7 = true := by
  cases mb
  · exact k7_f
  · exact k7_t
end Go.Ev
