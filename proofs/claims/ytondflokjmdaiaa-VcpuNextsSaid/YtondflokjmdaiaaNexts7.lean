/- VcpuNexts, where the state is above 5: the machine of unknowns goes every way through the law, and each ends in true. -/
import Derived.Test.YtondflokjmdaiaaNextsA
import Derived.KernelRfl
namespace Go.Proofs.Ytondflokjmdaiaa.vcpuNexts
open Go.SE
set_option maxRecDepth 100000 in
theorem n7 : topB Try.prog tbl16 10000 3 [cpuOf (.v 0), .cv (.i .i64 (.v 7)), .cv (.i .i64 (.v 8))] ⟨[], []⟩ [.le (.c 6) (.v 0)] = true := by kernel_rfl
end Go.Proofs.Ytondflokjmdaiaa.vcpuNexts
