/- VcpuNexts, where the state is 2: the machine of unknowns goes every way through the law, and each ends in true. -/
import Derived.Test.YtondflokjmdaiaaNextsA
import Derived.KernelRfl
namespace Go.Proofs.Ytondflokjmdaiaa.vcpuNexts
open Go.SE
set_option maxRecDepth 100000 in
theorem n2 : topB Try.prog tbl16 10000 3 [cpuOf (.c 2), .cv (.i .i64 (.v 7)), .cv (.i .i64 (.v 8))] ⟨[], []⟩ [] = true := by kernel_rfl
end Go.Proofs.Ytondflokjmdaiaa.vcpuNexts
