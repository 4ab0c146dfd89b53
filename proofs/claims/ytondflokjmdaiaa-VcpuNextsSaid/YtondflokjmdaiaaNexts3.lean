/- VcpuNexts, where the state is 3, parted by the event: the machine of unknowns goes every way through the law, and each ends in true. -/
import Derived.Test.YtondflokjmdaiaaNextsA
import Derived.KernelRfl
namespace Go.Proofs.Ytondflokjmdaiaa.vcpuNexts
open Go.SE
set_option maxRecDepth 100000 in
theorem n3_1 : topB Try.prog tbl16 10000 3 [cpuOf (.c 3), .cv (.i .i64 (.c 1)), .cv (.i .i64 (.v 8))] ⟨[], []⟩ [] = true := by kernel_rfl
set_option maxRecDepth 100000 in
theorem n3_2 : topB Try.prog tbl16 10000 3 [cpuOf (.c 3), .cv (.i .i64 (.c 2)), .cv (.i .i64 (.v 8))] ⟨[], []⟩ [] = true := by kernel_rfl
set_option maxRecDepth 100000 in
theorem n3_3 : topB Try.prog tbl16 10000 3 [cpuOf (.c 3), .cv (.i .i64 (.c 3)), .cv (.i .i64 (.v 8))] ⟨[], []⟩ [] = true := by kernel_rfl
set_option maxRecDepth 100000 in
theorem n3_4 : topB Try.prog tbl16 10000 3 [cpuOf (.c 3), .cv (.i .i64 (.c 4)), .cv (.i .i64 (.v 8))] ⟨[], []⟩ [] = true := by kernel_rfl
set_option maxRecDepth 100000 in
theorem n3_5 : topB Try.prog tbl16 10000 3 [cpuOf (.c 3), .cv (.i .i64 (.c 5)), .cv (.i .i64 (.v 8))] ⟨[], []⟩ [] = true := by kernel_rfl
set_option maxRecDepth 100000 in
theorem n3_6 : topB Try.prog tbl16 10000 3 [cpuOf (.c 3), .cv (.i .i64 (.c 6)), .cv (.i .i64 (.v 8))] ⟨[], []⟩ [] = true := by kernel_rfl
set_option maxRecDepth 100000 in
theorem n3_7 : topB Try.prog tbl16 10000 3 [cpuOf (.c 3), .cv (.i .i64 (.c 7)), .cv (.i .i64 (.v 8))] ⟨[], []⟩ [] = true := by kernel_rfl
set_option maxRecDepth 100000 in
theorem n3_8 : topB Try.prog tbl16 10000 3 [cpuOf (.c 3), .cv (.i .i64 (.c 8)), .cv (.i .i64 (.v 8))] ⟨[], []⟩ [] = true := by kernel_rfl
set_option maxRecDepth 100000 in
theorem n3_lo : topB Try.prog tbl16 10000 3 [cpuOf (.c 3), .cv (.i .i64 (.v 7)), .cv (.i .i64 (.v 8))] ⟨[], []⟩ [.lt (.v 7) (.c 1)] = true := by kernel_rfl
set_option maxRecDepth 100000 in
theorem n3_hi : topB Try.prog tbl16 10000 3 [cpuOf (.c 3), .cv (.i .i64 (.v 7)), .cv (.i .i64 (.v 8))] ⟨[], []⟩ [.le (.c 9) (.v 7)] = true := by kernel_rfl
end Go.Proofs.Ytondflokjmdaiaa.vcpuNexts
