/- Walks: distances in a coupling graph. -/
import Derived.Test.YtgghmjijjdboeaaCg4
import Derived.Test.YtgghmjijjdboeaaDist
import Derived.Test.YtgghmjijjdboeaaProg
set_option linter.unusedSimpArgs false
set_option linter.unusedVariables false
namespace Go.Proofs.Ytgghmjijjdboeaa
open Go Go.RowKit
namespace DsT
theorem Tagg_25 : aggOf Try.prog 25 = some 2 := by kernel_rfl
theorem Tcall_14 : callable Try.prog 14 = true := by kernel_rfl
theorem Tcall_39 : callable Try.prog 39 = true := by kernel_rfl
theorem Tcall_42 : callable Try.prog 42 = true := by kernel_rfl
theorem Tcall_53 : callable Try.prog 53 = true := by kernel_rfl
theorem Tcall_69 : callable Try.prog 69 = true := by kernel_rfl
theorem Tcall_70 : callable Try.prog 70 = true := by kernel_rfl
theorem Tcall_80 : callable Try.prog 80 = true := by kernel_rfl
theorem Tcall_87 : callable Try.prog 87 = true := by kernel_rfl
theorem Tfo_25_0 : fieldOff Try.prog 25 0 = some 0 := by kernel_rfl
theorem Tint_3 : Try.prog.underlying 3 = some (.int .i64) := by kernel_rfl
theorem Tint_88 : Try.prog.underlying 88 = some (.int .u64) := by kernel_rfl
theorem Tone_3 : oneOf Try.prog 3 = true := by kernel_rfl
theorem Tsize_3 : (Try.prog.info? 3).map (·.size) = some 1 := by kernel_rfl
theorem Tsl_34 : sliceOf Try.prog 34 = some (3, 1, 8, [.int .i64 0]) := by kernel_rfl
theorem Tsome_3 : (Try.prog.underlying 3).isSome = true := by kernel_rfl
theorem Tsome_88 : (Try.prog.underlying 88).isSome = true := by kernel_rfl
end DsT
open DsT
set_option maxHeartbeats 1000000 in
set_option maxRecDepth 20000 in
theorem Mul64_1 (w : World) : Calls Try.prog 87 #[.int .u64 1, .int .u64 1] w (Post No w fun v _ => v = .tuple #[.int .u64 0, .int .u64 1]) := by
  refine enter (n := 51) (args := [.int .u64 1, .int .u64 1]) Try.func87 rfl rfl (St.empty _ _) ?_
  refine Run.seq ?_
  refine Run.region ?_
  refine Run.q (v := .int .u64 0) rfl (OpQ.y (OpY.pure rfl)) ?_
  refine Run.q (v := .int .u64 0) rfl (OpQ.y (OpY.pure rfl)) ?_
  refine Run.done ?_
  refine Run.seq ?_
  refine Run.region ?_
  refine Run.q (v := .int .u64 1) rfl (OpQ.y (OpY.pure rfl)) ?_
  refine Run.q (v := .int .u64 1) rfl (OpQ.y (OpY.pure (by kernel_rfl))) ?_
  refine Run.q (v := .int .u64 1) rfl (OpQ.y (OpY.pure rfl)) ?_
  refine Run.done ?_
  refine Run.seq ?_
  refine Run.region ?_
  refine Run.q (v := .int .u64 1) rfl (OpQ.y (OpY.pure rfl)) ?_
  refine Run.q (v := .int .u64 0) rfl (OpQ.y (OpY.pure (by kernel_rfl))) ?_
  refine Run.q (v := .int .u64 0) rfl (OpQ.y (OpY.pure rfl)) ?_
  refine Run.done ?_
  refine Run.seq ?_
  refine Run.region ?_
  refine Run.q (v := .int .u64 1) rfl (OpQ.y (OpY.pure rfl)) ?_
  refine Run.q (v := .int .u64 1) rfl (OpQ.y (OpY.pure (by kernel_rfl))) ?_
  refine Run.q (v := .int .u64 1) rfl (OpQ.y (OpY.pure rfl)) ?_
  refine Run.done ?_
  refine Run.seq ?_
  refine Run.region ?_
  refine Run.q (v := .int .u64 1) rfl (OpQ.y (OpY.pure rfl)) ?_
  refine Run.q (v := .int .u64 0) rfl (OpQ.y (OpY.pure (by kernel_rfl))) ?_
  refine Run.q (v := .int .u64 0) rfl (OpQ.y (OpY.pure rfl)) ?_
  refine Run.done ?_
  refine Run.seq ?_
  refine Run.region ?_
  refine Run.q (v := .int .u64 1) rfl (OpQ.y (OpY.pure rfl)) ?_
  refine Run.q (v := .int .u64 1) rfl (OpQ.y (OpY.pure rfl)) ?_
  refine Run.q (v := .int .u64 1) rfl (OpQ.y (OpY.pure (by kernel_rfl))) ?_
  refine Run.q (v := .int .u64 1) rfl (OpQ.y (OpY.pure rfl)) ?_
  refine Run.done ?_
  refine Run.seq ?_
  refine Run.region ?_
  refine Run.q (v := .int .u64 0) rfl (OpQ.y (OpY.pure rfl)) ?_
  refine Run.q (v := .int .u64 1) rfl (OpQ.y (OpY.pure rfl)) ?_
  refine Run.q (v := .int .u64 0) rfl (OpQ.y (OpY.pure (by kernel_rfl))) ?_
  refine Run.q (v := .int .u64 1) rfl (OpQ.y (OpY.pure rfl)) ?_
  refine Run.q (v := .int .u64 0) rfl (OpQ.y (OpY.pure (by kernel_rfl))) ?_
  refine Run.q (v := .int .u64 0) rfl (OpQ.y (OpY.pure (by kernel_rfl))) ?_
  refine Run.q (v := .int .u64 0) rfl (OpQ.y (OpY.pure rfl)) ?_
  refine Run.done ?_
  refine Run.seq ?_
  refine Run.region ?_
  refine Run.q (v := .int .u64 0) rfl (OpQ.y (OpY.pure rfl)) ?_
  refine Run.q (v := .int .u64 0) rfl (OpQ.y (OpY.pure (by kernel_rfl))) ?_
  refine Run.q (v := .int .u64 0) rfl (OpQ.y (OpY.pure rfl)) ?_
  refine Run.done ?_
  refine Run.seq ?_
  refine Run.region ?_
  refine Run.q (v := .int .u64 0) rfl (OpQ.y (OpY.pure rfl)) ?_
  refine Run.q (v := .int .u64 0) rfl (OpQ.y (OpY.pure (by kernel_rfl))) ?_
  refine Run.q (v := .int .u64 0) rfl (OpQ.y (OpY.pure rfl)) ?_
  refine Run.done ?_
  refine Run.seq ?_
  refine Run.region ?_
  refine Run.q (v := .int .u64 0) rfl (OpQ.y (OpY.pure rfl)) ?_
  refine Run.q (v := .int .u64 1) rfl (OpQ.y (OpY.pure rfl)) ?_
  refine Run.q (v := .int .u64 0) rfl (OpQ.y (OpY.pure rfl)) ?_
  refine Run.q (v := .int .u64 0) rfl (OpQ.y (OpY.pure (by kernel_rfl))) ?_
  refine Run.q (v := .int .u64 0) rfl (OpQ.y (OpY.pure (by kernel_rfl))) ?_
  refine Run.q (v := .int .u64 0) rfl (OpQ.y (OpY.pure rfl)) ?_
  refine Run.done ?_
  refine Run.seq ?_
  refine Run.region ?_
  refine Run.q (v := .int .u64 0) rfl (OpQ.y (OpY.pure rfl)) ?_
  refine Run.q (v := .int .u64 0) rfl (OpQ.y (OpY.pure rfl)) ?_
  refine Run.q (v := .int .u64 0) rfl (OpQ.y (OpY.pure (by kernel_rfl))) ?_
  refine Run.q (v := .int .u64 0) rfl (OpQ.y (OpY.pure rfl)) ?_
  refine Run.q (v := .int .u64 0) rfl (OpQ.y (OpY.pure (by kernel_rfl))) ?_
  refine Run.q (v := .int .u64 0) rfl (OpQ.y (OpY.pure rfl)) ?_
  refine Run.q (v := .int .u64 0) rfl (OpQ.y (OpY.pure (by kernel_rfl))) ?_
  refine Run.q (v := .int .u64 0) rfl (OpQ.y (OpY.pure (by kernel_rfl))) ?_
  refine Run.q (v := .int .u64 0) rfl (OpQ.y (OpY.pure rfl)) ?_
  refine Run.done ?_
  refine Run.seq ?_
  refine Run.region ?_
  refine Run.q (v := .int .u64 1) rfl (OpQ.y (OpY.pure rfl)) ?_
  refine Run.q (v := .int .u64 1) rfl (OpQ.y (OpY.pure rfl)) ?_
  refine Run.q (v := .int .u64 1) rfl (OpQ.y (OpY.pure (by kernel_rfl))) ?_
  refine Run.q (v := .int .u64 1) rfl (OpQ.y (OpY.pure rfl)) ?_
  refine Run.done ?_
  refine Run.ret ?_
  refine ⟨.tuple #[.int .u64 0, .int .u64 1], [], Out.two rfl rfl rfl, (Some'.weak (.nil _)), ?_⟩
  rfl

set_option maxHeartbeats 1000000 in
set_option maxRecDepth 20000 in
theorem Mul64_2 (w : World) : Calls Try.prog 87 #[.int .u64 1, .int .u64 2] w (Post No w fun v _ => v = .tuple #[.int .u64 0, .int .u64 2]) := by
  refine enter (n := 51) (args := [.int .u64 1, .int .u64 2]) Try.func87 rfl rfl (St.empty _ _) ?_
  refine Run.seq ?_
  refine Run.region ?_
  refine Run.q (v := .int .u64 0) rfl (OpQ.y (OpY.pure rfl)) ?_
  refine Run.q (v := .int .u64 0) rfl (OpQ.y (OpY.pure rfl)) ?_
  refine Run.done ?_
  refine Run.seq ?_
  refine Run.region ?_
  refine Run.q (v := .int .u64 1) rfl (OpQ.y (OpY.pure rfl)) ?_
  refine Run.q (v := .int .u64 1) rfl (OpQ.y (OpY.pure (by kernel_rfl))) ?_
  refine Run.q (v := .int .u64 1) rfl (OpQ.y (OpY.pure rfl)) ?_
  refine Run.done ?_
  refine Run.seq ?_
  refine Run.region ?_
  refine Run.q (v := .int .u64 1) rfl (OpQ.y (OpY.pure rfl)) ?_
  refine Run.q (v := .int .u64 0) rfl (OpQ.y (OpY.pure (by kernel_rfl))) ?_
  refine Run.q (v := .int .u64 0) rfl (OpQ.y (OpY.pure rfl)) ?_
  refine Run.done ?_
  refine Run.seq ?_
  refine Run.region ?_
  refine Run.q (v := .int .u64 2) rfl (OpQ.y (OpY.pure rfl)) ?_
  refine Run.q (v := .int .u64 2) rfl (OpQ.y (OpY.pure (by kernel_rfl))) ?_
  refine Run.q (v := .int .u64 2) rfl (OpQ.y (OpY.pure rfl)) ?_
  refine Run.done ?_
  refine Run.seq ?_
  refine Run.region ?_
  refine Run.q (v := .int .u64 2) rfl (OpQ.y (OpY.pure rfl)) ?_
  refine Run.q (v := .int .u64 0) rfl (OpQ.y (OpY.pure (by kernel_rfl))) ?_
  refine Run.q (v := .int .u64 0) rfl (OpQ.y (OpY.pure rfl)) ?_
  refine Run.done ?_
  refine Run.seq ?_
  refine Run.region ?_
  refine Run.q (v := .int .u64 1) rfl (OpQ.y (OpY.pure rfl)) ?_
  refine Run.q (v := .int .u64 2) rfl (OpQ.y (OpY.pure rfl)) ?_
  refine Run.q (v := .int .u64 2) rfl (OpQ.y (OpY.pure (by kernel_rfl))) ?_
  refine Run.q (v := .int .u64 2) rfl (OpQ.y (OpY.pure rfl)) ?_
  refine Run.done ?_
  refine Run.seq ?_
  refine Run.region ?_
  refine Run.q (v := .int .u64 0) rfl (OpQ.y (OpY.pure rfl)) ?_
  refine Run.q (v := .int .u64 2) rfl (OpQ.y (OpY.pure rfl)) ?_
  refine Run.q (v := .int .u64 0) rfl (OpQ.y (OpY.pure (by kernel_rfl))) ?_
  refine Run.q (v := .int .u64 2) rfl (OpQ.y (OpY.pure rfl)) ?_
  refine Run.q (v := .int .u64 0) rfl (OpQ.y (OpY.pure (by kernel_rfl))) ?_
  refine Run.q (v := .int .u64 0) rfl (OpQ.y (OpY.pure (by kernel_rfl))) ?_
  refine Run.q (v := .int .u64 0) rfl (OpQ.y (OpY.pure rfl)) ?_
  refine Run.done ?_
  refine Run.seq ?_
  refine Run.region ?_
  refine Run.q (v := .int .u64 0) rfl (OpQ.y (OpY.pure rfl)) ?_
  refine Run.q (v := .int .u64 0) rfl (OpQ.y (OpY.pure (by kernel_rfl))) ?_
  refine Run.q (v := .int .u64 0) rfl (OpQ.y (OpY.pure rfl)) ?_
  refine Run.done ?_
  refine Run.seq ?_
  refine Run.region ?_
  refine Run.q (v := .int .u64 0) rfl (OpQ.y (OpY.pure rfl)) ?_
  refine Run.q (v := .int .u64 0) rfl (OpQ.y (OpY.pure (by kernel_rfl))) ?_
  refine Run.q (v := .int .u64 0) rfl (OpQ.y (OpY.pure rfl)) ?_
  refine Run.done ?_
  refine Run.seq ?_
  refine Run.region ?_
  refine Run.q (v := .int .u64 0) rfl (OpQ.y (OpY.pure rfl)) ?_
  refine Run.q (v := .int .u64 1) rfl (OpQ.y (OpY.pure rfl)) ?_
  refine Run.q (v := .int .u64 0) rfl (OpQ.y (OpY.pure rfl)) ?_
  refine Run.q (v := .int .u64 0) rfl (OpQ.y (OpY.pure (by kernel_rfl))) ?_
  refine Run.q (v := .int .u64 0) rfl (OpQ.y (OpY.pure (by kernel_rfl))) ?_
  refine Run.q (v := .int .u64 0) rfl (OpQ.y (OpY.pure rfl)) ?_
  refine Run.done ?_
  refine Run.seq ?_
  refine Run.region ?_
  refine Run.q (v := .int .u64 0) rfl (OpQ.y (OpY.pure rfl)) ?_
  refine Run.q (v := .int .u64 0) rfl (OpQ.y (OpY.pure rfl)) ?_
  refine Run.q (v := .int .u64 0) rfl (OpQ.y (OpY.pure (by kernel_rfl))) ?_
  refine Run.q (v := .int .u64 0) rfl (OpQ.y (OpY.pure rfl)) ?_
  refine Run.q (v := .int .u64 0) rfl (OpQ.y (OpY.pure (by kernel_rfl))) ?_
  refine Run.q (v := .int .u64 0) rfl (OpQ.y (OpY.pure rfl)) ?_
  refine Run.q (v := .int .u64 0) rfl (OpQ.y (OpY.pure (by kernel_rfl))) ?_
  refine Run.q (v := .int .u64 0) rfl (OpQ.y (OpY.pure (by kernel_rfl))) ?_
  refine Run.q (v := .int .u64 0) rfl (OpQ.y (OpY.pure rfl)) ?_
  refine Run.done ?_
  refine Run.seq ?_
  refine Run.region ?_
  refine Run.q (v := .int .u64 1) rfl (OpQ.y (OpY.pure rfl)) ?_
  refine Run.q (v := .int .u64 2) rfl (OpQ.y (OpY.pure rfl)) ?_
  refine Run.q (v := .int .u64 2) rfl (OpQ.y (OpY.pure (by kernel_rfl))) ?_
  refine Run.q (v := .int .u64 2) rfl (OpQ.y (OpY.pure rfl)) ?_
  refine Run.done ?_
  refine Run.ret ?_
  refine ⟨.tuple #[.int .u64 0, .int .u64 2], [], Out.two rfl rfl rfl, (Some'.weak (.nil _)), ?_⟩
  rfl

set_option maxHeartbeats 1000000 in
set_option maxRecDepth 20000 in
theorem Mul64_3 (w : World) : Calls Try.prog 87 #[.int .u64 1, .int .u64 3] w (Post No w fun v _ => v = .tuple #[.int .u64 0, .int .u64 3]) := by
  refine enter (n := 51) (args := [.int .u64 1, .int .u64 3]) Try.func87 rfl rfl (St.empty _ _) ?_
  refine Run.seq ?_
  refine Run.region ?_
  refine Run.q (v := .int .u64 0) rfl (OpQ.y (OpY.pure rfl)) ?_
  refine Run.q (v := .int .u64 0) rfl (OpQ.y (OpY.pure rfl)) ?_
  refine Run.done ?_
  refine Run.seq ?_
  refine Run.region ?_
  refine Run.q (v := .int .u64 1) rfl (OpQ.y (OpY.pure rfl)) ?_
  refine Run.q (v := .int .u64 1) rfl (OpQ.y (OpY.pure (by kernel_rfl))) ?_
  refine Run.q (v := .int .u64 1) rfl (OpQ.y (OpY.pure rfl)) ?_
  refine Run.done ?_
  refine Run.seq ?_
  refine Run.region ?_
  refine Run.q (v := .int .u64 1) rfl (OpQ.y (OpY.pure rfl)) ?_
  refine Run.q (v := .int .u64 0) rfl (OpQ.y (OpY.pure (by kernel_rfl))) ?_
  refine Run.q (v := .int .u64 0) rfl (OpQ.y (OpY.pure rfl)) ?_
  refine Run.done ?_
  refine Run.seq ?_
  refine Run.region ?_
  refine Run.q (v := .int .u64 3) rfl (OpQ.y (OpY.pure rfl)) ?_
  refine Run.q (v := .int .u64 3) rfl (OpQ.y (OpY.pure (by kernel_rfl))) ?_
  refine Run.q (v := .int .u64 3) rfl (OpQ.y (OpY.pure rfl)) ?_
  refine Run.done ?_
  refine Run.seq ?_
  refine Run.region ?_
  refine Run.q (v := .int .u64 3) rfl (OpQ.y (OpY.pure rfl)) ?_
  refine Run.q (v := .int .u64 0) rfl (OpQ.y (OpY.pure (by kernel_rfl))) ?_
  refine Run.q (v := .int .u64 0) rfl (OpQ.y (OpY.pure rfl)) ?_
  refine Run.done ?_
  refine Run.seq ?_
  refine Run.region ?_
  refine Run.q (v := .int .u64 1) rfl (OpQ.y (OpY.pure rfl)) ?_
  refine Run.q (v := .int .u64 3) rfl (OpQ.y (OpY.pure rfl)) ?_
  refine Run.q (v := .int .u64 3) rfl (OpQ.y (OpY.pure (by kernel_rfl))) ?_
  refine Run.q (v := .int .u64 3) rfl (OpQ.y (OpY.pure rfl)) ?_
  refine Run.done ?_
  refine Run.seq ?_
  refine Run.region ?_
  refine Run.q (v := .int .u64 0) rfl (OpQ.y (OpY.pure rfl)) ?_
  refine Run.q (v := .int .u64 3) rfl (OpQ.y (OpY.pure rfl)) ?_
  refine Run.q (v := .int .u64 0) rfl (OpQ.y (OpY.pure (by kernel_rfl))) ?_
  refine Run.q (v := .int .u64 3) rfl (OpQ.y (OpY.pure rfl)) ?_
  refine Run.q (v := .int .u64 0) rfl (OpQ.y (OpY.pure (by kernel_rfl))) ?_
  refine Run.q (v := .int .u64 0) rfl (OpQ.y (OpY.pure (by kernel_rfl))) ?_
  refine Run.q (v := .int .u64 0) rfl (OpQ.y (OpY.pure rfl)) ?_
  refine Run.done ?_
  refine Run.seq ?_
  refine Run.region ?_
  refine Run.q (v := .int .u64 0) rfl (OpQ.y (OpY.pure rfl)) ?_
  refine Run.q (v := .int .u64 0) rfl (OpQ.y (OpY.pure (by kernel_rfl))) ?_
  refine Run.q (v := .int .u64 0) rfl (OpQ.y (OpY.pure rfl)) ?_
  refine Run.done ?_
  refine Run.seq ?_
  refine Run.region ?_
  refine Run.q (v := .int .u64 0) rfl (OpQ.y (OpY.pure rfl)) ?_
  refine Run.q (v := .int .u64 0) rfl (OpQ.y (OpY.pure (by kernel_rfl))) ?_
  refine Run.q (v := .int .u64 0) rfl (OpQ.y (OpY.pure rfl)) ?_
  refine Run.done ?_
  refine Run.seq ?_
  refine Run.region ?_
  refine Run.q (v := .int .u64 0) rfl (OpQ.y (OpY.pure rfl)) ?_
  refine Run.q (v := .int .u64 1) rfl (OpQ.y (OpY.pure rfl)) ?_
  refine Run.q (v := .int .u64 0) rfl (OpQ.y (OpY.pure rfl)) ?_
  refine Run.q (v := .int .u64 0) rfl (OpQ.y (OpY.pure (by kernel_rfl))) ?_
  refine Run.q (v := .int .u64 0) rfl (OpQ.y (OpY.pure (by kernel_rfl))) ?_
  refine Run.q (v := .int .u64 0) rfl (OpQ.y (OpY.pure rfl)) ?_
  refine Run.done ?_
  refine Run.seq ?_
  refine Run.region ?_
  refine Run.q (v := .int .u64 0) rfl (OpQ.y (OpY.pure rfl)) ?_
  refine Run.q (v := .int .u64 0) rfl (OpQ.y (OpY.pure rfl)) ?_
  refine Run.q (v := .int .u64 0) rfl (OpQ.y (OpY.pure (by kernel_rfl))) ?_
  refine Run.q (v := .int .u64 0) rfl (OpQ.y (OpY.pure rfl)) ?_
  refine Run.q (v := .int .u64 0) rfl (OpQ.y (OpY.pure (by kernel_rfl))) ?_
  refine Run.q (v := .int .u64 0) rfl (OpQ.y (OpY.pure rfl)) ?_
  refine Run.q (v := .int .u64 0) rfl (OpQ.y (OpY.pure (by kernel_rfl))) ?_
  refine Run.q (v := .int .u64 0) rfl (OpQ.y (OpY.pure (by kernel_rfl))) ?_
  refine Run.q (v := .int .u64 0) rfl (OpQ.y (OpY.pure rfl)) ?_
  refine Run.done ?_
  refine Run.seq ?_
  refine Run.region ?_
  refine Run.q (v := .int .u64 1) rfl (OpQ.y (OpY.pure rfl)) ?_
  refine Run.q (v := .int .u64 3) rfl (OpQ.y (OpY.pure rfl)) ?_
  refine Run.q (v := .int .u64 3) rfl (OpQ.y (OpY.pure (by kernel_rfl))) ?_
  refine Run.q (v := .int .u64 3) rfl (OpQ.y (OpY.pure rfl)) ?_
  refine Run.done ?_
  refine Run.ret ?_
  refine ⟨.tuple #[.int .u64 0, .int .u64 3], [], Out.two rfl rfl rfl, (Some'.weak (.nil _)), ?_⟩
  rfl

set_option maxHeartbeats 1000000 in
set_option maxRecDepth 20000 in
theorem Mul64_4 (w : World) : Calls Try.prog 87 #[.int .u64 1, .int .u64 4] w (Post No w fun v _ => v = .tuple #[.int .u64 0, .int .u64 4]) := by
  refine enter (n := 51) (args := [.int .u64 1, .int .u64 4]) Try.func87 rfl rfl (St.empty _ _) ?_
  refine Run.seq ?_
  refine Run.region ?_
  refine Run.q (v := .int .u64 0) rfl (OpQ.y (OpY.pure rfl)) ?_
  refine Run.q (v := .int .u64 0) rfl (OpQ.y (OpY.pure rfl)) ?_
  refine Run.done ?_
  refine Run.seq ?_
  refine Run.region ?_
  refine Run.q (v := .int .u64 1) rfl (OpQ.y (OpY.pure rfl)) ?_
  refine Run.q (v := .int .u64 1) rfl (OpQ.y (OpY.pure (by kernel_rfl))) ?_
  refine Run.q (v := .int .u64 1) rfl (OpQ.y (OpY.pure rfl)) ?_
  refine Run.done ?_
  refine Run.seq ?_
  refine Run.region ?_
  refine Run.q (v := .int .u64 1) rfl (OpQ.y (OpY.pure rfl)) ?_
  refine Run.q (v := .int .u64 0) rfl (OpQ.y (OpY.pure (by kernel_rfl))) ?_
  refine Run.q (v := .int .u64 0) rfl (OpQ.y (OpY.pure rfl)) ?_
  refine Run.done ?_
  refine Run.seq ?_
  refine Run.region ?_
  refine Run.q (v := .int .u64 4) rfl (OpQ.y (OpY.pure rfl)) ?_
  refine Run.q (v := .int .u64 4) rfl (OpQ.y (OpY.pure (by kernel_rfl))) ?_
  refine Run.q (v := .int .u64 4) rfl (OpQ.y (OpY.pure rfl)) ?_
  refine Run.done ?_
  refine Run.seq ?_
  refine Run.region ?_
  refine Run.q (v := .int .u64 4) rfl (OpQ.y (OpY.pure rfl)) ?_
  refine Run.q (v := .int .u64 0) rfl (OpQ.y (OpY.pure (by kernel_rfl))) ?_
  refine Run.q (v := .int .u64 0) rfl (OpQ.y (OpY.pure rfl)) ?_
  refine Run.done ?_
  refine Run.seq ?_
  refine Run.region ?_
  refine Run.q (v := .int .u64 1) rfl (OpQ.y (OpY.pure rfl)) ?_
  refine Run.q (v := .int .u64 4) rfl (OpQ.y (OpY.pure rfl)) ?_
  refine Run.q (v := .int .u64 4) rfl (OpQ.y (OpY.pure (by kernel_rfl))) ?_
  refine Run.q (v := .int .u64 4) rfl (OpQ.y (OpY.pure rfl)) ?_
  refine Run.done ?_
  refine Run.seq ?_
  refine Run.region ?_
  refine Run.q (v := .int .u64 0) rfl (OpQ.y (OpY.pure rfl)) ?_
  refine Run.q (v := .int .u64 4) rfl (OpQ.y (OpY.pure rfl)) ?_
  refine Run.q (v := .int .u64 0) rfl (OpQ.y (OpY.pure (by kernel_rfl))) ?_
  refine Run.q (v := .int .u64 4) rfl (OpQ.y (OpY.pure rfl)) ?_
  refine Run.q (v := .int .u64 0) rfl (OpQ.y (OpY.pure (by kernel_rfl))) ?_
  refine Run.q (v := .int .u64 0) rfl (OpQ.y (OpY.pure (by kernel_rfl))) ?_
  refine Run.q (v := .int .u64 0) rfl (OpQ.y (OpY.pure rfl)) ?_
  refine Run.done ?_
  refine Run.seq ?_
  refine Run.region ?_
  refine Run.q (v := .int .u64 0) rfl (OpQ.y (OpY.pure rfl)) ?_
  refine Run.q (v := .int .u64 0) rfl (OpQ.y (OpY.pure (by kernel_rfl))) ?_
  refine Run.q (v := .int .u64 0) rfl (OpQ.y (OpY.pure rfl)) ?_
  refine Run.done ?_
  refine Run.seq ?_
  refine Run.region ?_
  refine Run.q (v := .int .u64 0) rfl (OpQ.y (OpY.pure rfl)) ?_
  refine Run.q (v := .int .u64 0) rfl (OpQ.y (OpY.pure (by kernel_rfl))) ?_
  refine Run.q (v := .int .u64 0) rfl (OpQ.y (OpY.pure rfl)) ?_
  refine Run.done ?_
  refine Run.seq ?_
  refine Run.region ?_
  refine Run.q (v := .int .u64 0) rfl (OpQ.y (OpY.pure rfl)) ?_
  refine Run.q (v := .int .u64 1) rfl (OpQ.y (OpY.pure rfl)) ?_
  refine Run.q (v := .int .u64 0) rfl (OpQ.y (OpY.pure rfl)) ?_
  refine Run.q (v := .int .u64 0) rfl (OpQ.y (OpY.pure (by kernel_rfl))) ?_
  refine Run.q (v := .int .u64 0) rfl (OpQ.y (OpY.pure (by kernel_rfl))) ?_
  refine Run.q (v := .int .u64 0) rfl (OpQ.y (OpY.pure rfl)) ?_
  refine Run.done ?_
  refine Run.seq ?_
  refine Run.region ?_
  refine Run.q (v := .int .u64 0) rfl (OpQ.y (OpY.pure rfl)) ?_
  refine Run.q (v := .int .u64 0) rfl (OpQ.y (OpY.pure rfl)) ?_
  refine Run.q (v := .int .u64 0) rfl (OpQ.y (OpY.pure (by kernel_rfl))) ?_
  refine Run.q (v := .int .u64 0) rfl (OpQ.y (OpY.pure rfl)) ?_
  refine Run.q (v := .int .u64 0) rfl (OpQ.y (OpY.pure (by kernel_rfl))) ?_
  refine Run.q (v := .int .u64 0) rfl (OpQ.y (OpY.pure rfl)) ?_
  refine Run.q (v := .int .u64 0) rfl (OpQ.y (OpY.pure (by kernel_rfl))) ?_
  refine Run.q (v := .int .u64 0) rfl (OpQ.y (OpY.pure (by kernel_rfl))) ?_
  refine Run.q (v := .int .u64 0) rfl (OpQ.y (OpY.pure rfl)) ?_
  refine Run.done ?_
  refine Run.seq ?_
  refine Run.region ?_
  refine Run.q (v := .int .u64 1) rfl (OpQ.y (OpY.pure rfl)) ?_
  refine Run.q (v := .int .u64 4) rfl (OpQ.y (OpY.pure rfl)) ?_
  refine Run.q (v := .int .u64 4) rfl (OpQ.y (OpY.pure (by kernel_rfl))) ?_
  refine Run.q (v := .int .u64 4) rfl (OpQ.y (OpY.pure rfl)) ?_
  refine Run.done ?_
  refine Run.ret ?_
  refine ⟨.tuple #[.int .u64 0, .int .u64 4], [], Out.two rfl rfl rfl, (Some'.weak (.nil _)), ?_⟩
  rfl

set_option maxHeartbeats 1000000 in
set_option maxRecDepth 20000 in
theorem Mul64_5 (w : World) : Calls Try.prog 87 #[.int .u64 1, .int .u64 5] w (Post No w fun v _ => v = .tuple #[.int .u64 0, .int .u64 5]) := by
  refine enter (n := 51) (args := [.int .u64 1, .int .u64 5]) Try.func87 rfl rfl (St.empty _ _) ?_
  refine Run.seq ?_
  refine Run.region ?_
  refine Run.q (v := .int .u64 0) rfl (OpQ.y (OpY.pure rfl)) ?_
  refine Run.q (v := .int .u64 0) rfl (OpQ.y (OpY.pure rfl)) ?_
  refine Run.done ?_
  refine Run.seq ?_
  refine Run.region ?_
  refine Run.q (v := .int .u64 1) rfl (OpQ.y (OpY.pure rfl)) ?_
  refine Run.q (v := .int .u64 1) rfl (OpQ.y (OpY.pure (by kernel_rfl))) ?_
  refine Run.q (v := .int .u64 1) rfl (OpQ.y (OpY.pure rfl)) ?_
  refine Run.done ?_
  refine Run.seq ?_
  refine Run.region ?_
  refine Run.q (v := .int .u64 1) rfl (OpQ.y (OpY.pure rfl)) ?_
  refine Run.q (v := .int .u64 0) rfl (OpQ.y (OpY.pure (by kernel_rfl))) ?_
  refine Run.q (v := .int .u64 0) rfl (OpQ.y (OpY.pure rfl)) ?_
  refine Run.done ?_
  refine Run.seq ?_
  refine Run.region ?_
  refine Run.q (v := .int .u64 5) rfl (OpQ.y (OpY.pure rfl)) ?_
  refine Run.q (v := .int .u64 5) rfl (OpQ.y (OpY.pure (by kernel_rfl))) ?_
  refine Run.q (v := .int .u64 5) rfl (OpQ.y (OpY.pure rfl)) ?_
  refine Run.done ?_
  refine Run.seq ?_
  refine Run.region ?_
  refine Run.q (v := .int .u64 5) rfl (OpQ.y (OpY.pure rfl)) ?_
  refine Run.q (v := .int .u64 0) rfl (OpQ.y (OpY.pure (by kernel_rfl))) ?_
  refine Run.q (v := .int .u64 0) rfl (OpQ.y (OpY.pure rfl)) ?_
  refine Run.done ?_
  refine Run.seq ?_
  refine Run.region ?_
  refine Run.q (v := .int .u64 1) rfl (OpQ.y (OpY.pure rfl)) ?_
  refine Run.q (v := .int .u64 5) rfl (OpQ.y (OpY.pure rfl)) ?_
  refine Run.q (v := .int .u64 5) rfl (OpQ.y (OpY.pure (by kernel_rfl))) ?_
  refine Run.q (v := .int .u64 5) rfl (OpQ.y (OpY.pure rfl)) ?_
  refine Run.done ?_
  refine Run.seq ?_
  refine Run.region ?_
  refine Run.q (v := .int .u64 0) rfl (OpQ.y (OpY.pure rfl)) ?_
  refine Run.q (v := .int .u64 5) rfl (OpQ.y (OpY.pure rfl)) ?_
  refine Run.q (v := .int .u64 0) rfl (OpQ.y (OpY.pure (by kernel_rfl))) ?_
  refine Run.q (v := .int .u64 5) rfl (OpQ.y (OpY.pure rfl)) ?_
  refine Run.q (v := .int .u64 0) rfl (OpQ.y (OpY.pure (by kernel_rfl))) ?_
  refine Run.q (v := .int .u64 0) rfl (OpQ.y (OpY.pure (by kernel_rfl))) ?_
  refine Run.q (v := .int .u64 0) rfl (OpQ.y (OpY.pure rfl)) ?_
  refine Run.done ?_
  refine Run.seq ?_
  refine Run.region ?_
  refine Run.q (v := .int .u64 0) rfl (OpQ.y (OpY.pure rfl)) ?_
  refine Run.q (v := .int .u64 0) rfl (OpQ.y (OpY.pure (by kernel_rfl))) ?_
  refine Run.q (v := .int .u64 0) rfl (OpQ.y (OpY.pure rfl)) ?_
  refine Run.done ?_
  refine Run.seq ?_
  refine Run.region ?_
  refine Run.q (v := .int .u64 0) rfl (OpQ.y (OpY.pure rfl)) ?_
  refine Run.q (v := .int .u64 0) rfl (OpQ.y (OpY.pure (by kernel_rfl))) ?_
  refine Run.q (v := .int .u64 0) rfl (OpQ.y (OpY.pure rfl)) ?_
  refine Run.done ?_
  refine Run.seq ?_
  refine Run.region ?_
  refine Run.q (v := .int .u64 0) rfl (OpQ.y (OpY.pure rfl)) ?_
  refine Run.q (v := .int .u64 1) rfl (OpQ.y (OpY.pure rfl)) ?_
  refine Run.q (v := .int .u64 0) rfl (OpQ.y (OpY.pure rfl)) ?_
  refine Run.q (v := .int .u64 0) rfl (OpQ.y (OpY.pure (by kernel_rfl))) ?_
  refine Run.q (v := .int .u64 0) rfl (OpQ.y (OpY.pure (by kernel_rfl))) ?_
  refine Run.q (v := .int .u64 0) rfl (OpQ.y (OpY.pure rfl)) ?_
  refine Run.done ?_
  refine Run.seq ?_
  refine Run.region ?_
  refine Run.q (v := .int .u64 0) rfl (OpQ.y (OpY.pure rfl)) ?_
  refine Run.q (v := .int .u64 0) rfl (OpQ.y (OpY.pure rfl)) ?_
  refine Run.q (v := .int .u64 0) rfl (OpQ.y (OpY.pure (by kernel_rfl))) ?_
  refine Run.q (v := .int .u64 0) rfl (OpQ.y (OpY.pure rfl)) ?_
  refine Run.q (v := .int .u64 0) rfl (OpQ.y (OpY.pure (by kernel_rfl))) ?_
  refine Run.q (v := .int .u64 0) rfl (OpQ.y (OpY.pure rfl)) ?_
  refine Run.q (v := .int .u64 0) rfl (OpQ.y (OpY.pure (by kernel_rfl))) ?_
  refine Run.q (v := .int .u64 0) rfl (OpQ.y (OpY.pure (by kernel_rfl))) ?_
  refine Run.q (v := .int .u64 0) rfl (OpQ.y (OpY.pure rfl)) ?_
  refine Run.done ?_
  refine Run.seq ?_
  refine Run.region ?_
  refine Run.q (v := .int .u64 1) rfl (OpQ.y (OpY.pure rfl)) ?_
  refine Run.q (v := .int .u64 5) rfl (OpQ.y (OpY.pure rfl)) ?_
  refine Run.q (v := .int .u64 5) rfl (OpQ.y (OpY.pure (by kernel_rfl))) ?_
  refine Run.q (v := .int .u64 5) rfl (OpQ.y (OpY.pure rfl)) ?_
  refine Run.done ?_
  refine Run.ret ?_
  refine ⟨.tuple #[.int .u64 0, .int .u64 5], [], Out.two rfl rfl rfl, (Some'.weak (.nil _)), ?_⟩
  rfl

set_option maxHeartbeats 1000000 in
set_option maxRecDepth 20000 in
theorem Mul64_6 (w : World) : Calls Try.prog 87 #[.int .u64 1, .int .u64 6] w (Post No w fun v _ => v = .tuple #[.int .u64 0, .int .u64 6]) := by
  refine enter (n := 51) (args := [.int .u64 1, .int .u64 6]) Try.func87 rfl rfl (St.empty _ _) ?_
  refine Run.seq ?_
  refine Run.region ?_
  refine Run.q (v := .int .u64 0) rfl (OpQ.y (OpY.pure rfl)) ?_
  refine Run.q (v := .int .u64 0) rfl (OpQ.y (OpY.pure rfl)) ?_
  refine Run.done ?_
  refine Run.seq ?_
  refine Run.region ?_
  refine Run.q (v := .int .u64 1) rfl (OpQ.y (OpY.pure rfl)) ?_
  refine Run.q (v := .int .u64 1) rfl (OpQ.y (OpY.pure (by kernel_rfl))) ?_
  refine Run.q (v := .int .u64 1) rfl (OpQ.y (OpY.pure rfl)) ?_
  refine Run.done ?_
  refine Run.seq ?_
  refine Run.region ?_
  refine Run.q (v := .int .u64 1) rfl (OpQ.y (OpY.pure rfl)) ?_
  refine Run.q (v := .int .u64 0) rfl (OpQ.y (OpY.pure (by kernel_rfl))) ?_
  refine Run.q (v := .int .u64 0) rfl (OpQ.y (OpY.pure rfl)) ?_
  refine Run.done ?_
  refine Run.seq ?_
  refine Run.region ?_
  refine Run.q (v := .int .u64 6) rfl (OpQ.y (OpY.pure rfl)) ?_
  refine Run.q (v := .int .u64 6) rfl (OpQ.y (OpY.pure (by kernel_rfl))) ?_
  refine Run.q (v := .int .u64 6) rfl (OpQ.y (OpY.pure rfl)) ?_
  refine Run.done ?_
  refine Run.seq ?_
  refine Run.region ?_
  refine Run.q (v := .int .u64 6) rfl (OpQ.y (OpY.pure rfl)) ?_
  refine Run.q (v := .int .u64 0) rfl (OpQ.y (OpY.pure (by kernel_rfl))) ?_
  refine Run.q (v := .int .u64 0) rfl (OpQ.y (OpY.pure rfl)) ?_
  refine Run.done ?_
  refine Run.seq ?_
  refine Run.region ?_
  refine Run.q (v := .int .u64 1) rfl (OpQ.y (OpY.pure rfl)) ?_
  refine Run.q (v := .int .u64 6) rfl (OpQ.y (OpY.pure rfl)) ?_
  refine Run.q (v := .int .u64 6) rfl (OpQ.y (OpY.pure (by kernel_rfl))) ?_
  refine Run.q (v := .int .u64 6) rfl (OpQ.y (OpY.pure rfl)) ?_
  refine Run.done ?_
  refine Run.seq ?_
  refine Run.region ?_
  refine Run.q (v := .int .u64 0) rfl (OpQ.y (OpY.pure rfl)) ?_
  refine Run.q (v := .int .u64 6) rfl (OpQ.y (OpY.pure rfl)) ?_
  refine Run.q (v := .int .u64 0) rfl (OpQ.y (OpY.pure (by kernel_rfl))) ?_
  refine Run.q (v := .int .u64 6) rfl (OpQ.y (OpY.pure rfl)) ?_
  refine Run.q (v := .int .u64 0) rfl (OpQ.y (OpY.pure (by kernel_rfl))) ?_
  refine Run.q (v := .int .u64 0) rfl (OpQ.y (OpY.pure (by kernel_rfl))) ?_
  refine Run.q (v := .int .u64 0) rfl (OpQ.y (OpY.pure rfl)) ?_
  refine Run.done ?_
  refine Run.seq ?_
  refine Run.region ?_
  refine Run.q (v := .int .u64 0) rfl (OpQ.y (OpY.pure rfl)) ?_
  refine Run.q (v := .int .u64 0) rfl (OpQ.y (OpY.pure (by kernel_rfl))) ?_
  refine Run.q (v := .int .u64 0) rfl (OpQ.y (OpY.pure rfl)) ?_
  refine Run.done ?_
  refine Run.seq ?_
  refine Run.region ?_
  refine Run.q (v := .int .u64 0) rfl (OpQ.y (OpY.pure rfl)) ?_
  refine Run.q (v := .int .u64 0) rfl (OpQ.y (OpY.pure (by kernel_rfl))) ?_
  refine Run.q (v := .int .u64 0) rfl (OpQ.y (OpY.pure rfl)) ?_
  refine Run.done ?_
  refine Run.seq ?_
  refine Run.region ?_
  refine Run.q (v := .int .u64 0) rfl (OpQ.y (OpY.pure rfl)) ?_
  refine Run.q (v := .int .u64 1) rfl (OpQ.y (OpY.pure rfl)) ?_
  refine Run.q (v := .int .u64 0) rfl (OpQ.y (OpY.pure rfl)) ?_
  refine Run.q (v := .int .u64 0) rfl (OpQ.y (OpY.pure (by kernel_rfl))) ?_
  refine Run.q (v := .int .u64 0) rfl (OpQ.y (OpY.pure (by kernel_rfl))) ?_
  refine Run.q (v := .int .u64 0) rfl (OpQ.y (OpY.pure rfl)) ?_
  refine Run.done ?_
  refine Run.seq ?_
  refine Run.region ?_
  refine Run.q (v := .int .u64 0) rfl (OpQ.y (OpY.pure rfl)) ?_
  refine Run.q (v := .int .u64 0) rfl (OpQ.y (OpY.pure rfl)) ?_
  refine Run.q (v := .int .u64 0) rfl (OpQ.y (OpY.pure (by kernel_rfl))) ?_
  refine Run.q (v := .int .u64 0) rfl (OpQ.y (OpY.pure rfl)) ?_
  refine Run.q (v := .int .u64 0) rfl (OpQ.y (OpY.pure (by kernel_rfl))) ?_
  refine Run.q (v := .int .u64 0) rfl (OpQ.y (OpY.pure rfl)) ?_
  refine Run.q (v := .int .u64 0) rfl (OpQ.y (OpY.pure (by kernel_rfl))) ?_
  refine Run.q (v := .int .u64 0) rfl (OpQ.y (OpY.pure (by kernel_rfl))) ?_
  refine Run.q (v := .int .u64 0) rfl (OpQ.y (OpY.pure rfl)) ?_
  refine Run.done ?_
  refine Run.seq ?_
  refine Run.region ?_
  refine Run.q (v := .int .u64 1) rfl (OpQ.y (OpY.pure rfl)) ?_
  refine Run.q (v := .int .u64 6) rfl (OpQ.y (OpY.pure rfl)) ?_
  refine Run.q (v := .int .u64 6) rfl (OpQ.y (OpY.pure (by kernel_rfl))) ?_
  refine Run.q (v := .int .u64 6) rfl (OpQ.y (OpY.pure rfl)) ?_
  refine Run.done ?_
  refine Run.ret ?_
  refine ⟨.tuple #[.int .u64 0, .int .u64 6], [], Out.two rfl rfl rfl, (Some'.weak (.nil _)), ?_⟩
  rfl

set_option maxHeartbeats 1000000 in
set_option maxRecDepth 20000 in
theorem Mul64_7 (w : World) : Calls Try.prog 87 #[.int .u64 1, .int .u64 7] w (Post No w fun v _ => v = .tuple #[.int .u64 0, .int .u64 7]) := by
  refine enter (n := 51) (args := [.int .u64 1, .int .u64 7]) Try.func87 rfl rfl (St.empty _ _) ?_
  refine Run.seq ?_
  refine Run.region ?_
  refine Run.q (v := .int .u64 0) rfl (OpQ.y (OpY.pure rfl)) ?_
  refine Run.q (v := .int .u64 0) rfl (OpQ.y (OpY.pure rfl)) ?_
  refine Run.done ?_
  refine Run.seq ?_
  refine Run.region ?_
  refine Run.q (v := .int .u64 1) rfl (OpQ.y (OpY.pure rfl)) ?_
  refine Run.q (v := .int .u64 1) rfl (OpQ.y (OpY.pure (by kernel_rfl))) ?_
  refine Run.q (v := .int .u64 1) rfl (OpQ.y (OpY.pure rfl)) ?_
  refine Run.done ?_
  refine Run.seq ?_
  refine Run.region ?_
  refine Run.q (v := .int .u64 1) rfl (OpQ.y (OpY.pure rfl)) ?_
  refine Run.q (v := .int .u64 0) rfl (OpQ.y (OpY.pure (by kernel_rfl))) ?_
  refine Run.q (v := .int .u64 0) rfl (OpQ.y (OpY.pure rfl)) ?_
  refine Run.done ?_
  refine Run.seq ?_
  refine Run.region ?_
  refine Run.q (v := .int .u64 7) rfl (OpQ.y (OpY.pure rfl)) ?_
  refine Run.q (v := .int .u64 7) rfl (OpQ.y (OpY.pure (by kernel_rfl))) ?_
  refine Run.q (v := .int .u64 7) rfl (OpQ.y (OpY.pure rfl)) ?_
  refine Run.done ?_
  refine Run.seq ?_
  refine Run.region ?_
  refine Run.q (v := .int .u64 7) rfl (OpQ.y (OpY.pure rfl)) ?_
  refine Run.q (v := .int .u64 0) rfl (OpQ.y (OpY.pure (by kernel_rfl))) ?_
  refine Run.q (v := .int .u64 0) rfl (OpQ.y (OpY.pure rfl)) ?_
  refine Run.done ?_
  refine Run.seq ?_
  refine Run.region ?_
  refine Run.q (v := .int .u64 1) rfl (OpQ.y (OpY.pure rfl)) ?_
  refine Run.q (v := .int .u64 7) rfl (OpQ.y (OpY.pure rfl)) ?_
  refine Run.q (v := .int .u64 7) rfl (OpQ.y (OpY.pure (by kernel_rfl))) ?_
  refine Run.q (v := .int .u64 7) rfl (OpQ.y (OpY.pure rfl)) ?_
  refine Run.done ?_
  refine Run.seq ?_
  refine Run.region ?_
  refine Run.q (v := .int .u64 0) rfl (OpQ.y (OpY.pure rfl)) ?_
  refine Run.q (v := .int .u64 7) rfl (OpQ.y (OpY.pure rfl)) ?_
  refine Run.q (v := .int .u64 0) rfl (OpQ.y (OpY.pure (by kernel_rfl))) ?_
  refine Run.q (v := .int .u64 7) rfl (OpQ.y (OpY.pure rfl)) ?_
  refine Run.q (v := .int .u64 0) rfl (OpQ.y (OpY.pure (by kernel_rfl))) ?_
  refine Run.q (v := .int .u64 0) rfl (OpQ.y (OpY.pure (by kernel_rfl))) ?_
  refine Run.q (v := .int .u64 0) rfl (OpQ.y (OpY.pure rfl)) ?_
  refine Run.done ?_
  refine Run.seq ?_
  refine Run.region ?_
  refine Run.q (v := .int .u64 0) rfl (OpQ.y (OpY.pure rfl)) ?_
  refine Run.q (v := .int .u64 0) rfl (OpQ.y (OpY.pure (by kernel_rfl))) ?_
  refine Run.q (v := .int .u64 0) rfl (OpQ.y (OpY.pure rfl)) ?_
  refine Run.done ?_
  refine Run.seq ?_
  refine Run.region ?_
  refine Run.q (v := .int .u64 0) rfl (OpQ.y (OpY.pure rfl)) ?_
  refine Run.q (v := .int .u64 0) rfl (OpQ.y (OpY.pure (by kernel_rfl))) ?_
  refine Run.q (v := .int .u64 0) rfl (OpQ.y (OpY.pure rfl)) ?_
  refine Run.done ?_
  refine Run.seq ?_
  refine Run.region ?_
  refine Run.q (v := .int .u64 0) rfl (OpQ.y (OpY.pure rfl)) ?_
  refine Run.q (v := .int .u64 1) rfl (OpQ.y (OpY.pure rfl)) ?_
  refine Run.q (v := .int .u64 0) rfl (OpQ.y (OpY.pure rfl)) ?_
  refine Run.q (v := .int .u64 0) rfl (OpQ.y (OpY.pure (by kernel_rfl))) ?_
  refine Run.q (v := .int .u64 0) rfl (OpQ.y (OpY.pure (by kernel_rfl))) ?_
  refine Run.q (v := .int .u64 0) rfl (OpQ.y (OpY.pure rfl)) ?_
  refine Run.done ?_
  refine Run.seq ?_
  refine Run.region ?_
  refine Run.q (v := .int .u64 0) rfl (OpQ.y (OpY.pure rfl)) ?_
  refine Run.q (v := .int .u64 0) rfl (OpQ.y (OpY.pure rfl)) ?_
  refine Run.q (v := .int .u64 0) rfl (OpQ.y (OpY.pure (by kernel_rfl))) ?_
  refine Run.q (v := .int .u64 0) rfl (OpQ.y (OpY.pure rfl)) ?_
  refine Run.q (v := .int .u64 0) rfl (OpQ.y (OpY.pure (by kernel_rfl))) ?_
  refine Run.q (v := .int .u64 0) rfl (OpQ.y (OpY.pure rfl)) ?_
  refine Run.q (v := .int .u64 0) rfl (OpQ.y (OpY.pure (by kernel_rfl))) ?_
  refine Run.q (v := .int .u64 0) rfl (OpQ.y (OpY.pure (by kernel_rfl))) ?_
  refine Run.q (v := .int .u64 0) rfl (OpQ.y (OpY.pure rfl)) ?_
  refine Run.done ?_
  refine Run.seq ?_
  refine Run.region ?_
  refine Run.q (v := .int .u64 1) rfl (OpQ.y (OpY.pure rfl)) ?_
  refine Run.q (v := .int .u64 7) rfl (OpQ.y (OpY.pure rfl)) ?_
  refine Run.q (v := .int .u64 7) rfl (OpQ.y (OpY.pure (by kernel_rfl))) ?_
  refine Run.q (v := .int .u64 7) rfl (OpQ.y (OpY.pure rfl)) ?_
  refine Run.done ?_
  refine Run.ret ?_
  refine ⟨.tuple #[.int .u64 0, .int .u64 7], [], Out.two rfl rfl rfl, (Some'.weak (.nil _)), ?_⟩
  rfl

set_option maxHeartbeats 1000000 in
set_option maxRecDepth 20000 in
theorem Mul64_8 (w : World) : Calls Try.prog 87 #[.int .u64 1, .int .u64 8] w (Post No w fun v _ => v = .tuple #[.int .u64 0, .int .u64 8]) := by
  refine enter (n := 51) (args := [.int .u64 1, .int .u64 8]) Try.func87 rfl rfl (St.empty _ _) ?_
  refine Run.seq ?_
  refine Run.region ?_
  refine Run.q (v := .int .u64 0) rfl (OpQ.y (OpY.pure rfl)) ?_
  refine Run.q (v := .int .u64 0) rfl (OpQ.y (OpY.pure rfl)) ?_
  refine Run.done ?_
  refine Run.seq ?_
  refine Run.region ?_
  refine Run.q (v := .int .u64 1) rfl (OpQ.y (OpY.pure rfl)) ?_
  refine Run.q (v := .int .u64 1) rfl (OpQ.y (OpY.pure (by kernel_rfl))) ?_
  refine Run.q (v := .int .u64 1) rfl (OpQ.y (OpY.pure rfl)) ?_
  refine Run.done ?_
  refine Run.seq ?_
  refine Run.region ?_
  refine Run.q (v := .int .u64 1) rfl (OpQ.y (OpY.pure rfl)) ?_
  refine Run.q (v := .int .u64 0) rfl (OpQ.y (OpY.pure (by kernel_rfl))) ?_
  refine Run.q (v := .int .u64 0) rfl (OpQ.y (OpY.pure rfl)) ?_
  refine Run.done ?_
  refine Run.seq ?_
  refine Run.region ?_
  refine Run.q (v := .int .u64 8) rfl (OpQ.y (OpY.pure rfl)) ?_
  refine Run.q (v := .int .u64 8) rfl (OpQ.y (OpY.pure (by kernel_rfl))) ?_
  refine Run.q (v := .int .u64 8) rfl (OpQ.y (OpY.pure rfl)) ?_
  refine Run.done ?_
  refine Run.seq ?_
  refine Run.region ?_
  refine Run.q (v := .int .u64 8) rfl (OpQ.y (OpY.pure rfl)) ?_
  refine Run.q (v := .int .u64 0) rfl (OpQ.y (OpY.pure (by kernel_rfl))) ?_
  refine Run.q (v := .int .u64 0) rfl (OpQ.y (OpY.pure rfl)) ?_
  refine Run.done ?_
  refine Run.seq ?_
  refine Run.region ?_
  refine Run.q (v := .int .u64 1) rfl (OpQ.y (OpY.pure rfl)) ?_
  refine Run.q (v := .int .u64 8) rfl (OpQ.y (OpY.pure rfl)) ?_
  refine Run.q (v := .int .u64 8) rfl (OpQ.y (OpY.pure (by kernel_rfl))) ?_
  refine Run.q (v := .int .u64 8) rfl (OpQ.y (OpY.pure rfl)) ?_
  refine Run.done ?_
  refine Run.seq ?_
  refine Run.region ?_
  refine Run.q (v := .int .u64 0) rfl (OpQ.y (OpY.pure rfl)) ?_
  refine Run.q (v := .int .u64 8) rfl (OpQ.y (OpY.pure rfl)) ?_
  refine Run.q (v := .int .u64 0) rfl (OpQ.y (OpY.pure (by kernel_rfl))) ?_
  refine Run.q (v := .int .u64 8) rfl (OpQ.y (OpY.pure rfl)) ?_
  refine Run.q (v := .int .u64 0) rfl (OpQ.y (OpY.pure (by kernel_rfl))) ?_
  refine Run.q (v := .int .u64 0) rfl (OpQ.y (OpY.pure (by kernel_rfl))) ?_
  refine Run.q (v := .int .u64 0) rfl (OpQ.y (OpY.pure rfl)) ?_
  refine Run.done ?_
  refine Run.seq ?_
  refine Run.region ?_
  refine Run.q (v := .int .u64 0) rfl (OpQ.y (OpY.pure rfl)) ?_
  refine Run.q (v := .int .u64 0) rfl (OpQ.y (OpY.pure (by kernel_rfl))) ?_
  refine Run.q (v := .int .u64 0) rfl (OpQ.y (OpY.pure rfl)) ?_
  refine Run.done ?_
  refine Run.seq ?_
  refine Run.region ?_
  refine Run.q (v := .int .u64 0) rfl (OpQ.y (OpY.pure rfl)) ?_
  refine Run.q (v := .int .u64 0) rfl (OpQ.y (OpY.pure (by kernel_rfl))) ?_
  refine Run.q (v := .int .u64 0) rfl (OpQ.y (OpY.pure rfl)) ?_
  refine Run.done ?_
  refine Run.seq ?_
  refine Run.region ?_
  refine Run.q (v := .int .u64 0) rfl (OpQ.y (OpY.pure rfl)) ?_
  refine Run.q (v := .int .u64 1) rfl (OpQ.y (OpY.pure rfl)) ?_
  refine Run.q (v := .int .u64 0) rfl (OpQ.y (OpY.pure rfl)) ?_
  refine Run.q (v := .int .u64 0) rfl (OpQ.y (OpY.pure (by kernel_rfl))) ?_
  refine Run.q (v := .int .u64 0) rfl (OpQ.y (OpY.pure (by kernel_rfl))) ?_
  refine Run.q (v := .int .u64 0) rfl (OpQ.y (OpY.pure rfl)) ?_
  refine Run.done ?_
  refine Run.seq ?_
  refine Run.region ?_
  refine Run.q (v := .int .u64 0) rfl (OpQ.y (OpY.pure rfl)) ?_
  refine Run.q (v := .int .u64 0) rfl (OpQ.y (OpY.pure rfl)) ?_
  refine Run.q (v := .int .u64 0) rfl (OpQ.y (OpY.pure (by kernel_rfl))) ?_
  refine Run.q (v := .int .u64 0) rfl (OpQ.y (OpY.pure rfl)) ?_
  refine Run.q (v := .int .u64 0) rfl (OpQ.y (OpY.pure (by kernel_rfl))) ?_
  refine Run.q (v := .int .u64 0) rfl (OpQ.y (OpY.pure rfl)) ?_
  refine Run.q (v := .int .u64 0) rfl (OpQ.y (OpY.pure (by kernel_rfl))) ?_
  refine Run.q (v := .int .u64 0) rfl (OpQ.y (OpY.pure (by kernel_rfl))) ?_
  refine Run.q (v := .int .u64 0) rfl (OpQ.y (OpY.pure rfl)) ?_
  refine Run.done ?_
  refine Run.seq ?_
  refine Run.region ?_
  refine Run.q (v := .int .u64 1) rfl (OpQ.y (OpY.pure rfl)) ?_
  refine Run.q (v := .int .u64 8) rfl (OpQ.y (OpY.pure rfl)) ?_
  refine Run.q (v := .int .u64 8) rfl (OpQ.y (OpY.pure (by kernel_rfl))) ?_
  refine Run.q (v := .int .u64 8) rfl (OpQ.y (OpY.pure rfl)) ?_
  refine Run.done ?_
  refine Run.ret ?_
  refine ⟨.tuple #[.int .u64 0, .int .u64 8], [], Out.two rfl rfl rfl, (Some'.weak (.nil _)), ?_⟩
  rfl

set_option maxHeartbeats 1000000 in
set_option maxRecDepth 20000 in
theorem Mul_1 (w : World) : Calls Try.prog 80 #[.int .u64 1, .int .u64 1] w (Post No w fun v _ => v = .tuple #[.int .u64 0, .int .u64 1]) := by
  refine enter (n := 30) (args := [.int .u64 1, .int .u64 1]) Try.func80 rfl rfl (St.empty _ _) ?_
  refine Run.seq ?_
  refine Run.region ?_
  refine Run.q (v := .int .u64 0) rfl (OpQ.y (OpY.pure rfl)) ?_
  refine Run.q (v := .int .u64 0) rfl (OpQ.y (OpY.pure rfl)) ?_
  refine Run.done ?_
  refine Run.seq ?_
  refine Run.cond (b := false) rfl (fun h => nomatch h) (fun _ => ?_)
  refine Run.skip ?_
  refine Run.seq ?_
  refine Run.region ?_
  refine Run.q (v := .int .u64 1) rfl (OpQ.y (OpY.pure rfl)) ?_
  refine Run.q (v := .int .u64 1) rfl (OpQ.y (OpY.pure rfl)) ?_
  refine Run.q (v := .tuple #[.int .u64 0, .int .u64 1]) rfl (OpQ.call (vs := [.int .u64 1, .int .u64 1]) (caps := []) Tcall_87 rfl rfl (fun w hs => Mul64_1 w)) ?_
  refine Run.q (v := .tuple #[.int .u64 0, .int .u64 1]) rfl (OpQ.y (OpY.pure rfl)) ?_
  refine Run.q (v := .int .u64 0) rfl (OpQ.y (OpY.pure rfl)) ?_
  refine Run.q (v := .int .u64 1) rfl (OpQ.y (OpY.pure rfl)) ?_
  refine Run.q (v := .int .u64 0) rfl (OpQ.y (OpY.pure rfl)) ?_
  refine Run.q (v := .int .u64 1) rfl (OpQ.y (OpY.pure rfl)) ?_
  refine Run.done ?_
  refine Run.seq ?_
  refine Run.region ?_
  refine Run.q (v := .int .u64 0) rfl (OpQ.y (OpY.pure rfl)) ?_
  refine Run.q (v := .int .u64 1) rfl (OpQ.y (OpY.pure rfl)) ?_
  refine Run.q (v := .int .u64 0) rfl (OpQ.y (OpY.pure rfl)) ?_
  refine Run.q (v := .int .u64 1) rfl (OpQ.y (OpY.pure rfl)) ?_
  refine Run.done ?_
  refine Run.ret ?_
  refine ⟨.tuple #[.int .u64 0, .int .u64 1], [], Out.two rfl rfl rfl, (Some'.weak (.nil _)), ?_⟩
  rfl

set_option maxHeartbeats 1000000 in
set_option maxRecDepth 20000 in
theorem Mul_2 (w : World) : Calls Try.prog 80 #[.int .u64 1, .int .u64 2] w (Post No w fun v _ => v = .tuple #[.int .u64 0, .int .u64 2]) := by
  refine enter (n := 30) (args := [.int .u64 1, .int .u64 2]) Try.func80 rfl rfl (St.empty _ _) ?_
  refine Run.seq ?_
  refine Run.region ?_
  refine Run.q (v := .int .u64 0) rfl (OpQ.y (OpY.pure rfl)) ?_
  refine Run.q (v := .int .u64 0) rfl (OpQ.y (OpY.pure rfl)) ?_
  refine Run.done ?_
  refine Run.seq ?_
  refine Run.cond (b := false) rfl (fun h => nomatch h) (fun _ => ?_)
  refine Run.skip ?_
  refine Run.seq ?_
  refine Run.region ?_
  refine Run.q (v := .int .u64 1) rfl (OpQ.y (OpY.pure rfl)) ?_
  refine Run.q (v := .int .u64 2) rfl (OpQ.y (OpY.pure rfl)) ?_
  refine Run.q (v := .tuple #[.int .u64 0, .int .u64 2]) rfl (OpQ.call (vs := [.int .u64 1, .int .u64 2]) (caps := []) Tcall_87 rfl rfl (fun w hs => Mul64_2 w)) ?_
  refine Run.q (v := .tuple #[.int .u64 0, .int .u64 2]) rfl (OpQ.y (OpY.pure rfl)) ?_
  refine Run.q (v := .int .u64 0) rfl (OpQ.y (OpY.pure rfl)) ?_
  refine Run.q (v := .int .u64 2) rfl (OpQ.y (OpY.pure rfl)) ?_
  refine Run.q (v := .int .u64 0) rfl (OpQ.y (OpY.pure rfl)) ?_
  refine Run.q (v := .int .u64 2) rfl (OpQ.y (OpY.pure rfl)) ?_
  refine Run.done ?_
  refine Run.seq ?_
  refine Run.region ?_
  refine Run.q (v := .int .u64 0) rfl (OpQ.y (OpY.pure rfl)) ?_
  refine Run.q (v := .int .u64 2) rfl (OpQ.y (OpY.pure rfl)) ?_
  refine Run.q (v := .int .u64 0) rfl (OpQ.y (OpY.pure rfl)) ?_
  refine Run.q (v := .int .u64 2) rfl (OpQ.y (OpY.pure rfl)) ?_
  refine Run.done ?_
  refine Run.ret ?_
  refine ⟨.tuple #[.int .u64 0, .int .u64 2], [], Out.two rfl rfl rfl, (Some'.weak (.nil _)), ?_⟩
  rfl

set_option maxHeartbeats 1000000 in
set_option maxRecDepth 20000 in
theorem Mul_3 (w : World) : Calls Try.prog 80 #[.int .u64 1, .int .u64 3] w (Post No w fun v _ => v = .tuple #[.int .u64 0, .int .u64 3]) := by
  refine enter (n := 30) (args := [.int .u64 1, .int .u64 3]) Try.func80 rfl rfl (St.empty _ _) ?_
  refine Run.seq ?_
  refine Run.region ?_
  refine Run.q (v := .int .u64 0) rfl (OpQ.y (OpY.pure rfl)) ?_
  refine Run.q (v := .int .u64 0) rfl (OpQ.y (OpY.pure rfl)) ?_
  refine Run.done ?_
  refine Run.seq ?_
  refine Run.cond (b := false) rfl (fun h => nomatch h) (fun _ => ?_)
  refine Run.skip ?_
  refine Run.seq ?_
  refine Run.region ?_
  refine Run.q (v := .int .u64 1) rfl (OpQ.y (OpY.pure rfl)) ?_
  refine Run.q (v := .int .u64 3) rfl (OpQ.y (OpY.pure rfl)) ?_
  refine Run.q (v := .tuple #[.int .u64 0, .int .u64 3]) rfl (OpQ.call (vs := [.int .u64 1, .int .u64 3]) (caps := []) Tcall_87 rfl rfl (fun w hs => Mul64_3 w)) ?_
  refine Run.q (v := .tuple #[.int .u64 0, .int .u64 3]) rfl (OpQ.y (OpY.pure rfl)) ?_
  refine Run.q (v := .int .u64 0) rfl (OpQ.y (OpY.pure rfl)) ?_
  refine Run.q (v := .int .u64 3) rfl (OpQ.y (OpY.pure rfl)) ?_
  refine Run.q (v := .int .u64 0) rfl (OpQ.y (OpY.pure rfl)) ?_
  refine Run.q (v := .int .u64 3) rfl (OpQ.y (OpY.pure rfl)) ?_
  refine Run.done ?_
  refine Run.seq ?_
  refine Run.region ?_
  refine Run.q (v := .int .u64 0) rfl (OpQ.y (OpY.pure rfl)) ?_
  refine Run.q (v := .int .u64 3) rfl (OpQ.y (OpY.pure rfl)) ?_
  refine Run.q (v := .int .u64 0) rfl (OpQ.y (OpY.pure rfl)) ?_
  refine Run.q (v := .int .u64 3) rfl (OpQ.y (OpY.pure rfl)) ?_
  refine Run.done ?_
  refine Run.ret ?_
  refine ⟨.tuple #[.int .u64 0, .int .u64 3], [], Out.two rfl rfl rfl, (Some'.weak (.nil _)), ?_⟩
  rfl

set_option maxHeartbeats 1000000 in
set_option maxRecDepth 20000 in
theorem Mul_4 (w : World) : Calls Try.prog 80 #[.int .u64 1, .int .u64 4] w (Post No w fun v _ => v = .tuple #[.int .u64 0, .int .u64 4]) := by
  refine enter (n := 30) (args := [.int .u64 1, .int .u64 4]) Try.func80 rfl rfl (St.empty _ _) ?_
  refine Run.seq ?_
  refine Run.region ?_
  refine Run.q (v := .int .u64 0) rfl (OpQ.y (OpY.pure rfl)) ?_
  refine Run.q (v := .int .u64 0) rfl (OpQ.y (OpY.pure rfl)) ?_
  refine Run.done ?_
  refine Run.seq ?_
  refine Run.cond (b := false) rfl (fun h => nomatch h) (fun _ => ?_)
  refine Run.skip ?_
  refine Run.seq ?_
  refine Run.region ?_
  refine Run.q (v := .int .u64 1) rfl (OpQ.y (OpY.pure rfl)) ?_
  refine Run.q (v := .int .u64 4) rfl (OpQ.y (OpY.pure rfl)) ?_
  refine Run.q (v := .tuple #[.int .u64 0, .int .u64 4]) rfl (OpQ.call (vs := [.int .u64 1, .int .u64 4]) (caps := []) Tcall_87 rfl rfl (fun w hs => Mul64_4 w)) ?_
  refine Run.q (v := .tuple #[.int .u64 0, .int .u64 4]) rfl (OpQ.y (OpY.pure rfl)) ?_
  refine Run.q (v := .int .u64 0) rfl (OpQ.y (OpY.pure rfl)) ?_
  refine Run.q (v := .int .u64 4) rfl (OpQ.y (OpY.pure rfl)) ?_
  refine Run.q (v := .int .u64 0) rfl (OpQ.y (OpY.pure rfl)) ?_
  refine Run.q (v := .int .u64 4) rfl (OpQ.y (OpY.pure rfl)) ?_
  refine Run.done ?_
  refine Run.seq ?_
  refine Run.region ?_
  refine Run.q (v := .int .u64 0) rfl (OpQ.y (OpY.pure rfl)) ?_
  refine Run.q (v := .int .u64 4) rfl (OpQ.y (OpY.pure rfl)) ?_
  refine Run.q (v := .int .u64 0) rfl (OpQ.y (OpY.pure rfl)) ?_
  refine Run.q (v := .int .u64 4) rfl (OpQ.y (OpY.pure rfl)) ?_
  refine Run.done ?_
  refine Run.ret ?_
  refine ⟨.tuple #[.int .u64 0, .int .u64 4], [], Out.two rfl rfl rfl, (Some'.weak (.nil _)), ?_⟩
  rfl

set_option maxHeartbeats 1000000 in
set_option maxRecDepth 20000 in
theorem Mul_5 (w : World) : Calls Try.prog 80 #[.int .u64 1, .int .u64 5] w (Post No w fun v _ => v = .tuple #[.int .u64 0, .int .u64 5]) := by
  refine enter (n := 30) (args := [.int .u64 1, .int .u64 5]) Try.func80 rfl rfl (St.empty _ _) ?_
  refine Run.seq ?_
  refine Run.region ?_
  refine Run.q (v := .int .u64 0) rfl (OpQ.y (OpY.pure rfl)) ?_
  refine Run.q (v := .int .u64 0) rfl (OpQ.y (OpY.pure rfl)) ?_
  refine Run.done ?_
  refine Run.seq ?_
  refine Run.cond (b := false) rfl (fun h => nomatch h) (fun _ => ?_)
  refine Run.skip ?_
  refine Run.seq ?_
  refine Run.region ?_
  refine Run.q (v := .int .u64 1) rfl (OpQ.y (OpY.pure rfl)) ?_
  refine Run.q (v := .int .u64 5) rfl (OpQ.y (OpY.pure rfl)) ?_
  refine Run.q (v := .tuple #[.int .u64 0, .int .u64 5]) rfl (OpQ.call (vs := [.int .u64 1, .int .u64 5]) (caps := []) Tcall_87 rfl rfl (fun w hs => Mul64_5 w)) ?_
  refine Run.q (v := .tuple #[.int .u64 0, .int .u64 5]) rfl (OpQ.y (OpY.pure rfl)) ?_
  refine Run.q (v := .int .u64 0) rfl (OpQ.y (OpY.pure rfl)) ?_
  refine Run.q (v := .int .u64 5) rfl (OpQ.y (OpY.pure rfl)) ?_
  refine Run.q (v := .int .u64 0) rfl (OpQ.y (OpY.pure rfl)) ?_
  refine Run.q (v := .int .u64 5) rfl (OpQ.y (OpY.pure rfl)) ?_
  refine Run.done ?_
  refine Run.seq ?_
  refine Run.region ?_
  refine Run.q (v := .int .u64 0) rfl (OpQ.y (OpY.pure rfl)) ?_
  refine Run.q (v := .int .u64 5) rfl (OpQ.y (OpY.pure rfl)) ?_
  refine Run.q (v := .int .u64 0) rfl (OpQ.y (OpY.pure rfl)) ?_
  refine Run.q (v := .int .u64 5) rfl (OpQ.y (OpY.pure rfl)) ?_
  refine Run.done ?_
  refine Run.ret ?_
  refine ⟨.tuple #[.int .u64 0, .int .u64 5], [], Out.two rfl rfl rfl, (Some'.weak (.nil _)), ?_⟩
  rfl

set_option maxHeartbeats 1000000 in
set_option maxRecDepth 20000 in
theorem Mul_6 (w : World) : Calls Try.prog 80 #[.int .u64 1, .int .u64 6] w (Post No w fun v _ => v = .tuple #[.int .u64 0, .int .u64 6]) := by
  refine enter (n := 30) (args := [.int .u64 1, .int .u64 6]) Try.func80 rfl rfl (St.empty _ _) ?_
  refine Run.seq ?_
  refine Run.region ?_
  refine Run.q (v := .int .u64 0) rfl (OpQ.y (OpY.pure rfl)) ?_
  refine Run.q (v := .int .u64 0) rfl (OpQ.y (OpY.pure rfl)) ?_
  refine Run.done ?_
  refine Run.seq ?_
  refine Run.cond (b := false) rfl (fun h => nomatch h) (fun _ => ?_)
  refine Run.skip ?_
  refine Run.seq ?_
  refine Run.region ?_
  refine Run.q (v := .int .u64 1) rfl (OpQ.y (OpY.pure rfl)) ?_
  refine Run.q (v := .int .u64 6) rfl (OpQ.y (OpY.pure rfl)) ?_
  refine Run.q (v := .tuple #[.int .u64 0, .int .u64 6]) rfl (OpQ.call (vs := [.int .u64 1, .int .u64 6]) (caps := []) Tcall_87 rfl rfl (fun w hs => Mul64_6 w)) ?_
  refine Run.q (v := .tuple #[.int .u64 0, .int .u64 6]) rfl (OpQ.y (OpY.pure rfl)) ?_
  refine Run.q (v := .int .u64 0) rfl (OpQ.y (OpY.pure rfl)) ?_
  refine Run.q (v := .int .u64 6) rfl (OpQ.y (OpY.pure rfl)) ?_
  refine Run.q (v := .int .u64 0) rfl (OpQ.y (OpY.pure rfl)) ?_
  refine Run.q (v := .int .u64 6) rfl (OpQ.y (OpY.pure rfl)) ?_
  refine Run.done ?_
  refine Run.seq ?_
  refine Run.region ?_
  refine Run.q (v := .int .u64 0) rfl (OpQ.y (OpY.pure rfl)) ?_
  refine Run.q (v := .int .u64 6) rfl (OpQ.y (OpY.pure rfl)) ?_
  refine Run.q (v := .int .u64 0) rfl (OpQ.y (OpY.pure rfl)) ?_
  refine Run.q (v := .int .u64 6) rfl (OpQ.y (OpY.pure rfl)) ?_
  refine Run.done ?_
  refine Run.ret ?_
  refine ⟨.tuple #[.int .u64 0, .int .u64 6], [], Out.two rfl rfl rfl, (Some'.weak (.nil _)), ?_⟩
  rfl

set_option maxHeartbeats 1000000 in
set_option maxRecDepth 20000 in
theorem Mul_7 (w : World) : Calls Try.prog 80 #[.int .u64 1, .int .u64 7] w (Post No w fun v _ => v = .tuple #[.int .u64 0, .int .u64 7]) := by
  refine enter (n := 30) (args := [.int .u64 1, .int .u64 7]) Try.func80 rfl rfl (St.empty _ _) ?_
  refine Run.seq ?_
  refine Run.region ?_
  refine Run.q (v := .int .u64 0) rfl (OpQ.y (OpY.pure rfl)) ?_
  refine Run.q (v := .int .u64 0) rfl (OpQ.y (OpY.pure rfl)) ?_
  refine Run.done ?_
  refine Run.seq ?_
  refine Run.cond (b := false) rfl (fun h => nomatch h) (fun _ => ?_)
  refine Run.skip ?_
  refine Run.seq ?_
  refine Run.region ?_
  refine Run.q (v := .int .u64 1) rfl (OpQ.y (OpY.pure rfl)) ?_
  refine Run.q (v := .int .u64 7) rfl (OpQ.y (OpY.pure rfl)) ?_
  refine Run.q (v := .tuple #[.int .u64 0, .int .u64 7]) rfl (OpQ.call (vs := [.int .u64 1, .int .u64 7]) (caps := []) Tcall_87 rfl rfl (fun w hs => Mul64_7 w)) ?_
  refine Run.q (v := .tuple #[.int .u64 0, .int .u64 7]) rfl (OpQ.y (OpY.pure rfl)) ?_
  refine Run.q (v := .int .u64 0) rfl (OpQ.y (OpY.pure rfl)) ?_
  refine Run.q (v := .int .u64 7) rfl (OpQ.y (OpY.pure rfl)) ?_
  refine Run.q (v := .int .u64 0) rfl (OpQ.y (OpY.pure rfl)) ?_
  refine Run.q (v := .int .u64 7) rfl (OpQ.y (OpY.pure rfl)) ?_
  refine Run.done ?_
  refine Run.seq ?_
  refine Run.region ?_
  refine Run.q (v := .int .u64 0) rfl (OpQ.y (OpY.pure rfl)) ?_
  refine Run.q (v := .int .u64 7) rfl (OpQ.y (OpY.pure rfl)) ?_
  refine Run.q (v := .int .u64 0) rfl (OpQ.y (OpY.pure rfl)) ?_
  refine Run.q (v := .int .u64 7) rfl (OpQ.y (OpY.pure rfl)) ?_
  refine Run.done ?_
  refine Run.ret ?_
  refine ⟨.tuple #[.int .u64 0, .int .u64 7], [], Out.two rfl rfl rfl, (Some'.weak (.nil _)), ?_⟩
  rfl

set_option maxHeartbeats 1000000 in
set_option maxRecDepth 20000 in
theorem Mul_8 (w : World) : Calls Try.prog 80 #[.int .u64 1, .int .u64 8] w (Post No w fun v _ => v = .tuple #[.int .u64 0, .int .u64 8]) := by
  refine enter (n := 30) (args := [.int .u64 1, .int .u64 8]) Try.func80 rfl rfl (St.empty _ _) ?_
  refine Run.seq ?_
  refine Run.region ?_
  refine Run.q (v := .int .u64 0) rfl (OpQ.y (OpY.pure rfl)) ?_
  refine Run.q (v := .int .u64 0) rfl (OpQ.y (OpY.pure rfl)) ?_
  refine Run.done ?_
  refine Run.seq ?_
  refine Run.cond (b := false) rfl (fun h => nomatch h) (fun _ => ?_)
  refine Run.skip ?_
  refine Run.seq ?_
  refine Run.region ?_
  refine Run.q (v := .int .u64 1) rfl (OpQ.y (OpY.pure rfl)) ?_
  refine Run.q (v := .int .u64 8) rfl (OpQ.y (OpY.pure rfl)) ?_
  refine Run.q (v := .tuple #[.int .u64 0, .int .u64 8]) rfl (OpQ.call (vs := [.int .u64 1, .int .u64 8]) (caps := []) Tcall_87 rfl rfl (fun w hs => Mul64_8 w)) ?_
  refine Run.q (v := .tuple #[.int .u64 0, .int .u64 8]) rfl (OpQ.y (OpY.pure rfl)) ?_
  refine Run.q (v := .int .u64 0) rfl (OpQ.y (OpY.pure rfl)) ?_
  refine Run.q (v := .int .u64 8) rfl (OpQ.y (OpY.pure rfl)) ?_
  refine Run.q (v := .int .u64 0) rfl (OpQ.y (OpY.pure rfl)) ?_
  refine Run.q (v := .int .u64 8) rfl (OpQ.y (OpY.pure rfl)) ?_
  refine Run.done ?_
  refine Run.seq ?_
  refine Run.region ?_
  refine Run.q (v := .int .u64 0) rfl (OpQ.y (OpY.pure rfl)) ?_
  refine Run.q (v := .int .u64 8) rfl (OpQ.y (OpY.pure rfl)) ?_
  refine Run.q (v := .int .u64 0) rfl (OpQ.y (OpY.pure rfl)) ?_
  refine Run.q (v := .int .u64 8) rfl (OpQ.y (OpY.pure rfl)) ?_
  refine Run.done ?_
  refine Run.ret ?_
  refine ⟨.tuple #[.int .u64 0, .int .u64 8], [], Out.two rfl rfl rfl, (Some'.weak (.nil _)), ?_⟩
  rfl


theorem Mul_spec {N : Nat} (h1 : 1 ≤ N) (h8 : N ≤ 8) (w : World) : Calls Try.prog 80 #[.int .u64 1, .int .u64 ((N : Nat) : Int)] w (Post No w fun v _ => v = .tuple #[.int .u64 0, .int .u64 ((N : Nat) : Int)]) := by
  rcases (by omega : N = 1 ∨ N = 2 ∨ N = 3 ∨ N = 4 ∨ N = 5 ∨ N = 6 ∨ N = 7 ∨ N = 8) with rfl | rfl | rfl | rfl | rfl | rfl | rfl | rfl
  · exact Mul_1 w
  · exact Mul_2 w
  · exact Mul_3 w
  · exact Mul_4 w
  · exact Mul_5 w
  · exact Mul_6 w
  · exact Mul_7 w
  · exact Mul_8 w
/-- j times -1, then 0. -/
def repL (N j : Nat) : List Int := List.replicate j (-1) ++ List.replicate (N - j) 0
theorem repL_length {N j : Nat} (h : j ≤ N) : (repL N j).length = N := by simp [repL]; omega
theorem repL_all (N : Nat) : repL N N = List.replicate N (-1) := by simp [repL]
theorem repL_zero (N : Nat) : (List.replicate N [Value.int .i64 0]).flatten = ints (repL N 0) := by simp [repL, ints, List.flatten_replicate_singleton]
theorem repL_spl {N j m : Nat} (h : j + m ≤ N) : spl (ints (repL N j)) j (ints (List.replicate m (-1))) = ints (repL N (j + m)) := by
  rw [spl_eq _ _ _ (by simp [repL]; omega)]
  have e1 : (ints (repL N j)).take j = ints (List.replicate j (-1)) := by simp [ints, repL, List.take_append]
  have e2 : (ints (repL N j)).drop (j + (ints (List.replicate m (-1))).length) = ints (List.replicate (N - (j + m)) 0) := by
    simp only [ints_length, List.length_replicate]
    simp only [ints, repL, List.map_append, List.map_replicate, List.drop_append, List.length_replicate, List.drop_replicate]
    rw [show j - (j + m) = 0 by omega, show N - j - (j + m - j) = N - (j + m) by omega]; rfl
  rw [e1, e2]
  simp only [repL, ← ints_append, List.replicate_append_replicate]
theorem repL_take {N j m : Nat} (hm : m ≤ j) : (ints ((repL N j).take (j * 1))).take (m * 1) = ints (List.replicate m (-1)) := by
  simp only [repL, Nat.mul_one, ints, ← List.map_take, List.take_append, List.take_take, List.length_replicate, Nat.sub_self, List.take_zero, List.append_nil, List.take_replicate]
  rw [show min m (min j j) = m by omega]
  simp

set_option maxHeartbeats 1000000 in
set_option maxRecDepth 20000 in
theorem Repeat_spec {N : Nat} {va : Value} {w : World} (h1 : 1 ≤ N) (h8 : N ≤ 8) (ha : Sl w va 1 1 (ints [-1])) : Calls Try.prog 70 #[va, .int .i64 ((N : Nat) : Int)] w (Post No w fun v H => H = [.own v 3 1 N (ints (List.replicate N (-1)))]) := by
  obtain ⟨A, c, rfl, _, _⟩ := ha.form0
  refine enter (n := 48) (args := [.slice A 1 c, .int .i64 (((N : Nat) : Int))]) Try.func70 rfl rfl (St.empty _ _) ?_
  refine Run.seq ?_
  refine Run.region ?_
  refine Run.q (v := .slice none 0 0) rfl (OpQ.y (OpY.pure rfl)) ?_
  refine Run.done ?_
  refine Run.seq ?_
  refine Run.seq ?_
  refine Run.region ?_
  refine Run.q (v := .int .i64 (((N : Nat) : Int))) rfl (OpQ.y (OpY.pure rfl)) ?_
  refine Run.q (v := .bool (decide ((((N : Nat) : Int)) < 0))) rfl (OpQ.y (OpY.pure rfl)) ?_
  refine Run.done ?_
  refine Run.cond (b := decide ((((N : Nat) : Int)) < 0)) rfl (fun h10 => ?_) (fun h10 => ?_)
  · exact absurd h10 (by simp) --DONE
  · have p10 := h10; try simp only [decide_eq_true_eq, decide_eq_false_iff_not, beq_iff_eq, bne_iff_ne, beq_eq_false_iff_ne, ne_eq, gt_iff_lt, ge_iff_le, Int.not_lt, Int.not_le, bne_eq_false_iff_eq, Bool.not_eq_true', Bool.not_eq_false', Bool.and_eq_true, Bool.and_eq_false_iff, Bool.or_eq_true, Bool.or_eq_false_iff, Decidable.not_not, List.cons.injEq, and_true] at p10
    refine Run.skip ?_
    refine Run.seq ?_
    refine Run.region ?_
    refine Run.q (v := .slice A 1 c) rfl (OpQ.y (OpY.pure rfl)) ?_
    refine Run.q (v := .int .i64 1) rfl (OpQ.y (OpY.len Tsl_34 rfl)) ?_
    refine Run.q (v := .int .u64 1) rfl (OpQ.y (OpY.convIntEq Tsome_3 Tint_88 rfl (by first | (rw [IntKind.wrap_u64]; omega) | (rw [IntKind.wrap_i64]; omega)))) ?_
    refine Run.q (v := .int .i64 (((N : Nat) : Int))) rfl (OpQ.y (OpY.pure rfl)) ?_
    refine Run.q (v := .int .u64 (((N : Nat) : Int))) rfl (OpQ.y (OpY.convIntEq Tsome_3 Tint_88 rfl (by first | (rw [IntKind.wrap_u64]; omega) | (rw [IntKind.wrap_i64]; omega)))) ?_
    refine Run.q (v := .tuple #[.int .u64 0, .int .u64 (((N : Nat) : Int))]) rfl (OpQ.call (vs := [.int .u64 1, .int .u64 (((N : Nat) : Int))]) (caps := []) Tcall_80 rfl rfl (fun w hs => Mul_spec h1 h8 w)) ?_
    refine Run.q (v := .tuple #[.int .u64 0, .int .u64 (((N : Nat) : Int))]) rfl (OpQ.y (OpY.pure rfl)) ?_
    refine Run.q (v := .int .u64 0) rfl (OpQ.y (OpY.pure rfl)) ?_
    refine Run.q (v := .int .u64 (((N : Nat) : Int))) rfl (OpQ.y (OpY.pure rfl)) ?_
    refine Run.q (v := .int .u64 0) rfl (OpQ.y (OpY.pure rfl)) ?_
    refine Run.q (v := .int .u64 (((N : Nat) : Int))) rfl (OpQ.y (OpY.pure rfl)) ?_
    refine Run.done ?_
    refine Run.seq ?_
    refine Run.seq ?_
    refine Run.region ?_
    refine Run.q (v := .int .u64 0) rfl (OpQ.y (OpY.pure rfl)) ?_
    refine Run.q (v := .bool false) rfl (OpQ.y (OpY.pure rfl)) ?_
    refine Run.q (v := .bool false) rfl (OpQ.y (OpY.pure rfl)) ?_
    refine Run.q (v := .int .u64 (((N : Nat) : Int))) rfl (OpQ.y (OpY.pure rfl)) ?_
    refine Run.q (v := .bool (decide ((((N : Nat) : Int)) > 9223372036854775807))) rfl (OpQ.y (OpY.pure rfl)) ?_
    refine Run.q (v := .bool (decide ((((N : Nat) : Int)) > 9223372036854775807))) rfl (OpQ.y (OpY.pure rfl)) ?_
    refine Run.done ?_
    refine Run.cond (b := decide ((((N : Nat) : Int)) > 9223372036854775807)) rfl (fun h26 => ?_) (fun h26 => ?_)
    · exact absurd h26 (by simp; omega) --DONE
    · have p26 := h26; try simp only [decide_eq_true_eq, decide_eq_false_iff_not, beq_iff_eq, bne_iff_ne, beq_eq_false_iff_ne, ne_eq, gt_iff_lt, ge_iff_le, Int.not_lt, Int.not_le, bne_eq_false_iff_eq, Bool.not_eq_true', Bool.not_eq_false', Bool.and_eq_true, Bool.and_eq_false_iff, Bool.or_eq_true, Bool.or_eq_false_iff, Decidable.not_not, List.cons.injEq, and_true] at p26
      refine Run.skip ?_
      refine Run.seq ?_
      refine Run.region ?_
      refine Run.q (v := .int .u64 (((N : Nat) : Int))) rfl (OpQ.y (OpY.pure rfl)) ?_
      refine Run.q (v := .int .i64 (((N : Nat) : Int))) rfl (OpQ.y (OpY.convIntEq Tsome_88 Tint_3 rfl (by first | (rw [IntKind.wrap_u64]; omega) | (rw [IntKind.wrap_i64]; omega)))) ?_
      refine Run.step rfl (OpStep.makeSlice (n := N) Tsl_34 rfl (by decide) (by first | rfl | omega) (by first | rfl | omega) (by omega) (by simp only [maxLen]; omega) fun b1 => ?_)
      refine Run.q (v := .slice (some ⟨b1, 0, none⟩) N N) rfl (OpQ.y (OpY.pure rfl)) ?_
      refine Run.done ?_
      refine Run.seq ?_
      refine Run.region ?_
      refine Run.q (v := .slice (some ⟨b1, 0, none⟩) N N) rfl (OpQ.y (OpY.pure rfl)) ?_
      refine Run.q (v := .slice A 1 c) rfl (OpQ.y (OpY.pure rfl)) ?_
      refine Run.step rfl (OpStep.copyOwn (g := b1) (o := 0) (sn := 1) (cnt := 1) (cs := (List.replicate N ([.int .i64 0] : List Value)).flatten) (ys := ints [-1]) (us := ints [-1]) Tsl_34 rfl rfl (fun w hs => hs.sl ha) (by omega) (by show min 1 N = 1; omega) (by rfl) (by simp [ints, Value.oneCell']) (by rw [show spl ((List.replicate N ([.int .i64 0] : List Value)).flatten) 0 (ints [-1]) = ints (repL N 1) from by rw [repL_zero]; exact repL_spl (m := 1) (by omega)]; exact (.here _)) (by omega) ?_)
      refine Run.q (v := .int .i64 (((1 : Nat) : Int))) rfl (OpQ.y (OpY.pure rfl)) ?_
      refine Run.done ?_
      refine Run.seq ?_
      refine Run.block ?_
      refine Run.loop (ι := Nat) [8, 34, 35, 36, 37, 38, 39, 40, 41, 42, 43, 44, 45, 46] (fun j => [(8, .int .i64 (((j : Nat) : Int)))]) (fun j => [.own (.slice (some ⟨b1, 0, none⟩) N N) 3 1 N (ints (repL N j))]) (fun j => 1 ≤ j ∧ j ≤ N) (fun j => N - j) 1 ?_ ?_ ?_ ?_
      · omega
      · exact ⟨rfl, trivial⟩
      · exact (Some'.weak (.takeEq (by first | rfl | simp) (.nil _)))
      · rintro j fr hinv
        show Run _ _ (over _ _ [(8, .int .i64 (((j : Nat) : Int)))] fr) [.own (.slice (some ⟨b1, 0, none⟩) N N) 3 1 N (ints (repL N j))]
        try dsimp only at hinv
        refine Run.seq ?_
        refine Run.seq ?_
        refine Run.region ?_
        refine Run.q (v := .int .i64 (((j : Nat) : Int))) rfl (OpQ.y (OpY.pure rfl)) ?_
        refine Run.q (v := .slice (some ⟨b1, 0, none⟩) N N) rfl (OpQ.y (OpY.pure rfl)) ?_
        refine Run.q (v := .int .i64 (((N : Nat) : Int))) rfl (OpQ.y (OpY.len Tsl_34 rfl)) ?_
        refine Run.q (v := .bool (decide ((((j : Nat) : Int)) < (((N : Nat) : Int))))) rfl (OpQ.y (OpY.pure rfl)) ?_
        refine Run.done ?_
        refine Run.cond (b := decide ((((j : Nat) : Int)) < (((N : Nat) : Int)))) rfl (fun h37 => ?_) (fun h37 => ?_)
        · have p37 := h37; try simp only [decide_eq_true_eq, decide_eq_false_iff_not, beq_iff_eq, bne_iff_ne, beq_eq_false_iff_ne, ne_eq, gt_iff_lt, ge_iff_le, Int.not_lt, Int.not_le, bne_eq_false_iff_eq, Bool.not_eq_true', Bool.not_eq_false', Bool.and_eq_true, Bool.and_eq_false_iff, Bool.or_eq_true, Bool.or_eq_false_iff, Decidable.not_not, List.cons.injEq, and_true] at p37
          refine Run.skip ?_
          refine Run.block ?_
          refine Run.heldB (base := []) (by kernel_rfl) ?_
          refine DW.take (i := 0) (v := .int .i64 (((j : Nat) : Int))) rfl (by kernel_rfl) (by kernel_rfl) (by kernel_rfl) (fun _ _ _ h => h) (Some'.weak (.nil _)) rfl (OpY.pure rfl) ?_
          refine DW.take (i := 1) (v := .slice (some ⟨b1, 0, none⟩) N N) rfl (by kernel_rfl) (by kernel_rfl) (by kernel_rfl) (fun _ _ _ h => h) (Some'.weak (.nil _)) rfl (OpY.pure rfl) ?_
          refine DW.take (i := 2) (v := .int .i64 (((j : Nat) : Int))) rfl (by kernel_rfl) (by kernel_rfl) (by kernel_rfl) (fun _ _ _ h => h) (Some'.weak (.nil _)) rfl (OpY.pure rfl) ?_
          refine DW.take (i := 3) (v := .slice (some ⟨b1, 0 + j * 1, none⟩) (N - j) (N - j)) rfl (by kernel_rfl) (by kernel_rfl) (by kernel_rfl) (fun _ _ _ h => h) (Some'.weak (.nil _)) rfl (OpY.sliceLN (l := j) Tsl_34 rfl rfl rfl (by omega) (by omega)) ?_
          refine DW.take (i := 4) (v := .slice (some ⟨b1, 0, none⟩) N N) rfl (by kernel_rfl) (by kernel_rfl) (by kernel_rfl) (fun _ _ _ h => h) (Some'.weak (.nil _)) rfl (OpY.pure rfl) ?_
          refine DW.take (i := 5) (v := .int .i64 (((j : Nat) : Int))) rfl (by kernel_rfl) (by kernel_rfl) (by kernel_rfl) (fun _ _ _ h => h) (Some'.weak (.nil _)) rfl (OpY.pure rfl) ?_
          refine DW.take (i := 6) (v := .slice (some ⟨b1, 0, none⟩) j N) rfl (by kernel_rfl) (by kernel_rfl) (by kernel_rfl) (fun _ _ _ h => h) (Some'.weak (.nil _)) rfl (OpY.sliceHN (h := j) Tsl_34 rfl rfl rfl (by omega)) ?_
          refine DW.step (i := 7) (by kernel_rfl) rfl rfl (OpStep.copyOwn (g := b1) (o := 0 + j * 1) (sn := j) (cnt := (min j (N - j))) (cs := ints (repL N j)) (ys := ints ((repL N j).take (j * 1))) (us := ints (List.replicate (min j (N - j)) (-1))) Tsl_34 rfl rfl (fun w hs => (hs.slOwn (.head _)).take (by omega)) (by omega) (by rfl) (by exact repL_take (by omega)) (by simp [ints, Value.oneCell']) (by rw [show spl (ints (repL N j)) (0 + j * 1) (ints (List.replicate (min j (N - j)) (-1))) = ints (repL N (j + min j (N - j))) from by rw [Nat.zero_add, Nat.mul_one]; exact repL_spl (by omega)]; exact (.here _)) (by omega) ?_)
          refine ⟨(Some'.weak (.nil _)), ?_⟩
          refine DW.take (i := 8) (v := .int .i64 ((((j : Nat) : Int)) + ((((min j (N - j)) : Nat) : Int)))) rfl (by kernel_rfl) (by kernel_rfl) (by kernel_rfl) (fun _ _ _ h => h) (Some'.weak (.nil _)) rfl (OpY.add rfl rfl rfl (by omega) (by omega)) ?_
          refine DW.take (i := 9) (v := .int .i64 ((((j : Nat) : Int)) + ((((min j (N - j)) : Nat) : Int)))) rfl (by kernel_rfl) (by kernel_rfl) (by kernel_rfl) (fun _ _ _ h => h) (Some'.weak (.nil _)) rfl (OpY.pure rfl) ?_
          refine DW.done (by kernel_rfl) ?_
          refine Run.blockEnd ?_
          refine Run.goal ⟨(by repeat (first | exact Same.refl _ _ | refine Same.put rfl ?_ | refine Same.over rfl rfl ?_)), j + min j (N - j), ?_, ?_, ?_, ?_⟩
          · omega
          · omega
          · exact ⟨(by show Value.int _ _ = Value.int _ _; congr 1 <;> omega), trivial⟩
          · exact (Some'.weak (.takeEq (by first | rfl | simp) (.nil _)))
        · have p37 := h37; try simp only [decide_eq_true_eq, decide_eq_false_iff_not, beq_iff_eq, bne_iff_ne, beq_eq_false_iff_ne, ne_eq, gt_iff_lt, ge_iff_le, Int.not_lt, Int.not_le, bne_eq_false_iff_eq, Bool.not_eq_true', Bool.not_eq_false', Bool.and_eq_true, Bool.and_eq_false_iff, Bool.or_eq_true, Bool.or_eq_false_iff, Decidable.not_not, List.cons.injEq, and_true] at p37
          have hjN : j = N := by omega
          refine Run.exit rfl ?_
          refine Run.seq ?_
          refine Run.region ?_
          refine Run.q (v := .slice (some ⟨b1, 0, none⟩) N N) rfl (OpQ.y (OpY.pure rfl)) ?_
          refine Run.q (v := .slice (some ⟨b1, 0, none⟩) N N) rfl (OpQ.y (OpY.pure rfl)) ?_
          refine Run.done ?_
          refine Run.ret ?_
          refine ⟨.slice (some ⟨b1, 0, none⟩) N N, [.own (.slice (some ⟨b1, 0, none⟩) N N) 3 1 N (ints (List.replicate N (-1)))], Out.one rfl rfl, (Some'.weak (.takeEq (by rw [hjN, repL_all]) (.nil _))), ?_⟩
          rfl


/-- Two nodes are connected, by their numbers. -/
def adjN (xs : List Int) (n : Nat) (a b : Nat) : Bool := adj xs n a b
/-- The distances from node s. -/
noncomputable def distL (xs : List Int) (n N s : Nat) : List Int := Classical.epsilon (IsDist (adjN xs n) N s)
theorem distL_eq {xs : List Int} {n N s : Nat} {o : List Int} (h : IsDist (adjN xs n) N s o) : distL xs n N s = o := (Classical.epsilon_spec (p := IsDist (adjN xs n) N s) ⟨o, h⟩).unique h
theorem filterL_get {p : Nat → Bool} : ∀ {N i : Nat}, i < (filterL p N).length → ∃ v, v < N ∧ p v = true ∧ ix (filterL p N) i = v
  | 0, i, h => by simp [filterL] at h
  | N + 1, i, h => by
    simp only [filterL] at h ⊢
    by_cases e : i < (filterL p N).length
    · obtain ⟨v, h1, h2, h3⟩ := filterL_get e
      exact ⟨v, by omega, h2, by rw [ix_append_left e]; exact h3⟩
    · cases hp : p N with
      | false => rw [hp] at h; simp at h; omega
      | true =>
        rw [hp] at h; simp only [if_true, List.length_append, List.length_cons, List.length_nil] at h
        have e2 : i = (filterL p N).length := by omega
        refine ⟨N, by omega, hp, ?_⟩
        simp only [if_true]; rw [e2]; exact ix_append_one
theorem filterL_mem {p : Nat → Bool} : ∀ {N v : Nat}, v < N → p v = true → ∃ i, i < (filterL p N).length ∧ ix (filterL p N) i = v
  | 0, v, h, _ => by omega
  | N + 1, v, h, hp => by
    simp only [filterL]
    by_cases e : v < N
    · obtain ⟨i, h1, h2⟩ := filterL_mem e hp
      exact ⟨i, by simp only [List.length_append]; omega, by rw [ix_append_left h1]; exact h2⟩
    · have e2 : v = N := by omega
      subst e2
      rw [hp]
      exact ⟨(filterL p v).length, by simp, by simp only [if_true]; exact ix_append_one⟩
theorem nb_get {M : Nat} {xs : List Int} {n : Nat} {u : Int} {m : Nat} (h : m < (nbL (M : Int) xs n u).length) : 0 ≤ ix (nbL (M : Int) xs n u) m ∧ ix (nbL (M : Int) xs n u) m < M ∧ adj xs n u (ix (nbL (M : Int) xs n u) m) = true := by
  obtain ⟨v, h1, h2, h3⟩ := filterL_get h
  simp only [Int.toNat_natCast] at h1
  refine ⟨by rw [nbL, h3]; omega, by rw [nbL, h3]; omega, by rw [nbL, h3]; exact h2⟩
theorem nb_mem {M : Nat} {xs : List Int} {n : Nat} {u : Int} {v : Nat} (hv : v < M) (ha : adj xs n u v = true) : ∃ i, i < (nbL (M : Int) xs n u).length ∧ ix (nbL (M : Int) xs n u) i = v := filterL_mem (by simpa using hv) ha
theorem bfs_push {A : Nat → Nat → Bool} {N s : Nat} {q : List Int} {t : Nat} {o : List Int} (h : InQ A N s q t o) (ht : t < q.length) {k : Int} (h0 : 0 ≤ k) (hk : k < N) (hneg : ix o k.toNat < 0) (ha : A (ix q t).toNat k.toNat = true) :
    InQ A N s (q ++ [k]) t (o.set k.toNat (ix o (ix q t).toNat + 1)) := by
  have := h.push ht (k := k.toNat) (by omega) hneg ha
  rwa [Int.toNat_of_nonneg h0] at this
theorem met_set {o : List Int} {f : Nat → Nat} {m : Nat} {a : Int} (h : ∀ i, i < m → 0 ≤ ix o (f i)) (hl : ∀ i, i < m + 1 → f i < o.length) (ha : 0 ≤ a) : ∀ i, i < m + 1 → 0 ≤ ix (o.set (f m) a) (f i) := by
  intro i hi
  rw [ix_set (hl i hi)]
  split
  · exact ha
  · rename_i hne
    exact h i (by rcases Nat.lt_succ_iff_lt_or_eq.1 hi with h1 | h1; exact h1; exact absurd (by rw [h1]) hne)
theorem met_keep {o : List Int} {f : Nat → Nat} {m : Nat} (h : ∀ i, i < m → 0 ≤ ix o (f i)) (hm : 0 ≤ ix o (f m)) : ∀ i, i < m + 1 → 0 ≤ ix o (f i) := by
  intro i hi
  rcases Nat.lt_succ_iff_lt_or_eq.1 hi with h1 | h1
  · exact h i h1
  · rw [h1]; exact hm
theorem repL_set {N k : Nat} (h : k < N) : (repL N k).set k (-1) = repL N (k + 1) := by
  have e : N - k = (N - (k + 1)) + 1 := by omega
  rw [repL, e, List.replicate_succ, List.set_append_right _ _ (by simp)]
  simp only [List.length_replicate, Nat.sub_self, List.set_cons_zero]
  rw [repL, List.replicate_succ', List.append_assoc]; rfl
theorem InRound.same {A : Nat → Nat → Bool} {N d i k : Nat} {o0 o : List Int} (h : InRound A N d i k o0 o) {u : Nat} (hu : u < N) : ix o u = d ↔ ix o0 u = d := by
  by_cases e : 0 ≤ ix o0 u
  · rw [h.old u hu e]
  · rcases h.new u hu (by omega) with h1 | ⟨h1, _⟩
    · rw [h1]
    · rw [h1]; omega

set_option maxHeartbeats 1000000 in
set_option maxRecDepth 20000 in
theorem distances_spec {N node : Int} {va : Value} {n : Nat} {xs : List Int} {w : World} (hN : 1 ≤ N ∧ N ≤ 8) (hnode : 0 ≤ node ∧ node < N) (he : edgesOk N xs n = true) (ha : Sl w va 2 n (ints xs)) : Calls Try.prog 42 #[.agg #[.int .i64 N, va], .int .i64 node] w (Post No w fun v H => IsDist (adjN xs n) N.toNat node.toNat (distL xs n N.toNat node.toNat) ∧ H = [.own v 3 1 N.toNat (ints (distL xs n N.toNat node.toNat))]) := by
  obtain ⟨M, rfl⟩ : ∃ M : Nat, N = M := ⟨N.toNat, by omega⟩
  obtain ⟨s, rfl⟩ : ∃ s : Nat, node = s := ⟨node.toNat, by omega⟩
  have hs : s < M := by omega
  refine enter (n := 58) (args := [.agg #[.int .i64 (((M : Nat) : Int)), va], .int .i64 (((s : Nat) : Int))]) Try.func42 rfl rfl (St.empty _ _) ?_
  refine Run.seq ?_
  refine Run.region ?_
  refine Run.step rfl (OpStep.box (us := [.int .i64 (((M : Nat) : Int)), va]) rfl fun b1 => ?_)
  refine Run.q (v := .slice none 0 0) rfl (OpQ.y (OpY.pure rfl)) ?_
  refine Run.done ?_
  refine Run.seq ?_
  refine Run.region ?_
  refine Run.step rfl (OpStep.buildSlice (us := [.int .i64 (-1)]) Tsl_34 (by decide) (by decide) ⟨rfl, [.int .i64 (-1)], _, rfl, rfl, rfl, rfl⟩ rfl fun b2 => ?_)
  refine Run.q (v := .pointer (some ⟨b1, 0, none⟩)) rfl (OpQ.y (OpY.fieldAddr Tfo_25_0 rfl rfl)) ?_
  refine Run.q (v := .int .i64 (((M : Nat) : Int))) rfl (OpQ.y (OpY.load1 Tone_3 rfl (Cells.blk (.tail _ (List.Mem.head _)) ⟨rfl, trivial⟩))) ?_
  refine Run.step rfl (OpStep.call (vs := [.slice (some ⟨b2, 0, none⟩) 1 1, .int .i64 (((M : Nat) : Int))]) (caps := []) Tcall_70 rfl rfl (fun w hs => Repeat_spec (by omega) (by omega) (hs.slOwn (.head _))) ?_)
  rintro uo _ rfl
  show Run _ _ (putF _ _ _ uo) [.own uo 3 1 M (ints (List.replicate M (-1))), .own (.slice (some ⟨b2, 0, none⟩) 1 1) 3 1 1 ([.int .i64 (-1)]), .blk b1 25 [.int .i64 (((M : Nat) : Int)), va]]
  refine Run.q (v := uo) rfl (OpQ.y (OpY.pure rfl)) ?_
  refine Run.done ?_
  refine Run.seq ?_
  refine Run.openOwn (.head _) (by omega) (fun go cgo hvgo hcapgo _ => ?_) (fun _ _ _ => ⟨nofun, nofun, nofun⟩)
  subst hvgo
  refine Run.region ?_
  refine Run.q (v := .slice (some ⟨go, 0, none⟩) M cgo) rfl (OpQ.y (OpY.pure rfl)) ?_
  refine Run.q (v := .int .i64 (((s : Nat) : Int))) rfl (OpQ.y (OpY.pure rfl)) ?_
  refine Run.q (v := .pointer (some ⟨go, s, none⟩)) rfl (OpQ.y (OpY.index (kk := s) Tsl_34 rfl rfl (by omega) (by omega) (by first | rfl | omega))) ?_
  refine Run.step rfl (OpStep.storeOwnInt (o := s) (a := 0) Tsize_3 rfl rfl (.here _) (by omega) ?_)
  refine Run.done ?_
  refine Run.seq ?_
  refine Run.region ?_
  refine Run.q (v := .int .i64 (((s : Nat) : Int))) rfl (OpQ.y (OpY.pure rfl)) ?_
  refine Run.step rfl (OpStep.buildSlice (us := [.int .i64 (((s : Nat) : Int))]) Tsl_34 (by decide) (by decide) ⟨rfl, [.int .i64 (((s : Nat) : Int))], _, rfl, rfl, rfl, rfl⟩ rfl fun b3 => ?_)
  refine Run.q (v := .slice (some ⟨b3, 0, none⟩) 1 1) rfl (OpQ.y (OpY.pure rfl)) ?_
  refine Run.done ?_
  refine Run.seq ?_
  refine Run.seq ?_
  refine Run.region ?_
  refine Run.q (v := .int .i64 0) rfl (OpQ.y (OpY.pure rfl)) ?_
  refine Run.done ?_
  refine Run.block ?_
  refine Run.loop (ι := Nat × Value × List Int × List Int) [6, 7, 9, 19, 20, 21, 22, 23, 24, 25, 26, 27, 28, 29, 30, 31, 32, 33, 34, 35, 36, 37, 38, 39, 40, 41, 42, 43, 44, 45, 46, 47, 48, 49, 50, 51, 52, 53, 54, 55, 56] (fun ⟨t, v, q, o⟩ => [(6, v), (7, .int .i64 (((t : Nat) : Int)))]) (fun ⟨t, v, q, o⟩ => [.own v 3 1 (q.length) (ints q), .own (.slice (some ⟨go, 0, none⟩) M cgo) 3 1 M (ints o), .own (.slice (some ⟨b2, 0, none⟩) 1 1) 3 1 1 ([.int .i64 (-1)]), .blk b1 25 [.int .i64 (((M : Nat) : Int)), va]]) (fun ⟨t, v, q, o⟩ => InQ (adjN xs n) M s q t o ∧ t ≤ q.length) (fun ⟨t, v, q, o⟩ => M + 1 - t) (0, .slice (some ⟨b3, 0, none⟩) 1 1, [(s : Int)], (List.replicate M (-1)).set s 0) ?_ ?_ ?_ ?_
  · exact ⟨InQ.start hs, Nat.zero_le _⟩
  · exact ⟨rfl, rfl, trivial⟩
  · exact (Some'.weak (.takeEq (by first | rfl | simp) (.takeEq (by first | rfl | simp) (.take (.take (.nil _))))))
  · rintro ⟨t, v, q, o⟩ fr hinv
    show Run _ _ (over _ _ [(6, v), (7, .int .i64 (((t : Nat) : Int)))] fr) [.own v 3 1 (q.length) (ints q), .own (.slice (some ⟨go, 0, none⟩) M cgo) 3 1 M (ints o), .own (.slice (some ⟨b2, 0, none⟩) 1 1) 3 1 1 ([.int .i64 (-1)]), .blk b1 25 [.int .i64 (((M : Nat) : Int)), va]]
    try dsimp only at hinv
    refine Run.seq ?_
    refine Run.seq ?_
    refine Run.region ?_
    refine Run.q (v := .int .i64 (((t : Nat) : Int))) rfl (OpQ.y (OpY.pure rfl)) ?_
    refine Run.q (v := v) rfl (OpQ.y (OpY.pure rfl)) ?_
    refine Run.formOwn (.head _) (fun A_v1 c_v1 hv hcapc_v1 hmaxc_v1 => ?_) (fun _ _ _ => ⟨nofun, nofun, nofun⟩)
    subst hv
    refine Run.q (v := .int .i64 (((q.length : Nat) : Int))) rfl (OpQ.y (OpY.len Tsl_34 rfl)) ?_
    refine Run.q (v := .bool (decide ((((t : Nat) : Int)) < (((q.length : Nat) : Int))))) rfl (OpQ.y (OpY.pure rfl)) ?_
    refine Run.done ?_
    refine Run.cond (b := decide ((((t : Nat) : Int)) < (((q.length : Nat) : Int)))) rfl (fun h22 => ?_) (fun h22 => ?_)
    · have p22 := h22; try simp only [decide_eq_true_eq, decide_eq_false_iff_not, beq_iff_eq, bne_iff_ne, beq_eq_false_iff_ne, ne_eq, gt_iff_lt, ge_iff_le, Int.not_lt, Int.not_le, bne_eq_false_iff_eq, Bool.not_eq_true', Bool.not_eq_false', Bool.and_eq_true, Bool.and_eq_false_iff, Bool.or_eq_true, Bool.or_eq_false_iff, Decidable.not_not, List.cons.injEq, and_true] at p22
      have hlt : t < q.length := by omega
      have hnd := hinv.1.node t hlt
      have hsz := hinv.1.size
      refine Run.openOwn (.head _) (by omega) (fun gq cgq hvgq hcapgq _ => ?_) (fun _ _ _ => ⟨nofun, nofun, nofun⟩)
      injection hvgq with hAgq _ hcgq; subst hAgq; subst hcgq
      refine Run.skip ?_
      refine Run.seq ?_
      refine Run.block ?_
      refine Run.seq ?_
      refine Run.held (by kernel_rfl) ?_
      refine DW.take (i := 0) (v := .agg #[.int .i64 (((M : Nat) : Int)), va]) rfl (by kernel_rfl) (by kernel_rfl) (by kernel_rfl) (fun _ _ _ h => h) (Weak.refl _) rfl (OpY.loadN (cs := [.int .i64 (((M : Nat) : Int)), va]) Tagg_25 rfl (Cells.blk (.tail _ (.tail _ (.tail _ (List.Mem.head _)))) ⟨rfl, rfl, trivial⟩)) ?_
      refine DW.take (i := 1) (v := .slice (some ⟨gq, 0, none⟩) (q.length) c_v1) rfl (by kernel_rfl) (by kernel_rfl) (by kernel_rfl) (fun _ _ _ h => h) (Weak.refl _) rfl (OpY.pure rfl) ?_
      refine DW.take (i := 2) (v := .int .i64 (((t : Nat) : Int))) rfl (by kernel_rfl) (by kernel_rfl) (by kernel_rfl) (fun _ _ _ h => h) (Weak.refl _) rfl (OpY.pure rfl) ?_
      refine DW.take (i := 3) (v := .pointer (some ⟨gq, t, none⟩)) rfl (by kernel_rfl) (by kernel_rfl) (by kernel_rfl) (fun _ _ _ h => h) (Weak.refl _) rfl (OpY.index (kk := t) Tsl_34 rfl rfl (by omega) (by omega) (by first | rfl | omega)) ?_
      refine DW.take (i := 4) (v := .int .i64 (ix q (t))) rfl (by kernel_rfl) (by kernel_rfl) (by kernel_rfl) (fun _ _ _ h => h) (Weak.refl _) rfl (OpY.load1 Tone_3 rfl (Cells.own0 (.head _) (pre1 (by omega)))) ?_
      refine DW.take (i := 7) (v := .int .i64 0) rfl (by kernel_rfl) (by kernel_rfl) (by kernel_rfl) (fun _ _ _ h => h) (Weak.refl _) rfl (OpY.pure rfl) ?_
      refine DW.step (i := 5) (by kernel_rfl) rfl rfl (OpStep.call (vs := [.agg #[.int .i64 (((M : Nat) : Int)), va], .int .i64 (ix q (t))]) (caps := []) Tcall_53 rfl rfl (fun w hs => near_spec hN he (hs.sl ha)) ?_)
      rintro nb _ rfl
      refine ⟨(Some'.weak (.skip (.take (.take (.take (.take (.nil _))))))), ?_⟩
      refine DW.formOwn (.head _) (fun A_nb1 c_nb1 hv hcapc_nb1 hmaxc_nb1 => ?_)
      subst hv
      refine DW.take (i := 6) (v := .int .i64 ((((nbL ((M : Nat) : Int) xs n (ix q (t))).length : Nat) : Int))) rfl (by kernel_rfl) (by kernel_rfl) (by kernel_rfl) (fun _ _ _ h => h) (Some'.weak (.skip (.take (.take (.take (.take (.nil _))))))) rfl (OpY.len Tsl_34 rfl) ?_
      refine DW.done (by kernel_rfl) ?_
      refine Run.block ?_
      refine Run.loop (ι := Nat × Value × List Int × List Int) [6, 9, 32, 33, 34, 35, 36, 37, 38, 39, 40, 41, 42, 43, 44, 45, 46, 47, 48, 49, 50, 51, 52, 53, 54, 55, 56] (fun ⟨m, v2, q2, o2⟩ => [(6, v2), (32, .int .i64 (((m : Nat) : Int)))]) (fun ⟨m, v2, q2, o2⟩ => [.own (.slice A_nb1 ((nbL ((M : Nat) : Int) xs n (ix q (t))).length) c_nb1) 3 1 ((nbL ((M : Nat) : Int) xs n (ix q (t))).length) (ints (nbL ((M : Nat) : Int) xs n (ix q (t)))), .own v2 3 1 (q2.length) (ints q2), .own (.slice (some ⟨go, 0, none⟩) M cgo) 3 1 M (ints o2), .own (.slice (some ⟨b2, 0, none⟩) 1 1) 3 1 1 ([.int .i64 (-1)]), .blk b1 25 [.int .i64 (((M : Nat) : Int)), va]]) (fun ⟨m, v2, q2, o2⟩ => InQ (adjN xs n) M s q2 t o2 ∧ t < q2.length ∧ ix q2 t = ix q t ∧ (∀ i, i < m → 0 ≤ ix o2 (ix (nbL ((M : Nat) : Int) xs n (ix q (t))) i).toNat) ∧ m ≤ (nbL ((M : Nat) : Int) xs n (ix q (t))).length) (fun ⟨m, v2, q2, o2⟩ => (nbL ((M : Nat) : Int) xs n (ix q (t))).length - m) (0, .slice (some ⟨gq, 0, none⟩) (q.length) c_v1, q, o) ?_ ?_ ?_ ?_
      · exact ⟨hinv.1, hlt, rfl, fun i hi => absurd hi (by omega), Nat.zero_le _⟩
      · exact ⟨rfl, rfl, trivial⟩
      · exact (Some'.weak (.take (.takeEq (by first | rfl | simp) (.takeEq (by first | rfl | simp) (.take (.take (.nil _)))))))
      · rintro ⟨m, v2, q2, o2⟩ fr hinv
        show Run _ _ (over _ _ [(6, v2), (32, .int .i64 (((m : Nat) : Int)))] fr) [.own (.slice A_nb1 ((nbL ((M : Nat) : Int) xs n (ix q (t))).length) c_nb1) 3 1 ((nbL ((M : Nat) : Int) xs n (ix q (t))).length) (ints (nbL ((M : Nat) : Int) xs n (ix q (t)))), .own v2 3 1 (q2.length) (ints q2), .own (.slice (some ⟨go, 0, none⟩) M cgo) 3 1 M (ints o2), .own (.slice (some ⟨b2, 0, none⟩) 1 1) 3 1 1 ([.int .i64 (-1)]), .blk b1 25 [.int .i64 (((M : Nat) : Int)), va]]
        try dsimp only at hinv
        obtain ⟨hq, hlt2, hqt, hmet, hml⟩ := hinv
        refine Run.seq ?_
        refine Run.region ?_
        refine Run.q (v := .bool (decide ((((m : Nat) : Int)) < ((((nbL ((M : Nat) : Int) xs n (ix q (t))).length : Nat) : Int))))) rfl (OpQ.y (OpY.pure rfl)) ?_
        refine Run.done ?_
        refine Run.seq ?_
        refine Run.cond (b := decide ((((m : Nat) : Int)) < ((((nbL ((M : Nat) : Int) xs n (ix q (t))).length : Nat) : Int)))) rfl (fun h33 => ?_) (fun h33 => ?_)
        · have p33 := h33; try simp only [decide_eq_true_eq, decide_eq_false_iff_not, beq_iff_eq, bne_iff_ne, beq_eq_false_iff_ne, ne_eq, gt_iff_lt, ge_iff_le, Int.not_lt, Int.not_le, bne_eq_false_iff_eq, Bool.not_eq_true', Bool.not_eq_false', Bool.and_eq_true, Bool.and_eq_false_iff, Bool.or_eq_true, Bool.or_eq_false_iff, Decidable.not_not, List.cons.injEq, and_true] at p33
          have hltm : m < (nbL ((M : Nat) : Int) xs n (ix q (t))).length := by omega
          have hk := nb_get hltm
          have hol := hq.len
          have hsz2 := hq.size
          have hnl : (nbL ((M : Nat) : Int) xs n (ix q (t))).length ≤ 8 := by have := filterL_le (fun k => adj xs n (ix q (t)) k) ((M : Nat) : Int).toNat; simp only [nbL]; omega
          refine Run.openOwn (.head _) (by omega) (fun gn cgn hvgn hcapgn _ => ?_) (fun _ _ _ => ⟨nofun, nofun, nofun⟩)
          injection hvgn with hAgn _ hcgn; subst hAgn; subst hcgn
          refine Run.skip ?_
          refine Run.seq ?_
          refine Run.block ?_
          refine Run.seq ?_
          refine Run.region ?_
          refine Run.q (v := .pointer (some ⟨gn, m, none⟩)) rfl (OpQ.y (OpY.index (kk := m) Tsl_34 rfl rfl (by omega) (by omega) (by first | rfl | omega))) ?_
          refine Run.q (v := .int .i64 (ix (nbL ((M : Nat) : Int) xs n (ix q (t))) (m))) rfl (OpQ.y (OpY.load1 Tone_3 rfl (Cells.own0 (.head _) (pre1 (by omega))))) ?_
          refine Run.q (v := .int .i64 (ix (nbL ((M : Nat) : Int) xs n (ix q (t))) (m))) rfl (OpQ.y (OpY.pure rfl)) ?_
          refine Run.done ?_
          refine Run.seq ?_
          refine Run.region ?_
          refine Run.q (v := .slice (some ⟨go, 0, none⟩) M cgo) rfl (OpQ.y (OpY.pure rfl)) ?_
          refine Run.q (v := .int .i64 (ix (nbL ((M : Nat) : Int) xs n (ix q (t))) (m))) rfl (OpQ.y (OpY.pure rfl)) ?_
          refine Run.q (v := .pointer (some ⟨go, (ix (nbL ((M : Nat) : Int) xs n (ix q (t))) (m)).toNat, none⟩)) rfl (OpQ.y (OpY.index (kk := (ix (nbL ((M : Nat) : Int) xs n (ix q (t))) (m)).toNat) Tsl_34 rfl rfl (by omega) (by omega) (by first | rfl | omega))) ?_
          refine Run.q (v := .int .i64 (ix o2 ((ix (nbL ((M : Nat) : Int) xs n (ix q (t))) (m)).toNat))) rfl (OpQ.y (OpY.load1 Tone_3 rfl (Cells.own0 (.tail _ (.tail _ (List.Mem.head _))) (pre1 (by omega))))) ?_
          refine Run.q (v := .bool (decide ((ix o2 ((ix (nbL ((M : Nat) : Int) xs n (ix q (t))) (m)).toNat)) < 0))) rfl (OpQ.y (OpY.pure rfl)) ?_
          refine Run.done ?_
          refine Run.cond (b := decide ((ix o2 ((ix (nbL ((M : Nat) : Int) xs n (ix q (t))) (m)).toNat)) < 0)) rfl (fun h40 => ?_) (fun h40 => ?_)
          · have p40 := h40; try simp only [decide_eq_true_eq, decide_eq_false_iff_not, beq_iff_eq, bne_iff_ne, beq_eq_false_iff_ne, ne_eq, gt_iff_lt, ge_iff_le, Int.not_lt, Int.not_le, bne_eq_false_iff_eq, Bool.not_eq_true', Bool.not_eq_false', Bool.and_eq_true, Bool.and_eq_false_iff, Bool.or_eq_true, Bool.or_eq_false_iff, Decidable.not_not, List.cons.injEq, and_true] at p40
            have hnd2 := hq.node t hlt2
            have hvl := hq.val t hlt2
            have hlv := level_lt hs hq.src hq.par (v := (ix q2 t).toNat) (by omega)
            refine Run.openOwn (.tail _ (List.Mem.head _)) (by omega) (fun gw cgw hvgw hcapgw _ => ?_) (fun _ _ _ => ⟨nofun, nofun, nofun⟩)
            subst hvgw
            refine Run.seq ?_
            refine Run.region ?_
            refine Run.q (v := .slice (some ⟨go, 0, none⟩) M cgo) rfl (OpQ.y (OpY.pure rfl)) ?_
            refine Run.q (v := .int .i64 (ix (nbL ((M : Nat) : Int) xs n (ix q (t))) (m))) rfl (OpQ.y (OpY.pure rfl)) ?_
            refine Run.q (v := .slice (some ⟨go, 0, none⟩) M cgo) rfl (OpQ.y (OpY.pure rfl)) ?_
            refine Run.q (v := .slice (some ⟨gw, 0, none⟩) (q2.length) cgw) rfl (OpQ.y (OpY.pure rfl)) ?_
            refine Run.q (v := .int .i64 (((t : Nat) : Int))) rfl (OpQ.y (OpY.pure rfl)) ?_
            refine Run.q (v := .pointer (some ⟨gw, t, none⟩)) rfl (OpQ.y (OpY.index (kk := t) Tsl_34 rfl rfl (by omega) (by omega) (by first | rfl | omega))) ?_
            refine Run.q (v := .int .i64 (ix q2 (t))) rfl (OpQ.y (OpY.load1 Tone_3 rfl (Cells.own0 (.tail _ (List.Mem.head _)) (pre1 (by omega))))) ?_
            refine Run.q (v := .pointer (some ⟨go, (ix q2 (t)).toNat, none⟩)) rfl (OpQ.y (OpY.index (kk := (ix q2 (t)).toNat) Tsl_34 rfl rfl (by omega) (by omega) (by first | rfl | omega))) ?_
            refine Run.q (v := .int .i64 (ix o2 ((ix q2 (t)).toNat))) rfl (OpQ.y (OpY.load1 Tone_3 rfl (Cells.own0 (.tail _ (.tail _ (List.Mem.head _))) (pre1 (by omega))))) ?_
            refine Run.q (v := .int .i64 ((ix o2 ((ix q2 (t)).toNat)) + 1)) rfl (OpQ.y (OpY.add rfl rfl rfl (by omega) (by omega))) ?_
            refine Run.q (v := .pointer (some ⟨go, (ix (nbL ((M : Nat) : Int) xs n (ix q (t))) (m)).toNat, none⟩)) rfl (OpQ.y (OpY.index (kk := (ix (nbL ((M : Nat) : Int) xs n (ix q (t))) (m)).toNat) Tsl_34 rfl rfl (by omega) (by omega) (by first | rfl | omega))) ?_
            refine Run.step rfl (OpStep.storeOwnInt (o := (ix (nbL ((M : Nat) : Int) xs n (ix q (t))) (m)).toNat) (a := (ix o2 ((ix q2 (t)).toNat)) + 1) Tsize_3 rfl rfl (.there _ (.there _ (.here _))) (by omega) ?_)
            refine Run.done ?_
            refine Run.region ?_
            refine Run.q (v := .slice (some ⟨gw, 0, none⟩) (q2.length) cgw) rfl (OpQ.y (OpY.pure rfl)) ?_
            refine Run.q (v := .int .i64 (ix (nbL ((M : Nat) : Int) xs n (ix q (t))) (m))) rfl (OpQ.y (OpY.pure rfl)) ?_
            refine Run.step rfl (OpStep.buildSlice (us := [.int .i64 (ix (nbL ((M : Nat) : Int) xs n (ix q (t))) (m))]) Tsl_34 (by decide) (by decide) ⟨rfl, [.int .i64 (ix (nbL ((M : Nat) : Int) xs n (ix q (t))) (m))], _, rfl, rfl, rfl, rfl⟩ rfl fun b4 => ?_)
            refine Run.step rfl (OpStep.append (H1 := [.own (.slice (some ⟨b4, 0, none⟩) 1 1) 3 1 1 ([.int .i64 (ix (nbL ((M : Nat) : Int) xs n (ix q (t))) (m))]), .own (.slice (some ⟨gn, 0, none⟩) ((nbL ((M : Nat) : Int) xs n (ix q (t))).length) c_nb1) 3 1 ((nbL ((M : Nat) : Int) xs n (ix q (t))).length) (ints (nbL ((M : Nat) : Int) xs n (ix q (t))))]) (H2 := [.own (.slice (some ⟨go, 0, none⟩) M cgo) 3 1 M (ints (o2.set ((ix (nbL ((M : Nat) : Int) xs n (ix q (t))) (m)).toNat) ((ix o2 ((ix q2 (t)).toNat)) + 1))), .own (.slice (some ⟨b2, 0, none⟩) 1 1) 3 1 1 ([.int .i64 (-1)]), .blk b1 25 [.int .i64 (((M : Nat) : Int)), va]]) (v := .slice (some ⟨gw, 0, none⟩) (q2.length) cgw) (u := .slice (some ⟨b4, 0, none⟩) 1 1) (n := q2.length) (m := 1) (xs := ints q2) (ys := [.int .i64 (ix (nbL ((M : Nat) : Int) xs n (ix q (t))) (m))]) Tsl_34 (by decide) rfl rfl rfl rfl (fun w hs => hs.slOwn (.head _)) (by simp [Value.oneCell']) (by omega) (by simp only [maxLen]; omega) fun av1 hnav1 => ?_)
            refine Run.weak (H' := [.own (.slice (some ⟨b4, 0, none⟩) 1 1) 3 1 1 ([.int .i64 (ix (nbL ((M : Nat) : Int) xs n (ix q (t))) (m))]), .own (.slice (some ⟨gn, 0, none⟩) ((nbL ((M : Nat) : Int) xs n (ix q (t))).length) c_nb1) 3 1 ((nbL ((M : Nat) : Int) xs n (ix q (t))).length) (ints (nbL ((M : Nat) : Int) xs n (ix q (t)))), .own av1 3 1 ((q2 ++ [ix (nbL ((M : Nat) : Int) xs n (ix q (t))) (m)]).length) (ints (q2 ++ [ix (nbL ((M : Nat) : Int) xs n (ix q (t))) (m)])), .own (.slice (some ⟨go, 0, none⟩) M cgo) 3 1 M (ints (o2.set ((ix (nbL ((M : Nat) : Int) xs n (ix q (t))) (m)).toNat) ((ix o2 ((ix q2 (t)).toNat)) + 1))), .own (.slice (some ⟨b2, 0, none⟩) 1 1) 3 1 1 ([.int .i64 (-1)]), .blk b1 25 [.int .i64 (((M : Nat) : Int)), va]]) (Some'.weak (.take (.take (.takeEq (by simp [ints]) (.take (.take (.take (.nil _)))))))) ?_ ⟨_, _, rfl, fun _ => nofun, fun _ => nofun⟩
            refine Run.q (v := av1) rfl (OpQ.y (OpY.pure rfl)) ?_
            refine Run.done ?_
            refine Run.blockEnd ?_
            refine Run.region ?_
            refine Run.q (v := .int .i64 ((((m : Nat) : Int)) + 1)) rfl (OpQ.y (OpY.add rfl rfl rfl (by omega) (by omega))) ?_
            refine Run.q (v := .int .i64 ((((m : Nat) : Int)) + 1)) rfl (OpQ.y (OpY.pure rfl)) ?_
            refine Run.done ?_
            refine Run.goal ⟨(by repeat (first | exact Same.refl _ _ | refine Same.put rfl ?_ | refine Same.over rfl rfl ?_)), (m + 1, av1, q2 ++ [ix (nbL ((M : Nat) : Int) xs n (ix q (t))) (m)], o2.set ((ix (nbL ((M : Nat) : Int) xs n (ix q (t))) (m)).toNat) (ix o2 ((ix q2 (t)).toNat) + 1)), ?_, ?_, ?_, ?_⟩
            · first | exact ⟨hq, hlt2, hqt, met_keep (f := fun i => (ix (nbL ((M : Nat) : Int) xs n (ix q (t))) i).toNat) hmet p40, hltm⟩ | exact ⟨bfs_push hq hlt2 hk.1 hk.2.1 p40 (by rw [adjN, Int.toNat_of_nonneg hnd2.1, hqt, Int.toNat_of_nonneg hk.1]; exact hk.2.2), by simp; omega, (ix_append_left hlt2).trans hqt, met_set (f := fun i => (ix (nbL ((M : Nat) : Int) xs n (ix q (t))) i).toNat) hmet (fun i hi => by have := nb_get (show i < (nbL ((M : Nat) : Int) xs n (ix q (t))).length by omega); show (ix (nbL ((M : Nat) : Int) xs n (ix q (t))) i).toNat < _; omega) (by omega), hltm⟩
            · show (nbL ((M : Nat) : Int) xs n (ix q (t))).length - (m + 1) < (nbL ((M : Nat) : Int) xs n (ix q (t))).length - m; omega
            · exact ⟨(by first | rfl | (congr 1; omega) | simp), (by first | rfl | (congr 1; omega) | simp), trivial⟩
            · exact (Some'.weak (.skip (.takeEq (by first | rfl | simp) (.takeEq (by first | rfl | simp) (.takeEq (by first | rfl | simp) (.takeEq (by first | rfl | simp) (.take (.nil _))))))))
          · have p40 := h40; try simp only [decide_eq_true_eq, decide_eq_false_iff_not, beq_iff_eq, bne_iff_ne, beq_eq_false_iff_ne, ne_eq, gt_iff_lt, ge_iff_le, Int.not_lt, Int.not_le, bne_eq_false_iff_eq, Bool.not_eq_true', Bool.not_eq_false', Bool.and_eq_true, Bool.and_eq_false_iff, Bool.or_eq_true, Bool.or_eq_false_iff, Decidable.not_not, List.cons.injEq, and_true] at p40
            refine Run.skip ?_
            refine Run.blockEnd ?_
            refine Run.region ?_
            refine Run.q (v := .int .i64 ((((m : Nat) : Int)) + 1)) rfl (OpQ.y (OpY.add rfl rfl rfl (by omega) (by omega))) ?_
            refine Run.q (v := .int .i64 ((((m : Nat) : Int)) + 1)) rfl (OpQ.y (OpY.pure rfl)) ?_
            refine Run.done ?_
            refine Run.goal ⟨(by repeat (first | exact Same.refl _ _ | refine Same.put rfl ?_ | refine Same.over rfl rfl ?_)), (m + 1, v2, q2, o2), ?_, ?_, ?_, ?_⟩
            · first | exact ⟨hq, hlt2, hqt, met_keep (f := fun i => (ix (nbL ((M : Nat) : Int) xs n (ix q (t))) i).toNat) hmet p40, hltm⟩ | exact ⟨bfs_push hq hlt2 hk.1 hk.2.1 p40 (by rw [adjN, Int.toNat_of_nonneg hnd2.1, hqt, Int.toNat_of_nonneg hk.1]; exact hk.2.2), by simp; omega, (ix_append_left hlt2).trans hqt, met_set (f := fun i => (ix (nbL ((M : Nat) : Int) xs n (ix q (t))) i).toNat) hmet (fun i hi => by have := nb_get (show i < (nbL ((M : Nat) : Int) xs n (ix q (t))).length by omega); show (ix (nbL ((M : Nat) : Int) xs n (ix q (t))) i).toNat < _; omega) (by omega), hltm⟩
            · show (nbL ((M : Nat) : Int) xs n (ix q (t))).length - (m + 1) < (nbL ((M : Nat) : Int) xs n (ix q (t))).length - m; omega
            · exact ⟨(by first | rfl | (congr 1; omega) | simp), (by first | rfl | (congr 1; omega) | simp), trivial⟩
            · exact (Some'.weak (.takeEq (by first | rfl | simp) (.takeEq (by first | rfl | simp) (.takeEq (by first | rfl | simp) (.takeEq (by first | rfl | simp) (.take (.nil _)))))))
        · have p33 := h33; try simp only [decide_eq_true_eq, decide_eq_false_iff_not, beq_iff_eq, bne_iff_ne, beq_eq_false_iff_ne, ne_eq, gt_iff_lt, ge_iff_le, Int.not_lt, Int.not_le, bne_eq_false_iff_eq, Bool.not_eq_true', Bool.not_eq_false', Bool.and_eq_true, Bool.and_eq_false_iff, Bool.or_eq_true, Bool.or_eq_false_iff, Decidable.not_not, List.cons.injEq, and_true] at p33
          have hmn : m = (nbL ((M : Nat) : Int) xs n (ix q (t))).length := by omega
          have hall : ∀ v, v < M → adjN xs n (ix q2 t).toNat v = true → 0 ≤ ix o2 v := by
            intro v hv hA
            rw [adjN, Int.toNat_of_nonneg (hq.node t hlt2).1, hqt] at hA
            obtain ⟨i, hi, e⟩ := nb_mem hv hA
            have := hmet i (by omega)
            rwa [e, Int.toNat_natCast] at this
          refine Run.exit rfl ?_
          refine Run.blockEnd ?_
          refine Run.region ?_
          refine Run.q (v := .int .i64 (((t : Nat) : Int))) rfl (OpQ.y (OpY.pure rfl)) ?_
          refine Run.q (v := .int .i64 ((((t : Nat) : Int)) + 1)) rfl (OpQ.y (OpY.add rfl rfl rfl (by omega) (by omega))) ?_
          refine Run.q (v := .int .i64 ((((t : Nat) : Int)) + 1)) rfl (OpQ.y (OpY.pure rfl)) ?_
          refine Run.done ?_
          refine Run.goal ⟨(by repeat (first | exact Same.refl _ _ | refine Same.put rfl ?_ | refine Same.over rfl rfl ?_)), (t + 1, v2, q2, o2), ?_, ?_, ?_, ?_⟩
          · exact ⟨hq.next hlt2 hall, hlt2⟩
          · show M + 1 - (t + 1) < M + 1 - t; omega
          · exact ⟨(by first | rfl | (congr 1; omega) | simp), (by first | rfl | (congr 1; omega) | simp), trivial⟩
          · exact (Some'.weak (.skip (.takeEq (by first | rfl | simp) (.takeEq (by first | rfl | simp) (.takeEq (by first | rfl | simp) (.take (.nil _)))))))
    · have p22 := h22; try simp only [decide_eq_true_eq, decide_eq_false_iff_not, beq_iff_eq, bne_iff_ne, beq_eq_false_iff_ne, ne_eq, gt_iff_lt, ge_iff_le, Int.not_lt, Int.not_le, bne_eq_false_iff_eq, Bool.not_eq_true', Bool.not_eq_false', Bool.and_eq_true, Bool.and_eq_false_iff, Bool.or_eq_true, Bool.or_eq_false_iff, Decidable.not_not, List.cons.injEq, and_true] at p22
      have hdone := hinv.1.dist (by omega)
      refine Run.exit rfl ?_
      refine Run.seq ?_
      refine Run.region ?_
      refine Run.q (v := .slice (some ⟨go, 0, none⟩) M cgo) rfl (OpQ.y (OpY.pure rfl)) ?_
      refine Run.q (v := .slice (some ⟨go, 0, none⟩) M cgo) rfl (OpQ.y (OpY.pure rfl)) ?_
      refine Run.done ?_
      refine Run.ret ?_
      refine ⟨.slice (some ⟨go, 0, none⟩) M cgo, [.own (.slice (some ⟨go, 0, none⟩) M cgo) 3 1 (((M : Nat) : Int).toNat) (ints (distL xs n ((M : Nat) : Int).toNat ((s : Nat) : Int).toNat))], Out.one rfl rfl, (Some'.weak (.skip (.takeEq (by simp only [Int.toNat_natCast]; rw [distL_eq hdone]) (.nil _)))), ?_⟩
      exact ⟨by simp only [Int.toNat_natCast]; rw [distL_eq hdone]; exact hdone, rfl⟩

set_option maxHeartbeats 1000000 in
set_option maxRecDepth 20000 in
theorem l22Far_spec {N node : Int} {va : Value} {n : Nat} {xs : List Int} {w : World} (hN : 1 ≤ N ∧ N ≤ 8) (hnode : 0 ≤ node ∧ node < N) (he : edgesOk N xs n = true) (ha : Sl w va 2 n (ints xs)) : Calls Try.prog 50 #[.agg #[.int .i64 N, va], .int .i64 node] w (Post No w fun v H => IsDist (adjN xs n) N.toNat node.toNat (distL xs n N.toNat node.toNat) ∧ H = [.own v 3 1 N.toNat (ints (distL xs n N.toNat node.toNat))]) := by
  obtain ⟨M, rfl⟩ : ∃ M : Nat, N = M := ⟨N.toNat, by omega⟩
  obtain ⟨s, rfl⟩ : ∃ s : Nat, node = s := ⟨node.toNat, by omega⟩
  have hs : s < M := by omega
  refine enter (n := 68) (args := [.agg #[.int .i64 (((M : Nat) : Int)), va], .int .i64 (((s : Nat) : Int))]) Try.func50 rfl rfl (St.empty _ _) ?_
  refine Run.seq ?_
  refine Run.region ?_
  refine Run.step rfl (OpStep.box (us := [.int .i64 (((M : Nat) : Int)), va]) rfl fun b1 => ?_)
  refine Run.q (v := .slice none 0 0) rfl (OpQ.y (OpY.pure rfl)) ?_
  refine Run.done ?_
  refine Run.seq ?_
  refine Run.region ?_
  refine Run.q (v := .pointer (some ⟨b1, 0, none⟩)) rfl (OpQ.y (OpY.fieldAddr Tfo_25_0 rfl rfl)) ?_
  refine Run.q (v := .int .i64 (((M : Nat) : Int))) rfl (OpQ.y (OpY.load1 Tone_3 rfl (Cells.blk (.head _) ⟨rfl, trivial⟩))) ?_
  refine Run.step rfl (OpStep.makeSlice (n := M) Tsl_34 rfl (by decide) (by first | rfl | omega) (by first | rfl | omega) (by omega) (by simp only [maxLen]; omega) fun b2 => ?_)
  refine Run.q (v := .slice (some ⟨b2, 0, none⟩) M M) rfl (OpQ.y (OpY.pure rfl)) ?_
  refine Run.done ?_
  refine Run.seq ?_
  refine Run.seq ?_
  refine Run.region ?_
  refine Run.q (v := .slice (some ⟨b2, 0, none⟩) M M) rfl (OpQ.y (OpY.pure rfl)) ?_
  refine Run.q (v := .int .i64 (((M : Nat) : Int))) rfl (OpQ.y (OpY.len Tsl_34 rfl)) ?_
  refine Run.q (v := .int .i64 0) rfl (OpQ.y (OpY.pure rfl)) ?_
  refine Run.done ?_
  refine Run.block ?_
  refine Run.loop (ι := Nat) [6, 15, 16, 17, 18, 19, 20, 21] (fun k => [(15, .int .i64 (((k : Nat) : Int)))]) (fun k => [.own (.slice (some ⟨b2, 0, none⟩) M M) 3 1 M (ints (repL M k)), .blk b1 25 [.int .i64 (((M : Nat) : Int)), va]]) (fun k => k ≤ M) (fun k => M - k) 0 ?_ ?_ ?_ ?_
  · exact Nat.zero_le _
  · exact ⟨rfl, trivial⟩
  · exact (Some'.weak (.takeEq (by first | rw [hR] | rw [repL_zero] | rfl) (.take (.nil _))))
  · rintro k fr hinv
    show Run _ _ (over _ _ [(15, .int .i64 (((k : Nat) : Int)))] fr) [.own (.slice (some ⟨b2, 0, none⟩) M M) 3 1 M (ints (repL M k)), .blk b1 25 [.int .i64 (((M : Nat) : Int)), va]]
    try dsimp only at hinv
    refine Run.seq ?_
    refine Run.region ?_
    refine Run.q (v := .bool (decide ((((k : Nat) : Int)) < (((M : Nat) : Int))))) rfl (OpQ.y (OpY.pure rfl)) ?_
    refine Run.done ?_
    refine Run.seq ?_
    refine Run.cond (b := decide ((((k : Nat) : Int)) < (((M : Nat) : Int)))) rfl (fun h16 => ?_) (fun h16 => ?_)
    · have p16 := h16; try simp only [decide_eq_true_eq, decide_eq_false_iff_not, beq_iff_eq, bne_iff_ne, beq_eq_false_iff_ne, ne_eq, gt_iff_lt, ge_iff_le, Int.not_lt, Int.not_le, bne_eq_false_iff_eq, Bool.not_eq_true', Bool.not_eq_false', Bool.and_eq_true, Bool.and_eq_false_iff, Bool.or_eq_true, Bool.or_eq_false_iff, Decidable.not_not, List.cons.injEq, and_true] at p16
      have hlt : k < M := by omega
      have hrl := repL_length (Nat.le_of_lt hlt)
      refine Run.skip ?_
      refine Run.seq ?_
      refine Run.block ?_
      refine Run.seq ?_
      refine Run.region ?_
      refine Run.q (v := .int .i64 (((k : Nat) : Int))) rfl (OpQ.y (OpY.pure rfl)) ?_
      refine Run.q (v := .int .i64 (((k : Nat) : Int))) rfl (OpQ.y (OpY.pure rfl)) ?_
      refine Run.done ?_
      refine Run.region ?_
      refine Run.q (v := .slice (some ⟨b2, 0, none⟩) M M) rfl (OpQ.y (OpY.pure rfl)) ?_
      refine Run.q (v := .int .i64 (((k : Nat) : Int))) rfl (OpQ.y (OpY.pure rfl)) ?_
      refine Run.q (v := .pointer (some ⟨b2, k, none⟩)) rfl (OpQ.y (OpY.index (kk := k) Tsl_34 rfl rfl (by omega) (by omega) (by first | rfl | omega))) ?_
      refine Run.step rfl (OpStep.storeOwnInt (o := k) (a := -1) Tsize_3 rfl rfl (.here _) (by omega) ?_)
      refine Run.done ?_
      refine Run.blockEnd ?_
      refine Run.region ?_
      refine Run.q (v := .int .i64 ((((k : Nat) : Int)) + 1)) rfl (OpQ.y (OpY.add rfl rfl rfl (by omega) (by omega))) ?_
      refine Run.q (v := .int .i64 ((((k : Nat) : Int)) + 1)) rfl (OpQ.y (OpY.pure rfl)) ?_
      refine Run.done ?_
      have hR : (repL M k).set k (-1) = repL M (k + 1) := repL_set hlt
      refine Run.goal ⟨(by repeat (first | exact Same.refl _ _ | refine Same.put rfl ?_ | refine Same.over rfl rfl ?_)), k + 1, ?_, ?_, ?_, ?_⟩
      · omega
      · omega
      · exact ⟨(by first | rfl | (congr 1; omega) | simp), trivial⟩
      · exact (Some'.weak (.takeEq (by first | rw [hR] | rw [repL_zero] | rfl) (.take (.nil _))))
    · have p16 := h16; try simp only [decide_eq_true_eq, decide_eq_false_iff_not, beq_iff_eq, bne_iff_ne, beq_eq_false_iff_ne, ne_eq, gt_iff_lt, ge_iff_le, Int.not_lt, Int.not_le, bne_eq_false_iff_eq, Bool.not_eq_true', Bool.not_eq_false', Bool.and_eq_true, Bool.and_eq_false_iff, Bool.or_eq_true, Bool.or_eq_false_iff, Decidable.not_not, List.cons.injEq, and_true] at p16
      have hkM : k = M := by omega
      have hrl := repL_length (Nat.le_of_eq hkM)
      refine Run.exit rfl ?_
      refine Run.seq ?_
      refine Run.region ?_
      refine Run.q (v := .slice (some ⟨b2, 0, none⟩) M M) rfl (OpQ.y (OpY.pure rfl)) ?_
      refine Run.q (v := .int .i64 (((s : Nat) : Int))) rfl (OpQ.y (OpY.pure rfl)) ?_
      refine Run.q (v := .pointer (some ⟨b2, s, none⟩)) rfl (OpQ.y (OpY.index (kk := s) Tsl_34 rfl rfl (by omega) (by omega) (by first | rfl | omega))) ?_
      refine Run.step rfl (OpStep.storeOwnInt (o := s) (a := 0) Tsize_3 rfl rfl (.here _) (by omega) ?_)
      refine Run.done ?_
      refine Run.seq ?_
      refine Run.seq ?_
      refine Run.region ?_
      refine Run.q (v := .int .i64 0) rfl (OpQ.y (OpY.pure rfl)) ?_
      refine Run.done ?_
      refine Run.block ?_
      refine Run.loop (ι := Nat × List Int) [7, 8, 9, 25, 26, 27, 28, 29, 30, 31, 32, 33, 34, 35, 36, 37, 38, 39, 40, 41, 42, 43, 44, 45, 46, 47, 48, 49, 50, 51, 52, 53, 54, 55, 56, 57, 58, 59, 60, 61, 62, 63, 64, 65, 66] (fun ⟨d, o⟩ => [(7, .int .i64 (((d : Nat) : Int)))]) (fun ⟨d, o⟩ => [.own (.slice (some ⟨b2, 0, none⟩) M M) 3 1 M (ints o), .blk b1 25 [.int .i64 (((M : Nat) : Int)), va]]) (fun ⟨d, o⟩ => IsLev (adjN xs n) M s d o ∧ d ≤ M) (fun ⟨d, o⟩ => M - d) (0, (repL M k).set s 0) ?_ ?_ ?_ ?_
      · exact ⟨by rw [hkM, repL_all]; exact IsLev.start hs, Nat.zero_le _⟩
      · exact ⟨rfl, trivial⟩
      · exact (Some'.weak (.takeEq (by first | rfl | simp) (.take (.nil _))))
      · rintro ⟨d, o⟩ fr hinv
        show Run _ _ (over _ _ [(7, .int .i64 (((d : Nat) : Int)))] fr) [.own (.slice (some ⟨b2, 0, none⟩) M M) 3 1 M (ints o), .blk b1 25 [.int .i64 (((M : Nat) : Int)), va]]
        try dsimp only at hinv
        refine Run.seq ?_
        refine Run.seq ?_
        refine Run.region ?_
        refine Run.q (v := .int .i64 (((d : Nat) : Int))) rfl (OpQ.y (OpY.pure rfl)) ?_
        refine Run.q (v := .pointer (some ⟨b1, 0, none⟩)) rfl (OpQ.y (OpY.fieldAddr Tfo_25_0 rfl rfl)) ?_
        refine Run.q (v := .int .i64 (((M : Nat) : Int))) rfl (OpQ.y (OpY.load1 Tone_3 rfl (Cells.blk (.tail _ (List.Mem.head _)) ⟨rfl, trivial⟩))) ?_
        refine Run.q (v := .bool (decide ((((d : Nat) : Int)) < (((M : Nat) : Int))))) rfl (OpQ.y (OpY.pure rfl)) ?_
        refine Run.done ?_
        refine Run.cond (b := decide ((((d : Nat) : Int)) < (((M : Nat) : Int)))) rfl (fun h28 => ?_) (fun h28 => ?_)
        · have p28 := h28; try simp only [decide_eq_true_eq, decide_eq_false_iff_not, beq_iff_eq, bne_iff_ne, beq_eq_false_iff_ne, ne_eq, gt_iff_lt, ge_iff_le, Int.not_lt, Int.not_le, bne_eq_false_iff_eq, Bool.not_eq_true', Bool.not_eq_false', Bool.and_eq_true, Bool.and_eq_false_iff, Bool.or_eq_true, Bool.or_eq_false_iff, Decidable.not_not, List.cons.injEq, and_true] at p28
          obtain ⟨hlev, hdM⟩ := hinv
          have hd1 : d < M := by omega
          refine Run.skip ?_
          refine Run.seq ?_
          refine Run.block ?_
          refine Run.seq ?_
          refine Run.region ?_
          refine Run.q (v := .slice (some ⟨b2, 0, none⟩) M M) rfl (OpQ.y (OpY.pure rfl)) ?_
          refine Run.q (v := .int .i64 (((M : Nat) : Int))) rfl (OpQ.y (OpY.len Tsl_34 rfl)) ?_
          refine Run.q (v := .int .i64 0) rfl (OpQ.y (OpY.pure rfl)) ?_
          refine Run.done ?_
          refine Run.block ?_
          refine Run.loop (ι := Nat × List Int) [8, 9, 33, 34, 35, 36, 37, 38, 39, 40, 41, 42, 43, 44, 45, 46, 47, 48, 49, 50, 51, 52, 53, 54, 55, 56, 57, 58, 59, 60, 61, 62, 63, 64, 65, 66] (fun ⟨i, o2⟩ => [(33, .int .i64 (((i : Nat) : Int)))]) (fun ⟨i, o2⟩ => [.own (.slice (some ⟨b2, 0, none⟩) M M) 3 1 M (ints o2), .blk b1 25 [.int .i64 (((M : Nat) : Int)), va]]) (fun ⟨i, o2⟩ => InRound (adjN xs n) M d i 0 o o2 ∧ i ≤ M) (fun ⟨i, o2⟩ => M - i) (0, o) ?_ ?_ ?_ ?_
          · exact ⟨InRound.start hlev.len, Nat.zero_le _⟩
          · exact ⟨rfl, trivial⟩
          · exact (Some'.weak (.takeEq (by first | rfl | simp) (.take (.nil _))))
          · rintro ⟨i, o2⟩ fr hinv
            show Run _ _ (over _ _ [(33, .int .i64 (((i : Nat) : Int)))] fr) [.own (.slice (some ⟨b2, 0, none⟩) M M) 3 1 M (ints o2), .blk b1 25 [.int .i64 (((M : Nat) : Int)), va]]
            try dsimp only at hinv
            refine Run.seq ?_
            refine Run.region ?_
            refine Run.q (v := .bool (decide ((((i : Nat) : Int)) < (((M : Nat) : Int))))) rfl (OpQ.y (OpY.pure rfl)) ?_
            refine Run.done ?_
            refine Run.seq ?_
            refine Run.cond (b := decide ((((i : Nat) : Int)) < (((M : Nat) : Int)))) rfl (fun h34 => ?_) (fun h34 => ?_)
            · have p34 := h34; try simp only [decide_eq_true_eq, decide_eq_false_iff_not, beq_iff_eq, bne_iff_ne, beq_eq_false_iff_ne, ne_eq, gt_iff_lt, ge_iff_le, Int.not_lt, Int.not_le, bne_eq_false_iff_eq, Bool.not_eq_true', Bool.not_eq_false', Bool.and_eq_true, Bool.and_eq_false_iff, Bool.or_eq_true, Bool.or_eq_false_iff, Decidable.not_not, List.cons.injEq, and_true] at p34
              have hi1 : i < M := by omega
              refine Run.skip ?_
              refine Run.seq ?_
              refine Run.block ?_
              refine Run.seq ?_
              refine Run.region ?_
              refine Run.q (v := .int .i64 (((i : Nat) : Int))) rfl (OpQ.y (OpY.pure rfl)) ?_
              refine Run.q (v := .int .i64 (((i : Nat) : Int))) rfl (OpQ.y (OpY.pure rfl)) ?_
              refine Run.done ?_
              refine Run.seq ?_
              refine Run.region ?_
              refine Run.q (v := .slice (some ⟨b2, 0, none⟩) M M) rfl (OpQ.y (OpY.pure rfl)) ?_
              refine Run.q (v := .int .i64 (((M : Nat) : Int))) rfl (OpQ.y (OpY.len Tsl_34 rfl)) ?_
              refine Run.q (v := .int .i64 0) rfl (OpQ.y (OpY.pure rfl)) ?_
              refine Run.done ?_
              refine Run.block ?_
              refine Run.loop (ι := Nat × List Int) [9, 38, 39, 40, 41, 42, 43, 44, 45, 46, 47, 48, 49, 50, 51, 52, 53, 54, 55, 56, 57, 58, 59, 60, 61, 62, 63, 64, 65] (fun ⟨j, o3⟩ => [(38, .int .i64 (((j : Nat) : Int)))]) (fun ⟨j, o3⟩ => [.own (.slice (some ⟨b2, 0, none⟩) M M) 3 1 M (ints o3), .blk b1 25 [.int .i64 (((M : Nat) : Int)), va]]) (fun ⟨j, o3⟩ => InRound (adjN xs n) M d i j o o3 ∧ j ≤ M) (fun ⟨j, o3⟩ => M - j) (0, o2) ?_ ?_ ?_ ?_
              · exact ⟨hinv.1, Nat.zero_le _⟩
              · exact ⟨rfl, trivial⟩
              · exact (Some'.weak (.takeEq (by first | rfl | simp) (.take (.nil _))))
              · rintro ⟨j, o3⟩ fr hinv
                show Run _ _ (over _ _ [(38, .int .i64 (((j : Nat) : Int)))] fr) [.own (.slice (some ⟨b2, 0, none⟩) M M) 3 1 M (ints o3), .blk b1 25 [.int .i64 (((M : Nat) : Int)), va]]
                try dsimp only at hinv
                refine Run.seq ?_
                refine Run.region ?_
                refine Run.q (v := .bool (decide ((((j : Nat) : Int)) < (((M : Nat) : Int))))) rfl (OpQ.y (OpY.pure rfl)) ?_
                refine Run.done ?_
                refine Run.seq ?_
                refine Run.cond (b := decide ((((j : Nat) : Int)) < (((M : Nat) : Int)))) rfl (fun h39 => ?_) (fun h39 => ?_)
                · have p39 := h39; try simp only [decide_eq_true_eq, decide_eq_false_iff_not, beq_iff_eq, bne_iff_ne, beq_eq_false_iff_ne, ne_eq, gt_iff_lt, ge_iff_le, Int.not_lt, Int.not_le, bne_eq_false_iff_eq, Bool.not_eq_true', Bool.not_eq_false', Bool.and_eq_true, Bool.and_eq_false_iff, Bool.or_eq_true, Bool.or_eq_false_iff, Decidable.not_not, List.cons.injEq, and_true] at p39
                  have hj1 : j < M := by omega
                  obtain ⟨hr, hjM⟩ := hinv
                  have hol := hr.len
                  refine Run.skip ?_
                  refine Run.seq ?_
                  refine Run.block ?_
                  refine Run.seq ?_
                  refine Run.region ?_
                  refine Run.q (v := .int .i64 (((j : Nat) : Int))) rfl (OpQ.y (OpY.pure rfl)) ?_
                  refine Run.q (v := .int .i64 (((j : Nat) : Int))) rfl (OpQ.y (OpY.pure rfl)) ?_
                  refine Run.done ?_
                  refine Run.seq ?_
                  refine Run.region ?_
                  refine Run.q (v := .slice (some ⟨b2, 0, none⟩) M M) rfl (OpQ.y (OpY.pure rfl)) ?_
                  refine Run.q (v := .int .i64 (((i : Nat) : Int))) rfl (OpQ.y (OpY.pure rfl)) ?_
                  refine Run.q (v := .pointer (some ⟨b2, i, none⟩)) rfl (OpQ.y (OpY.index (kk := i) Tsl_34 rfl rfl (by omega) (by omega) (by first | rfl | omega))) ?_
                  refine Run.q (v := .int .i64 (ix o3 (i))) rfl (OpQ.y (OpY.load1 Tone_3 rfl (Cells.own0 (.head _) (pre1 (by omega))))) ?_
                  refine Run.q (v := .int .i64 (((d : Nat) : Int))) rfl (OpQ.y (OpY.pure rfl)) ?_
                  refine Run.q (v := .bool ((ix o3 (i)) == (((d : Nat) : Int)))) rfl (OpQ.y (OpY.pure rfl)) ?_
                  rcases Bool.eq_false_or_eq_true ((ix o3 (i)) == (((d : Nat) : Int))) with h47 | h47
                  · refine Run.q (v := .bool true) rfl (OpQ.y (OpY.moveB rfl h47)) ?_
                    have p47 := h47; try simp only [decide_eq_true_eq, decide_eq_false_iff_not, beq_iff_eq, bne_iff_ne, beq_eq_false_iff_ne, ne_eq, gt_iff_lt, ge_iff_le, Int.not_lt, Int.not_le, bne_eq_false_iff_eq, Bool.not_eq_true', Bool.not_eq_false', Bool.and_eq_true, Bool.and_eq_false_iff, Bool.or_eq_true, Bool.or_eq_false_iff, Decidable.not_not, List.cons.injEq, and_true] at p47
                    refine Run.q (v := .slice (some ⟨b2, 0, none⟩) M M) rfl (OpQ.y (OpY.pure rfl)) ?_
                    refine Run.q (v := .int .i64 (((j : Nat) : Int))) rfl (OpQ.y (OpY.pure rfl)) ?_
                    refine Run.q (v := .pointer (some ⟨b2, j, none⟩)) rfl (OpQ.y (OpY.index (kk := j) Tsl_34 rfl rfl (by omega) (by omega) (by first | rfl | omega))) ?_
                    refine Run.q (v := .int .i64 (ix o3 (j))) rfl (OpQ.y (OpY.load1 Tone_3 rfl (Cells.own0 (.head _) (pre1 (by omega))))) ?_
                    refine Run.q (v := .bool (decide ((ix o3 (j)) < 0))) rfl (OpQ.y (OpY.pure rfl)) ?_
                    refine Run.q (v := .bool (decide ((ix o3 (j)) < 0))) rfl (OpQ.y (OpY.pure rfl)) ?_
                    rcases Bool.eq_false_or_eq_true (decide ((ix o3 (j)) < 0)) with h54 | h54
                    · refine Run.q (v := .bool true) rfl (OpQ.y (OpY.moveB rfl h54)) ?_
                      have p54 := h54; try simp only [decide_eq_true_eq, decide_eq_false_iff_not, beq_iff_eq, bne_iff_ne, beq_eq_false_iff_ne, ne_eq, gt_iff_lt, ge_iff_le, Int.not_lt, Int.not_le, bne_eq_false_iff_eq, Bool.not_eq_true', Bool.not_eq_false', Bool.and_eq_true, Bool.and_eq_false_iff, Bool.or_eq_true, Bool.or_eq_false_iff, Decidable.not_not, List.cons.injEq, and_true] at p54
                      refine Run.q (v := .agg #[.int .i64 (((M : Nat) : Int)), va]) rfl (OpQ.y (OpY.loadN (cs := [.int .i64 (((M : Nat) : Int)), va]) Tagg_25 rfl (Cells.blk (.tail _ (List.Mem.head _)) ⟨rfl, rfl, trivial⟩))) ?_
                      refine Run.q (v := .int .i64 (((i : Nat) : Int))) rfl (OpQ.y (OpY.pure rfl)) ?_
                      refine Run.q (v := .int .i64 (((j : Nat) : Int))) rfl (OpQ.y (OpY.pure rfl)) ?_
                      refine Run.q (v := .bool (adj xs n (i : Int) (j : Int))) rfl (OpQ.call (vs := [.agg #[.int .i64 (((M : Nat) : Int)), va], .int .i64 (((i : Nat) : Int)), .int .i64 (((j : Nat) : Int))]) (caps := []) Tcall_69 rfl rfl (fun w hs => l22Edge_spec (hs.sl ha))) ?_
                      refine Run.q (v := .bool (adj xs n (i : Int) (j : Int))) rfl (OpQ.y (OpY.pure rfl)) ?_
                      refine Run.done ?_
                      refine Run.cond (b := adj xs n (i : Int) (j : Int)) rfl (fun h59 => ?_) (fun h59 => ?_)
                      · have p59 := h59; try simp only [decide_eq_true_eq, decide_eq_false_iff_not, beq_iff_eq, bne_iff_ne, beq_eq_false_iff_ne, ne_eq, gt_iff_lt, ge_iff_le, Int.not_lt, Int.not_le, bne_eq_false_iff_eq, Bool.not_eq_true', Bool.not_eq_false', Bool.and_eq_true, Bool.and_eq_false_iff, Bool.or_eq_true, Bool.or_eq_false_iff, Decidable.not_not, List.cons.injEq, and_true] at p59
                        refine Run.region ?_
                        refine Run.q (v := .slice (some ⟨b2, 0, none⟩) M M) rfl (OpQ.y (OpY.pure rfl)) ?_
                        refine Run.q (v := .int .i64 (((j : Nat) : Int))) rfl (OpQ.y (OpY.pure rfl)) ?_
                        refine Run.q (v := .int .i64 (((d : Nat) : Int))) rfl (OpQ.y (OpY.pure rfl)) ?_
                        refine Run.q (v := .int .i64 ((((d : Nat) : Int)) + 1)) rfl (OpQ.y (OpY.add rfl rfl rfl (by omega) (by omega))) ?_
                        refine Run.q (v := .pointer (some ⟨b2, j, none⟩)) rfl (OpQ.y (OpY.index (kk := j) Tsl_34 rfl rfl (by omega) (by omega) (by first | rfl | omega))) ?_
                        refine Run.step rfl (OpStep.storeOwnInt (o := j) (a := (((d : Nat) : Int)) + 1) Tsize_3 rfl rfl (.here _) (by omega) ?_)
                        refine Run.done ?_
                        refine Run.blockEnd ?_
                        refine Run.region ?_
                        refine Run.q (v := .int .i64 ((((j : Nat) : Int)) + 1)) rfl (OpQ.y (OpY.add rfl rfl rfl (by omega) (by omega))) ?_
                        refine Run.q (v := .int .i64 ((((j : Nat) : Int)) + 1)) rfl (OpQ.y (OpY.pure rfl)) ?_
                        refine Run.done ?_
                        refine Run.goal ⟨(by repeat (first | exact Same.refl _ _ | refine Same.put rfl ?_ | refine Same.over rfl rfl ?_)), (j + 1, o3.set j ((d : Int) + 1)), ?_, ?_, ?_, ?_⟩
                        · first | exact ⟨hr.set hi1 hj1 ((hr.same hi1).1 p47) p59 p54, hj1⟩ | exact ⟨hr.keep (fun h1 h2 => absurd ((hr.same hi1).2 h1) p47), hj1⟩ | exact ⟨hr.keep (fun h1 h2 => p54), hj1⟩ | exact ⟨hr.keep (fun h1 h2 => by rw [adjN, p59] at h2; cases h2), hj1⟩
                        · show M - (j + 1) < M - j; omega
                        · exact ⟨(by first | rfl | (congr 1; omega) | simp), trivial⟩
                        · exact (Some'.weak (.takeEq (by first | rfl | simp) (.take (.nil _))))
                      · have p59 := h59; try simp only [decide_eq_true_eq, decide_eq_false_iff_not, beq_iff_eq, bne_iff_ne, beq_eq_false_iff_ne, ne_eq, gt_iff_lt, ge_iff_le, Int.not_lt, Int.not_le, bne_eq_false_iff_eq, Bool.not_eq_true', Bool.not_eq_false', Bool.and_eq_true, Bool.and_eq_false_iff, Bool.or_eq_true, Bool.or_eq_false_iff, Decidable.not_not, List.cons.injEq, and_true] at p59
                        refine Run.skip ?_
                        refine Run.blockEnd ?_
                        refine Run.region ?_
                        refine Run.q (v := .int .i64 ((((j : Nat) : Int)) + 1)) rfl (OpQ.y (OpY.add rfl rfl rfl (by omega) (by omega))) ?_
                        refine Run.q (v := .int .i64 ((((j : Nat) : Int)) + 1)) rfl (OpQ.y (OpY.pure rfl)) ?_
                        refine Run.done ?_
                        refine Run.goal ⟨(by repeat (first | exact Same.refl _ _ | refine Same.put rfl ?_ | refine Same.over rfl rfl ?_)), (j + 1, o3), ?_, ?_, ?_, ?_⟩
                        · first | exact ⟨hr.set hi1 hj1 ((hr.same hi1).1 p47) p59 p54, hj1⟩ | exact ⟨hr.keep (fun h1 h2 => absurd ((hr.same hi1).2 h1) p47), hj1⟩ | exact ⟨hr.keep (fun h1 h2 => p54), hj1⟩ | exact ⟨hr.keep (fun h1 h2 => by rw [adjN, p59] at h2; cases h2), hj1⟩
                        · show M - (j + 1) < M - j; omega
                        · exact ⟨(by first | rfl | (congr 1; omega) | simp), trivial⟩
                        · exact (Some'.weak (.takeEq (by first | rfl | simp) (.take (.nil _))))
                    · refine Run.q (v := .bool false) rfl (OpQ.y (OpY.moveB rfl h54)) ?_
                      have p54 := h54; try simp only [decide_eq_true_eq, decide_eq_false_iff_not, beq_iff_eq, bne_iff_ne, beq_eq_false_iff_ne, ne_eq, gt_iff_lt, ge_iff_le, Int.not_lt, Int.not_le, bne_eq_false_iff_eq, Bool.not_eq_true', Bool.not_eq_false', Bool.and_eq_true, Bool.and_eq_false_iff, Bool.or_eq_true, Bool.or_eq_false_iff, Decidable.not_not, List.cons.injEq, and_true] at p54
                      refine Run.pass rfl ?_
                      refine Run.pass rfl ?_
                      refine Run.pass rfl ?_
                      refine Run.pass rfl ?_
                      refine Run.q (v := .bool false) rfl (OpQ.y (OpY.pure rfl)) ?_
                      refine Run.done ?_
                      refine Run.cond (b := false) rfl (fun h => nomatch h) (fun _ => ?_)
                      refine Run.skip ?_
                      refine Run.blockEnd ?_
                      refine Run.region ?_
                      refine Run.q (v := .int .i64 ((((j : Nat) : Int)) + 1)) rfl (OpQ.y (OpY.add rfl rfl rfl (by omega) (by omega))) ?_
                      refine Run.q (v := .int .i64 ((((j : Nat) : Int)) + 1)) rfl (OpQ.y (OpY.pure rfl)) ?_
                      refine Run.done ?_
                      refine Run.goal ⟨(by repeat (first | exact Same.refl _ _ | refine Same.put rfl ?_ | refine Same.over rfl rfl ?_)), (j + 1, o3), ?_, ?_, ?_, ?_⟩
                      · first | exact ⟨hr.set hi1 hj1 ((hr.same hi1).1 p47) p59 p54, hj1⟩ | exact ⟨hr.keep (fun h1 h2 => absurd ((hr.same hi1).2 h1) p47), hj1⟩ | exact ⟨hr.keep (fun h1 h2 => p54), hj1⟩ | exact ⟨hr.keep (fun h1 h2 => by rw [adjN, p59] at h2; cases h2), hj1⟩
                      · show M - (j + 1) < M - j; omega
                      · exact ⟨(by first | rfl | (congr 1; omega) | simp), trivial⟩
                      · exact (Some'.weak (.takeEq (by first | rfl | simp) (.take (.nil _))))
                  · refine Run.q (v := .bool false) rfl (OpQ.y (OpY.moveB rfl h47)) ?_
                    have p47 := h47; try simp only [decide_eq_true_eq, decide_eq_false_iff_not, beq_iff_eq, bne_iff_ne, beq_eq_false_iff_ne, ne_eq, gt_iff_lt, ge_iff_le, Int.not_lt, Int.not_le, bne_eq_false_iff_eq, Bool.not_eq_true', Bool.not_eq_false', Bool.and_eq_true, Bool.and_eq_false_iff, Bool.or_eq_true, Bool.or_eq_false_iff, Decidable.not_not, List.cons.injEq, and_true] at p47
                    refine Run.pass rfl ?_
                    refine Run.pass rfl ?_
                    refine Run.pass rfl ?_
                    refine Run.pass rfl ?_
                    refine Run.pass rfl ?_
                    refine Run.q (v := .bool false) rfl (OpQ.y (OpY.pure rfl)) ?_
                    refine Run.q (v := .bool false) rfl (OpQ.y (OpY.pure rfl)) ?_
                    refine Run.pass rfl ?_
                    refine Run.pass rfl ?_
                    refine Run.pass rfl ?_
                    refine Run.pass rfl ?_
                    refine Run.q (v := .bool false) rfl (OpQ.y (OpY.pure rfl)) ?_
                    refine Run.done ?_
                    refine Run.cond (b := false) rfl (fun h => nomatch h) (fun _ => ?_)
                    refine Run.skip ?_
                    refine Run.blockEnd ?_
                    refine Run.region ?_
                    refine Run.q (v := .int .i64 ((((j : Nat) : Int)) + 1)) rfl (OpQ.y (OpY.add rfl rfl rfl (by omega) (by omega))) ?_
                    refine Run.q (v := .int .i64 ((((j : Nat) : Int)) + 1)) rfl (OpQ.y (OpY.pure rfl)) ?_
                    refine Run.done ?_
                    refine Run.goal ⟨(by repeat (first | exact Same.refl _ _ | refine Same.put rfl ?_ | refine Same.over rfl rfl ?_)), (j + 1, o3), ?_, ?_, ?_, ?_⟩
                    · first | exact ⟨hr.set hi1 hj1 ((hr.same hi1).1 p47) p59 p54, hj1⟩ | exact ⟨hr.keep (fun h1 h2 => absurd ((hr.same hi1).2 h1) p47), hj1⟩ | exact ⟨hr.keep (fun h1 h2 => p54), hj1⟩ | exact ⟨hr.keep (fun h1 h2 => by rw [adjN, p59] at h2; cases h2), hj1⟩
                    · show M - (j + 1) < M - j; omega
                    · exact ⟨(by first | rfl | (congr 1; omega) | simp), trivial⟩
                    · exact (Some'.weak (.takeEq (by first | rfl | simp) (.take (.nil _))))
                · have p39 := h39; try simp only [decide_eq_true_eq, decide_eq_false_iff_not, beq_iff_eq, bne_iff_ne, beq_eq_false_iff_ne, ne_eq, gt_iff_lt, ge_iff_le, Int.not_lt, Int.not_le, bne_eq_false_iff_eq, Bool.not_eq_true', Bool.not_eq_false', Bool.and_eq_true, Bool.and_eq_false_iff, Bool.or_eq_true, Bool.or_eq_false_iff, Decidable.not_not, List.cons.injEq, and_true] at p39
                  have hjM : j = M := by omega
                  have hr4 := hinv.1; rw [hjM] at hr4
                  refine Run.exit rfl ?_
                  refine Run.blockEnd ?_
                  refine Run.region ?_
                  refine Run.q (v := .int .i64 ((((i : Nat) : Int)) + 1)) rfl (OpQ.y (OpY.add rfl rfl rfl (by omega) (by omega))) ?_
                  refine Run.q (v := .int .i64 ((((i : Nat) : Int)) + 1)) rfl (OpQ.y (OpY.pure rfl)) ?_
                  refine Run.done ?_
                  refine Run.goal ⟨(by repeat (first | exact Same.refl _ _ | refine Same.put rfl ?_ | refine Same.over rfl rfl ?_)), (i + 1, o3), ?_, ?_, ?_, ?_⟩
                  · exact ⟨hr4.next, hi1⟩
                  · show M - (i + 1) < M - i; omega
                  · exact ⟨(by first | rfl | (congr 1; omega) | simp), trivial⟩
                  · exact (Some'.weak (.takeEq (by first | rfl | simp) (.take (.nil _))))
            · have p34 := h34; try simp only [decide_eq_true_eq, decide_eq_false_iff_not, beq_iff_eq, bne_iff_ne, beq_eq_false_iff_ne, ne_eq, gt_iff_lt, ge_iff_le, Int.not_lt, Int.not_le, bne_eq_false_iff_eq, Bool.not_eq_true', Bool.not_eq_false', Bool.and_eq_true, Bool.and_eq_false_iff, Bool.or_eq_true, Bool.or_eq_false_iff, Decidable.not_not, List.cons.injEq, and_true] at p34
              have hiM : i = M := by omega
              have hr3 := hinv.1; rw [hiM] at hr3
              refine Run.exit rfl ?_
              refine Run.blockEnd ?_
              refine Run.region ?_
              refine Run.q (v := .int .i64 (((d : Nat) : Int))) rfl (OpQ.y (OpY.pure rfl)) ?_
              refine Run.q (v := .int .i64 ((((d : Nat) : Int)) + 1)) rfl (OpQ.y (OpY.add rfl rfl rfl (by omega) (by omega))) ?_
              refine Run.q (v := .int .i64 ((((d : Nat) : Int)) + 1)) rfl (OpQ.y (OpY.pure rfl)) ?_
              refine Run.done ?_
              refine Run.goal ⟨(by repeat (first | exact Same.refl _ _ | refine Same.put rfl ?_ | refine Same.over rfl rfl ?_)), (d + 1, o2), ?_, ?_, ?_, ?_⟩
              · exact ⟨InRound.lev hlev hr3 hs, hd1⟩
              · show M - (d + 1) < M - d; omega
              · exact ⟨(by first | rfl | (congr 1; omega) | simp), trivial⟩
              · exact (Some'.weak (.takeEq (by first | rfl | simp) (.take (.nil _))))
        · have p28 := h28; try simp only [decide_eq_true_eq, decide_eq_false_iff_not, beq_iff_eq, bne_iff_ne, beq_eq_false_iff_ne, ne_eq, gt_iff_lt, ge_iff_le, Int.not_lt, Int.not_le, bne_eq_false_iff_eq, Bool.not_eq_true', Bool.not_eq_false', Bool.and_eq_true, Bool.and_eq_false_iff, Bool.or_eq_true, Bool.or_eq_false_iff, Decidable.not_not, List.cons.injEq, and_true] at p28
          have hdM : d = M := by omega
          have hdone : IsDist (adjN xs n) M s o := by have h := hinv.1; rw [hdM] at h; exact h.dist hs
          refine Run.exit rfl ?_
          refine Run.seq ?_
          refine Run.region ?_
          refine Run.q (v := .slice (some ⟨b2, 0, none⟩) M M) rfl (OpQ.y (OpY.pure rfl)) ?_
          refine Run.q (v := .slice (some ⟨b2, 0, none⟩) M M) rfl (OpQ.y (OpY.pure rfl)) ?_
          refine Run.done ?_
          refine Run.ret ?_
          refine ⟨.slice (some ⟨b2, 0, none⟩) M M, [.own (.slice (some ⟨b2, 0, none⟩) M M) 3 1 (((M : Nat) : Int).toNat) (ints (distL xs n ((M : Nat) : Int).toNat ((s : Nat) : Int).toNat))], Out.one rfl rfl, (Some'.weak (.takeEq (by simp only [Int.toNat_natCast]; rw [distL_eq hdone]) (.nil _))), ?_⟩
          exact ⟨by simp only [Int.toNat_natCast]; rw [distL_eq hdone]; exact hdone, rfl⟩


noncomputable def distR (N : Int) (xs : List Int) (n : Nat) (node : Int) : List Int := if nbOk N xs n node then distL xs n N.toNat node.toNat else []

theorem distR_le (N : Int) (xs : List Int) (n : Nat) (node : Int) (h : nbOk N xs n node = true → IsDist (adjN xs n) N.toNat node.toNat (distL xs n N.toNat node.toNat)) : (distR N xs n node).length ≤ 8 := by
  unfold distR; split
  · rename_i hok
    rw [(h hok).len]
    simp only [nbOk, Bool.and_eq_true] at hok
    have := cgOk_N hok.1; omega
  · simp

set_option maxHeartbeats 1000000 in
set_option maxRecDepth 20000 in
theorem DistancesFrom_spec {N node : Int} {va : Value} {n : Nat} {xs : List Int} {w : World} (ha : Sl w va 2 n (ints xs)) : Calls Try.prog 15 #[.agg #[.int .i64 N, va], .int .i64 node] w (Post No w fun v H => ∃ u, (distR N xs n node).length ≤ 8 ∧ v = .tuple #[u, .bool (nbOk N xs n node)] ∧ H = [.own u 3 1 (distR N xs n node).length (ints (distR N xs n node))]) := by
  refine enter (n := 20) (args := [.agg #[.int .i64 N, va], .int .i64 node]) Try.func15 rfl rfl (St.empty _ _) ?_
  refine Run.seq ?_
  refine Run.region ?_
  refine Run.step rfl (OpStep.box (us := [.int .i64 N, va]) rfl fun b1 => ?_)
  refine Run.q (v := .slice none 0 0) rfl (OpQ.y (OpY.pure rfl)) ?_
  refine Run.q (v := .bool false) rfl (OpQ.y (OpY.pure rfl)) ?_
  refine Run.done ?_
  refine Run.seq ?_
  refine Run.seq ?_
  refine Run.region ?_
  refine Run.q (v := .agg #[.int .i64 N, va]) rfl (OpQ.y (OpY.loadN (cs := [.int .i64 N, va]) Tagg_25 rfl (Cells.blk (.head _) ⟨rfl, rfl, trivial⟩))) ?_
  refine Run.q (v := .bool (cgOk N xs n)) rfl (OpQ.call (vs := [.agg #[.int .i64 N, va]]) (caps := []) Tcall_14 rfl rfl (fun w hs => IsValidCouplingGraph_spec (hs.sl ha))) ?_
  refine Run.q (v := .bool (!(cgOk N xs n))) rfl (OpQ.y (OpY.pure rfl)) ?_
  rcases Bool.eq_false_or_eq_true (!(cgOk N xs n)) with h9 | h9
  · refine Run.q (v := .bool true) rfl (OpQ.y (OpY.moveB rfl h9)) ?_
    have p9 := h9; try simp only [decide_eq_true_eq, decide_eq_false_iff_not, beq_iff_eq, bne_iff_ne, beq_eq_false_iff_ne, ne_eq, gt_iff_lt, ge_iff_le, Int.not_lt, Int.not_le, bne_eq_false_iff_eq, Bool.not_eq_true', Bool.not_eq_false', Bool.and_eq_true, Bool.and_eq_false_iff, Bool.or_eq_true, Bool.or_eq_false_iff, Decidable.not_not, List.cons.injEq, and_true] at p9
    refine Run.pass rfl ?_
    refine Run.pass rfl ?_
    refine Run.pass rfl ?_
    refine Run.pass rfl ?_
    refine Run.pass rfl ?_
    refine Run.pass rfl ?_
    refine Run.q (v := .bool true) rfl (OpQ.y (OpY.pure rfl)) ?_
    refine Run.done ?_
    refine Run.cond (b := true) rfl (fun _ => ?_) (fun h => nomatch h)
    refine Run.seq ?_
    have hok : nbOk N xs n node = false := by simp_all [nbOk]
    have hr : distR N xs n node = [] := by rw [distR, hok]; rfl
    refine Run.region ?_
    refine Run.q (v := .slice none 0 0) rfl (OpQ.y (OpY.pure rfl)) ?_
    refine Run.q (v := .bool false) rfl (OpQ.y (OpY.pure rfl)) ?_
    refine Run.done ?_
    refine Run.ret ?_
    refine ⟨.tuple #[.slice none 0 0, .bool false], [.own (.slice none 0 0) 3 1 ((distR N xs n node).length) (ints (distR N xs n node))], Out.two rfl rfl rfl, ((Weak.nilOwn 3 1).trans (Some'.weak (.takeEq (by rw [hr]; first | rfl | rw [hd.len]) (.nil _)))), ?_⟩
    exact ⟨_, by rw [hr]; simp, by rw [hok], rfl⟩
  · refine Run.q (v := .bool false) rfl (OpQ.y (OpY.moveB rfl h9)) ?_
    have p9 := h9; try simp only [decide_eq_true_eq, decide_eq_false_iff_not, beq_iff_eq, bne_iff_ne, beq_eq_false_iff_ne, ne_eq, gt_iff_lt, ge_iff_le, Int.not_lt, Int.not_le, bne_eq_false_iff_eq, Bool.not_eq_true', Bool.not_eq_false', Bool.and_eq_true, Bool.and_eq_false_iff, Bool.or_eq_true, Bool.or_eq_false_iff, Decidable.not_not, List.cons.injEq, and_true] at p9
    have hcg : cgOk N xs n = true := by simpa using p9
    have hcN := cgOk_N hcg
    refine Run.q (v := .int .i64 node) rfl (OpQ.y (OpY.pure rfl)) ?_
    refine Run.q (v := .pointer (some ⟨b1, 0, none⟩)) rfl (OpQ.y (OpY.fieldAddr Tfo_25_0 rfl rfl)) ?_
    refine Run.q (v := .int .i64 N) rfl (OpQ.y (OpY.load1 Tone_3 rfl (Cells.blk (.head _) ⟨rfl, trivial⟩))) ?_
    refine Run.q (v := .int .i64 (N - 1)) rfl (OpQ.y (OpY.sub rfl rfl rfl (by omega) (by omega))) ?_
    refine Run.q (v := .bool (within node 0 (N - 1))) rfl (OpQ.call (vs := [.int .i64 node, .int .i64 0, .int .i64 (N - 1)]) (caps := []) Tcall_39 rfl rfl (fun w hs => within_spec _ _ _ w)) ?_
    refine Run.q (v := .bool (!(within node 0 (N - 1)))) rfl (OpQ.y (OpY.pure rfl)) ?_
    refine Run.q (v := .bool (!(within node 0 (N - 1)))) rfl (OpQ.y (OpY.pure rfl)) ?_
    refine Run.done ?_
    refine Run.cond (b := !(within node 0 (N - 1))) rfl (fun h16 => ?_) (fun h16 => ?_)
    · have p16 := h16; try simp only [decide_eq_true_eq, decide_eq_false_iff_not, beq_iff_eq, bne_iff_ne, beq_eq_false_iff_ne, ne_eq, gt_iff_lt, ge_iff_le, Int.not_lt, Int.not_le, bne_eq_false_iff_eq, Bool.not_eq_true', Bool.not_eq_false', Bool.and_eq_true, Bool.and_eq_false_iff, Bool.or_eq_true, Bool.or_eq_false_iff, Decidable.not_not, List.cons.injEq, and_true] at p16
      refine Run.seq ?_
      have hok : nbOk N xs n node = false := by simp_all [nbOk]
      have hr : distR N xs n node = [] := by rw [distR, hok]; rfl
      refine Run.region ?_
      refine Run.q (v := .slice none 0 0) rfl (OpQ.y (OpY.pure rfl)) ?_
      refine Run.q (v := .bool false) rfl (OpQ.y (OpY.pure rfl)) ?_
      refine Run.done ?_
      refine Run.ret ?_
      refine ⟨.tuple #[.slice none 0 0, .bool false], [.own (.slice none 0 0) 3 1 ((distR N xs n node).length) (ints (distR N xs n node))], Out.two rfl rfl rfl, ((Weak.nilOwn 3 1).trans (Some'.weak (.takeEq (by rw [hr]; first | rfl | rw [hd.len]) (.nil _)))), ?_⟩
      exact ⟨_, by rw [hr]; simp, by rw [hok], rfl⟩
    · have p16 := h16; try simp only [decide_eq_true_eq, decide_eq_false_iff_not, beq_iff_eq, bne_iff_ne, beq_eq_false_iff_ne, ne_eq, gt_iff_lt, ge_iff_le, Int.not_lt, Int.not_le, bne_eq_false_iff_eq, Bool.not_eq_true', Bool.not_eq_false', Bool.and_eq_true, Bool.and_eq_false_iff, Bool.or_eq_true, Bool.or_eq_false_iff, Decidable.not_not, List.cons.injEq, and_true] at p16
      refine Run.skip ?_
      refine Run.seq ?_
      have hok : nbOk N xs n node = true := by simp_all [nbOk]
      have hwi : within node 0 (N - 1) = true := by simp_all [nbOk]
      have hw2 := within_iff.1 hwi
      have hr : distR N xs n node = distL xs n N.toNat node.toNat := by rw [distR, if_pos hok]
      refine Run.region ?_
      refine Run.q (v := .agg #[.int .i64 N, va]) rfl (OpQ.y (OpY.loadN (cs := [.int .i64 N, va]) Tagg_25 rfl (Cells.blk (.head _) ⟨rfl, rfl, trivial⟩))) ?_
      refine Run.q (v := .int .i64 node) rfl (OpQ.y (OpY.pure rfl)) ?_
      refine Run.step rfl (OpStep.call (vs := [.agg #[.int .i64 N, va], .int .i64 node]) (caps := []) Tcall_42 rfl rfl (fun w hs => distances_spec hcN ⟨hw2.1, by omega⟩ (cgOk_edges hcg) (hs.sl ha)) ?_)
      rintro u _ ⟨hd, rfl⟩
      show Run _ _ (putF _ _ _ u) [.own u 3 1 (N.toNat) (ints (distL xs n N.toNat node.toNat)), .blk b1 25 [.int .i64 N, va]]
      refine Run.q (v := u) rfl (OpQ.y (OpY.pure rfl)) ?_
      refine Run.q (v := .bool true) rfl (OpQ.y (OpY.pure rfl)) ?_
      refine Run.done ?_
      refine Run.ret ?_
      refine ⟨.tuple #[u, .bool true], [.own u 3 1 ((distR N xs n node).length) (ints (distR N xs n node))], Out.two rfl rfl rfl, (Some'.weak (.takeEq (by rw [hr]; first | rfl | rw [hd.len]) (.nil _))), ?_⟩
      exact ⟨_, by rw [hr, hd.len]; omega, by rw [hok], rfl⟩

end Go.Proofs.Ytgghmjijjdboeaa
