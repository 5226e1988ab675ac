/- Walks: distances in a coupling graph. -/
import Derived.Test.YtoiaibgcjfgbcaaG4
import Derived.Test.YtoiaibgcjfgbcaaProg
set_option linter.unusedSimpArgs false
set_option linter.unusedVariables false
namespace Go.Proofs.Ytoiaibgcjfgbcaa
open Go Go.RowKit
namespace DsT
theorem Tcall_52 : callable Try.prog 52 = true := by kernel_rfl
theorem Tcall_75 : callable Try.prog 75 = true := by kernel_rfl
theorem Tint_3 : Try.prog.underlying 3 = some (.int .i64) := by kernel_rfl
theorem Tint_52 : Try.prog.underlying 52 = some (.int .u64) := by kernel_rfl
theorem Tsl_24 : sliceOf Try.prog 24 = some (3, 1, 8, [.int .i64 0]) := by kernel_rfl
theorem Tsome_3 : (Try.prog.underlying 3).isSome = true := by kernel_rfl
theorem Tsome_52 : (Try.prog.underlying 52).isSome = true := by kernel_rfl
end DsT
open DsT
set_option maxHeartbeats 1000000 in
set_option maxRecDepth 20000 in
theorem Mul64_1 (w : World) : Calls Try.prog 75 #[.int .u64 1, .int .u64 1] w (Post No w fun v _ => v = .tuple #[.int .u64 0, .int .u64 1]) := by
 refine enter (n := 51) (args := [.int .u64 1, .int .u64 1]) Try.func75 rfl rfl (St.empty _ _) ?_
 refine Run.sr ?_
 refine Run.p (.int .u64 0) rfl rfl ?_
 refine Run.p (.int .u64 0) rfl rfl ?_
 refine Run.dsr ?_
 refine Run.p (.int .u64 1) rfl rfl ?_
 refine Run.y (.int .u64 1) rfl (OpY.pure (by kernel_rfl)) ?_
 refine Run.p (.int .u64 1) rfl rfl ?_
 refine Run.dsr ?_
 refine Run.p (.int .u64 1) rfl rfl ?_
 refine Run.y (.int .u64 0) rfl (OpY.pure (by kernel_rfl)) ?_
 refine Run.p (.int .u64 0) rfl rfl ?_
 refine Run.dsr ?_
 refine Run.p (.int .u64 1) rfl rfl ?_
 refine Run.y (.int .u64 1) rfl (OpY.pure (by kernel_rfl)) ?_
 refine Run.p (.int .u64 1) rfl rfl ?_
 refine Run.dsr ?_
 refine Run.p (.int .u64 1) rfl rfl ?_
 refine Run.y (.int .u64 0) rfl (OpY.pure (by kernel_rfl)) ?_
 refine Run.p (.int .u64 0) rfl rfl ?_
 refine Run.dsr ?_
 refine Run.p (.int .u64 1) rfl rfl ?_
 refine Run.p (.int .u64 1) rfl rfl ?_
 refine Run.y (.int .u64 1) rfl (OpY.pure (by kernel_rfl)) ?_
 refine Run.p (.int .u64 1) rfl rfl ?_
 refine Run.dsr ?_
 refine Run.p (.int .u64 0) rfl rfl ?_
 refine Run.p (.int .u64 1) rfl rfl ?_
 refine Run.y (.int .u64 0) rfl (OpY.pure (by kernel_rfl)) ?_
 refine Run.p (.int .u64 1) rfl rfl ?_
 refine Run.y (.int .u64 0) rfl (OpY.pure (by kernel_rfl)) ?_
 refine Run.y (.int .u64 0) rfl (OpY.pure (by kernel_rfl)) ?_
 refine Run.p (.int .u64 0) rfl rfl ?_
 refine Run.dsr ?_
 refine Run.p (.int .u64 0) rfl rfl ?_
 refine Run.y (.int .u64 0) rfl (OpY.pure (by kernel_rfl)) ?_
 refine Run.p (.int .u64 0) rfl rfl ?_
 refine Run.dsr ?_
 refine Run.p (.int .u64 0) rfl rfl ?_
 refine Run.y (.int .u64 0) rfl (OpY.pure (by kernel_rfl)) ?_
 refine Run.p (.int .u64 0) rfl rfl ?_
 refine Run.dsr ?_
 refine Run.p (.int .u64 0) rfl rfl ?_
 refine Run.p (.int .u64 1) rfl rfl ?_
 refine Run.p (.int .u64 0) rfl rfl ?_
 refine Run.y (.int .u64 0) rfl (OpY.pure (by kernel_rfl)) ?_
 refine Run.y (.int .u64 0) rfl (OpY.pure (by kernel_rfl)) ?_
 refine Run.p (.int .u64 0) rfl rfl ?_
 refine Run.dsr ?_
 refine Run.p (.int .u64 0) rfl rfl ?_
 refine Run.p (.int .u64 0) rfl rfl ?_
 refine Run.y (.int .u64 0) rfl (OpY.pure (by kernel_rfl)) ?_
 refine Run.p (.int .u64 0) rfl rfl ?_
 refine Run.y (.int .u64 0) rfl (OpY.pure (by kernel_rfl)) ?_
 refine Run.p (.int .u64 0) rfl rfl ?_
 refine Run.y (.int .u64 0) rfl (OpY.pure (by kernel_rfl)) ?_
 refine Run.y (.int .u64 0) rfl (OpY.pure (by kernel_rfl)) ?_
 refine Run.p (.int .u64 0) rfl rfl ?_
 refine Run.dsr ?_
 refine Run.p (.int .u64 1) rfl rfl ?_
 refine Run.p (.int .u64 1) rfl rfl ?_
 refine Run.y (.int .u64 1) rfl (OpY.pure (by kernel_rfl)) ?_
 refine Run.p (.int .u64 1) rfl rfl ?_
 refine Run.done ?_
 refine Run.ret ?_
 refine ⟨.tuple #[.int .u64 0, .int .u64 1], [], Out.two rfl rfl rfl, (Some'.weak (.nil _)), ?_⟩
 rfl

set_option maxHeartbeats 1000000 in
set_option maxRecDepth 20000 in
theorem Mul64_2 (w : World) : Calls Try.prog 75 #[.int .u64 1, .int .u64 2] w (Post No w fun v _ => v = .tuple #[.int .u64 0, .int .u64 2]) := by
 refine enter (n := 51) (args := [.int .u64 1, .int .u64 2]) Try.func75 rfl rfl (St.empty _ _) ?_
 refine Run.sr ?_
 refine Run.p (.int .u64 0) rfl rfl ?_
 refine Run.p (.int .u64 0) rfl rfl ?_
 refine Run.dsr ?_
 refine Run.p (.int .u64 1) rfl rfl ?_
 refine Run.y (.int .u64 1) rfl (OpY.pure (by kernel_rfl)) ?_
 refine Run.p (.int .u64 1) rfl rfl ?_
 refine Run.dsr ?_
 refine Run.p (.int .u64 1) rfl rfl ?_
 refine Run.y (.int .u64 0) rfl (OpY.pure (by kernel_rfl)) ?_
 refine Run.p (.int .u64 0) rfl rfl ?_
 refine Run.dsr ?_
 refine Run.p (.int .u64 2) rfl rfl ?_
 refine Run.y (.int .u64 2) rfl (OpY.pure (by kernel_rfl)) ?_
 refine Run.p (.int .u64 2) rfl rfl ?_
 refine Run.dsr ?_
 refine Run.p (.int .u64 2) rfl rfl ?_
 refine Run.y (.int .u64 0) rfl (OpY.pure (by kernel_rfl)) ?_
 refine Run.p (.int .u64 0) rfl rfl ?_
 refine Run.dsr ?_
 refine Run.p (.int .u64 1) rfl rfl ?_
 refine Run.p (.int .u64 2) rfl rfl ?_
 refine Run.y (.int .u64 2) rfl (OpY.pure (by kernel_rfl)) ?_
 refine Run.p (.int .u64 2) rfl rfl ?_
 refine Run.dsr ?_
 refine Run.p (.int .u64 0) rfl rfl ?_
 refine Run.p (.int .u64 2) rfl rfl ?_
 refine Run.y (.int .u64 0) rfl (OpY.pure (by kernel_rfl)) ?_
 refine Run.p (.int .u64 2) rfl rfl ?_
 refine Run.y (.int .u64 0) rfl (OpY.pure (by kernel_rfl)) ?_
 refine Run.y (.int .u64 0) rfl (OpY.pure (by kernel_rfl)) ?_
 refine Run.p (.int .u64 0) rfl rfl ?_
 refine Run.dsr ?_
 refine Run.p (.int .u64 0) rfl rfl ?_
 refine Run.y (.int .u64 0) rfl (OpY.pure (by kernel_rfl)) ?_
 refine Run.p (.int .u64 0) rfl rfl ?_
 refine Run.dsr ?_
 refine Run.p (.int .u64 0) rfl rfl ?_
 refine Run.y (.int .u64 0) rfl (OpY.pure (by kernel_rfl)) ?_
 refine Run.p (.int .u64 0) rfl rfl ?_
 refine Run.dsr ?_
 refine Run.p (.int .u64 0) rfl rfl ?_
 refine Run.p (.int .u64 1) rfl rfl ?_
 refine Run.p (.int .u64 0) rfl rfl ?_
 refine Run.y (.int .u64 0) rfl (OpY.pure (by kernel_rfl)) ?_
 refine Run.y (.int .u64 0) rfl (OpY.pure (by kernel_rfl)) ?_
 refine Run.p (.int .u64 0) rfl rfl ?_
 refine Run.dsr ?_
 refine Run.p (.int .u64 0) rfl rfl ?_
 refine Run.p (.int .u64 0) rfl rfl ?_
 refine Run.y (.int .u64 0) rfl (OpY.pure (by kernel_rfl)) ?_
 refine Run.p (.int .u64 0) rfl rfl ?_
 refine Run.y (.int .u64 0) rfl (OpY.pure (by kernel_rfl)) ?_
 refine Run.p (.int .u64 0) rfl rfl ?_
 refine Run.y (.int .u64 0) rfl (OpY.pure (by kernel_rfl)) ?_
 refine Run.y (.int .u64 0) rfl (OpY.pure (by kernel_rfl)) ?_
 refine Run.p (.int .u64 0) rfl rfl ?_
 refine Run.dsr ?_
 refine Run.p (.int .u64 1) rfl rfl ?_
 refine Run.p (.int .u64 2) rfl rfl ?_
 refine Run.y (.int .u64 2) rfl (OpY.pure (by kernel_rfl)) ?_
 refine Run.p (.int .u64 2) rfl rfl ?_
 refine Run.done ?_
 refine Run.ret ?_
 refine ⟨.tuple #[.int .u64 0, .int .u64 2], [], Out.two rfl rfl rfl, (Some'.weak (.nil _)), ?_⟩
 rfl

set_option maxHeartbeats 1000000 in
set_option maxRecDepth 20000 in
theorem Mul64_3 (w : World) : Calls Try.prog 75 #[.int .u64 1, .int .u64 3] w (Post No w fun v _ => v = .tuple #[.int .u64 0, .int .u64 3]) := by
 refine enter (n := 51) (args := [.int .u64 1, .int .u64 3]) Try.func75 rfl rfl (St.empty _ _) ?_
 refine Run.sr ?_
 refine Run.p (.int .u64 0) rfl rfl ?_
 refine Run.p (.int .u64 0) rfl rfl ?_
 refine Run.dsr ?_
 refine Run.p (.int .u64 1) rfl rfl ?_
 refine Run.y (.int .u64 1) rfl (OpY.pure (by kernel_rfl)) ?_
 refine Run.p (.int .u64 1) rfl rfl ?_
 refine Run.dsr ?_
 refine Run.p (.int .u64 1) rfl rfl ?_
 refine Run.y (.int .u64 0) rfl (OpY.pure (by kernel_rfl)) ?_
 refine Run.p (.int .u64 0) rfl rfl ?_
 refine Run.dsr ?_
 refine Run.p (.int .u64 3) rfl rfl ?_
 refine Run.y (.int .u64 3) rfl (OpY.pure (by kernel_rfl)) ?_
 refine Run.p (.int .u64 3) rfl rfl ?_
 refine Run.dsr ?_
 refine Run.p (.int .u64 3) rfl rfl ?_
 refine Run.y (.int .u64 0) rfl (OpY.pure (by kernel_rfl)) ?_
 refine Run.p (.int .u64 0) rfl rfl ?_
 refine Run.dsr ?_
 refine Run.p (.int .u64 1) rfl rfl ?_
 refine Run.p (.int .u64 3) rfl rfl ?_
 refine Run.y (.int .u64 3) rfl (OpY.pure (by kernel_rfl)) ?_
 refine Run.p (.int .u64 3) rfl rfl ?_
 refine Run.dsr ?_
 refine Run.p (.int .u64 0) rfl rfl ?_
 refine Run.p (.int .u64 3) rfl rfl ?_
 refine Run.y (.int .u64 0) rfl (OpY.pure (by kernel_rfl)) ?_
 refine Run.p (.int .u64 3) rfl rfl ?_
 refine Run.y (.int .u64 0) rfl (OpY.pure (by kernel_rfl)) ?_
 refine Run.y (.int .u64 0) rfl (OpY.pure (by kernel_rfl)) ?_
 refine Run.p (.int .u64 0) rfl rfl ?_
 refine Run.dsr ?_
 refine Run.p (.int .u64 0) rfl rfl ?_
 refine Run.y (.int .u64 0) rfl (OpY.pure (by kernel_rfl)) ?_
 refine Run.p (.int .u64 0) rfl rfl ?_
 refine Run.dsr ?_
 refine Run.p (.int .u64 0) rfl rfl ?_
 refine Run.y (.int .u64 0) rfl (OpY.pure (by kernel_rfl)) ?_
 refine Run.p (.int .u64 0) rfl rfl ?_
 refine Run.dsr ?_
 refine Run.p (.int .u64 0) rfl rfl ?_
 refine Run.p (.int .u64 1) rfl rfl ?_
 refine Run.p (.int .u64 0) rfl rfl ?_
 refine Run.y (.int .u64 0) rfl (OpY.pure (by kernel_rfl)) ?_
 refine Run.y (.int .u64 0) rfl (OpY.pure (by kernel_rfl)) ?_
 refine Run.p (.int .u64 0) rfl rfl ?_
 refine Run.dsr ?_
 refine Run.p (.int .u64 0) rfl rfl ?_
 refine Run.p (.int .u64 0) rfl rfl ?_
 refine Run.y (.int .u64 0) rfl (OpY.pure (by kernel_rfl)) ?_
 refine Run.p (.int .u64 0) rfl rfl ?_
 refine Run.y (.int .u64 0) rfl (OpY.pure (by kernel_rfl)) ?_
 refine Run.p (.int .u64 0) rfl rfl ?_
 refine Run.y (.int .u64 0) rfl (OpY.pure (by kernel_rfl)) ?_
 refine Run.y (.int .u64 0) rfl (OpY.pure (by kernel_rfl)) ?_
 refine Run.p (.int .u64 0) rfl rfl ?_
 refine Run.dsr ?_
 refine Run.p (.int .u64 1) rfl rfl ?_
 refine Run.p (.int .u64 3) rfl rfl ?_
 refine Run.y (.int .u64 3) rfl (OpY.pure (by kernel_rfl)) ?_
 refine Run.p (.int .u64 3) rfl rfl ?_
 refine Run.done ?_
 refine Run.ret ?_
 refine ⟨.tuple #[.int .u64 0, .int .u64 3], [], Out.two rfl rfl rfl, (Some'.weak (.nil _)), ?_⟩
 rfl

set_option maxHeartbeats 1000000 in
set_option maxRecDepth 20000 in
theorem Mul64_4 (w : World) : Calls Try.prog 75 #[.int .u64 1, .int .u64 4] w (Post No w fun v _ => v = .tuple #[.int .u64 0, .int .u64 4]) := by
 refine enter (n := 51) (args := [.int .u64 1, .int .u64 4]) Try.func75 rfl rfl (St.empty _ _) ?_
 refine Run.sr ?_
 refine Run.p (.int .u64 0) rfl rfl ?_
 refine Run.p (.int .u64 0) rfl rfl ?_
 refine Run.dsr ?_
 refine Run.p (.int .u64 1) rfl rfl ?_
 refine Run.y (.int .u64 1) rfl (OpY.pure (by kernel_rfl)) ?_
 refine Run.p (.int .u64 1) rfl rfl ?_
 refine Run.dsr ?_
 refine Run.p (.int .u64 1) rfl rfl ?_
 refine Run.y (.int .u64 0) rfl (OpY.pure (by kernel_rfl)) ?_
 refine Run.p (.int .u64 0) rfl rfl ?_
 refine Run.dsr ?_
 refine Run.p (.int .u64 4) rfl rfl ?_
 refine Run.y (.int .u64 4) rfl (OpY.pure (by kernel_rfl)) ?_
 refine Run.p (.int .u64 4) rfl rfl ?_
 refine Run.dsr ?_
 refine Run.p (.int .u64 4) rfl rfl ?_
 refine Run.y (.int .u64 0) rfl (OpY.pure (by kernel_rfl)) ?_
 refine Run.p (.int .u64 0) rfl rfl ?_
 refine Run.dsr ?_
 refine Run.p (.int .u64 1) rfl rfl ?_
 refine Run.p (.int .u64 4) rfl rfl ?_
 refine Run.y (.int .u64 4) rfl (OpY.pure (by kernel_rfl)) ?_
 refine Run.p (.int .u64 4) rfl rfl ?_
 refine Run.dsr ?_
 refine Run.p (.int .u64 0) rfl rfl ?_
 refine Run.p (.int .u64 4) rfl rfl ?_
 refine Run.y (.int .u64 0) rfl (OpY.pure (by kernel_rfl)) ?_
 refine Run.p (.int .u64 4) rfl rfl ?_
 refine Run.y (.int .u64 0) rfl (OpY.pure (by kernel_rfl)) ?_
 refine Run.y (.int .u64 0) rfl (OpY.pure (by kernel_rfl)) ?_
 refine Run.p (.int .u64 0) rfl rfl ?_
 refine Run.dsr ?_
 refine Run.p (.int .u64 0) rfl rfl ?_
 refine Run.y (.int .u64 0) rfl (OpY.pure (by kernel_rfl)) ?_
 refine Run.p (.int .u64 0) rfl rfl ?_
 refine Run.dsr ?_
 refine Run.p (.int .u64 0) rfl rfl ?_
 refine Run.y (.int .u64 0) rfl (OpY.pure (by kernel_rfl)) ?_
 refine Run.p (.int .u64 0) rfl rfl ?_
 refine Run.dsr ?_
 refine Run.p (.int .u64 0) rfl rfl ?_
 refine Run.p (.int .u64 1) rfl rfl ?_
 refine Run.p (.int .u64 0) rfl rfl ?_
 refine Run.y (.int .u64 0) rfl (OpY.pure (by kernel_rfl)) ?_
 refine Run.y (.int .u64 0) rfl (OpY.pure (by kernel_rfl)) ?_
 refine Run.p (.int .u64 0) rfl rfl ?_
 refine Run.dsr ?_
 refine Run.p (.int .u64 0) rfl rfl ?_
 refine Run.p (.int .u64 0) rfl rfl ?_
 refine Run.y (.int .u64 0) rfl (OpY.pure (by kernel_rfl)) ?_
 refine Run.p (.int .u64 0) rfl rfl ?_
 refine Run.y (.int .u64 0) rfl (OpY.pure (by kernel_rfl)) ?_
 refine Run.p (.int .u64 0) rfl rfl ?_
 refine Run.y (.int .u64 0) rfl (OpY.pure (by kernel_rfl)) ?_
 refine Run.y (.int .u64 0) rfl (OpY.pure (by kernel_rfl)) ?_
 refine Run.p (.int .u64 0) rfl rfl ?_
 refine Run.dsr ?_
 refine Run.p (.int .u64 1) rfl rfl ?_
 refine Run.p (.int .u64 4) rfl rfl ?_
 refine Run.y (.int .u64 4) rfl (OpY.pure (by kernel_rfl)) ?_
 refine Run.p (.int .u64 4) rfl rfl ?_
 refine Run.done ?_
 refine Run.ret ?_
 refine ⟨.tuple #[.int .u64 0, .int .u64 4], [], Out.two rfl rfl rfl, (Some'.weak (.nil _)), ?_⟩
 rfl

set_option maxHeartbeats 1000000 in
set_option maxRecDepth 20000 in
theorem Mul64_5 (w : World) : Calls Try.prog 75 #[.int .u64 1, .int .u64 5] w (Post No w fun v _ => v = .tuple #[.int .u64 0, .int .u64 5]) := by
 refine enter (n := 51) (args := [.int .u64 1, .int .u64 5]) Try.func75 rfl rfl (St.empty _ _) ?_
 refine Run.sr ?_
 refine Run.p (.int .u64 0) rfl rfl ?_
 refine Run.p (.int .u64 0) rfl rfl ?_
 refine Run.dsr ?_
 refine Run.p (.int .u64 1) rfl rfl ?_
 refine Run.y (.int .u64 1) rfl (OpY.pure (by kernel_rfl)) ?_
 refine Run.p (.int .u64 1) rfl rfl ?_
 refine Run.dsr ?_
 refine Run.p (.int .u64 1) rfl rfl ?_
 refine Run.y (.int .u64 0) rfl (OpY.pure (by kernel_rfl)) ?_
 refine Run.p (.int .u64 0) rfl rfl ?_
 refine Run.dsr ?_
 refine Run.p (.int .u64 5) rfl rfl ?_
 refine Run.y (.int .u64 5) rfl (OpY.pure (by kernel_rfl)) ?_
 refine Run.p (.int .u64 5) rfl rfl ?_
 refine Run.dsr ?_
 refine Run.p (.int .u64 5) rfl rfl ?_
 refine Run.y (.int .u64 0) rfl (OpY.pure (by kernel_rfl)) ?_
 refine Run.p (.int .u64 0) rfl rfl ?_
 refine Run.dsr ?_
 refine Run.p (.int .u64 1) rfl rfl ?_
 refine Run.p (.int .u64 5) rfl rfl ?_
 refine Run.y (.int .u64 5) rfl (OpY.pure (by kernel_rfl)) ?_
 refine Run.p (.int .u64 5) rfl rfl ?_
 refine Run.dsr ?_
 refine Run.p (.int .u64 0) rfl rfl ?_
 refine Run.p (.int .u64 5) rfl rfl ?_
 refine Run.y (.int .u64 0) rfl (OpY.pure (by kernel_rfl)) ?_
 refine Run.p (.int .u64 5) rfl rfl ?_
 refine Run.y (.int .u64 0) rfl (OpY.pure (by kernel_rfl)) ?_
 refine Run.y (.int .u64 0) rfl (OpY.pure (by kernel_rfl)) ?_
 refine Run.p (.int .u64 0) rfl rfl ?_
 refine Run.dsr ?_
 refine Run.p (.int .u64 0) rfl rfl ?_
 refine Run.y (.int .u64 0) rfl (OpY.pure (by kernel_rfl)) ?_
 refine Run.p (.int .u64 0) rfl rfl ?_
 refine Run.dsr ?_
 refine Run.p (.int .u64 0) rfl rfl ?_
 refine Run.y (.int .u64 0) rfl (OpY.pure (by kernel_rfl)) ?_
 refine Run.p (.int .u64 0) rfl rfl ?_
 refine Run.dsr ?_
 refine Run.p (.int .u64 0) rfl rfl ?_
 refine Run.p (.int .u64 1) rfl rfl ?_
 refine Run.p (.int .u64 0) rfl rfl ?_
 refine Run.y (.int .u64 0) rfl (OpY.pure (by kernel_rfl)) ?_
 refine Run.y (.int .u64 0) rfl (OpY.pure (by kernel_rfl)) ?_
 refine Run.p (.int .u64 0) rfl rfl ?_
 refine Run.dsr ?_
 refine Run.p (.int .u64 0) rfl rfl ?_
 refine Run.p (.int .u64 0) rfl rfl ?_
 refine Run.y (.int .u64 0) rfl (OpY.pure (by kernel_rfl)) ?_
 refine Run.p (.int .u64 0) rfl rfl ?_
 refine Run.y (.int .u64 0) rfl (OpY.pure (by kernel_rfl)) ?_
 refine Run.p (.int .u64 0) rfl rfl ?_
 refine Run.y (.int .u64 0) rfl (OpY.pure (by kernel_rfl)) ?_
 refine Run.y (.int .u64 0) rfl (OpY.pure (by kernel_rfl)) ?_
 refine Run.p (.int .u64 0) rfl rfl ?_
 refine Run.dsr ?_
 refine Run.p (.int .u64 1) rfl rfl ?_
 refine Run.p (.int .u64 5) rfl rfl ?_
 refine Run.y (.int .u64 5) rfl (OpY.pure (by kernel_rfl)) ?_
 refine Run.p (.int .u64 5) rfl rfl ?_
 refine Run.done ?_
 refine Run.ret ?_
 refine ⟨.tuple #[.int .u64 0, .int .u64 5], [], Out.two rfl rfl rfl, (Some'.weak (.nil _)), ?_⟩
 rfl

set_option maxHeartbeats 1000000 in
set_option maxRecDepth 20000 in
theorem Mul64_6 (w : World) : Calls Try.prog 75 #[.int .u64 1, .int .u64 6] w (Post No w fun v _ => v = .tuple #[.int .u64 0, .int .u64 6]) := by
 refine enter (n := 51) (args := [.int .u64 1, .int .u64 6]) Try.func75 rfl rfl (St.empty _ _) ?_
 refine Run.sr ?_
 refine Run.p (.int .u64 0) rfl rfl ?_
 refine Run.p (.int .u64 0) rfl rfl ?_
 refine Run.dsr ?_
 refine Run.p (.int .u64 1) rfl rfl ?_
 refine Run.y (.int .u64 1) rfl (OpY.pure (by kernel_rfl)) ?_
 refine Run.p (.int .u64 1) rfl rfl ?_
 refine Run.dsr ?_
 refine Run.p (.int .u64 1) rfl rfl ?_
 refine Run.y (.int .u64 0) rfl (OpY.pure (by kernel_rfl)) ?_
 refine Run.p (.int .u64 0) rfl rfl ?_
 refine Run.dsr ?_
 refine Run.p (.int .u64 6) rfl rfl ?_
 refine Run.y (.int .u64 6) rfl (OpY.pure (by kernel_rfl)) ?_
 refine Run.p (.int .u64 6) rfl rfl ?_
 refine Run.dsr ?_
 refine Run.p (.int .u64 6) rfl rfl ?_
 refine Run.y (.int .u64 0) rfl (OpY.pure (by kernel_rfl)) ?_
 refine Run.p (.int .u64 0) rfl rfl ?_
 refine Run.dsr ?_
 refine Run.p (.int .u64 1) rfl rfl ?_
 refine Run.p (.int .u64 6) rfl rfl ?_
 refine Run.y (.int .u64 6) rfl (OpY.pure (by kernel_rfl)) ?_
 refine Run.p (.int .u64 6) rfl rfl ?_
 refine Run.dsr ?_
 refine Run.p (.int .u64 0) rfl rfl ?_
 refine Run.p (.int .u64 6) rfl rfl ?_
 refine Run.y (.int .u64 0) rfl (OpY.pure (by kernel_rfl)) ?_
 refine Run.p (.int .u64 6) rfl rfl ?_
 refine Run.y (.int .u64 0) rfl (OpY.pure (by kernel_rfl)) ?_
 refine Run.y (.int .u64 0) rfl (OpY.pure (by kernel_rfl)) ?_
 refine Run.p (.int .u64 0) rfl rfl ?_
 refine Run.dsr ?_
 refine Run.p (.int .u64 0) rfl rfl ?_
 refine Run.y (.int .u64 0) rfl (OpY.pure (by kernel_rfl)) ?_
 refine Run.p (.int .u64 0) rfl rfl ?_
 refine Run.dsr ?_
 refine Run.p (.int .u64 0) rfl rfl ?_
 refine Run.y (.int .u64 0) rfl (OpY.pure (by kernel_rfl)) ?_
 refine Run.p (.int .u64 0) rfl rfl ?_
 refine Run.dsr ?_
 refine Run.p (.int .u64 0) rfl rfl ?_
 refine Run.p (.int .u64 1) rfl rfl ?_
 refine Run.p (.int .u64 0) rfl rfl ?_
 refine Run.y (.int .u64 0) rfl (OpY.pure (by kernel_rfl)) ?_
 refine Run.y (.int .u64 0) rfl (OpY.pure (by kernel_rfl)) ?_
 refine Run.p (.int .u64 0) rfl rfl ?_
 refine Run.dsr ?_
 refine Run.p (.int .u64 0) rfl rfl ?_
 refine Run.p (.int .u64 0) rfl rfl ?_
 refine Run.y (.int .u64 0) rfl (OpY.pure (by kernel_rfl)) ?_
 refine Run.p (.int .u64 0) rfl rfl ?_
 refine Run.y (.int .u64 0) rfl (OpY.pure (by kernel_rfl)) ?_
 refine Run.p (.int .u64 0) rfl rfl ?_
 refine Run.y (.int .u64 0) rfl (OpY.pure (by kernel_rfl)) ?_
 refine Run.y (.int .u64 0) rfl (OpY.pure (by kernel_rfl)) ?_
 refine Run.p (.int .u64 0) rfl rfl ?_
 refine Run.dsr ?_
 refine Run.p (.int .u64 1) rfl rfl ?_
 refine Run.p (.int .u64 6) rfl rfl ?_
 refine Run.y (.int .u64 6) rfl (OpY.pure (by kernel_rfl)) ?_
 refine Run.p (.int .u64 6) rfl rfl ?_
 refine Run.done ?_
 refine Run.ret ?_
 refine ⟨.tuple #[.int .u64 0, .int .u64 6], [], Out.two rfl rfl rfl, (Some'.weak (.nil _)), ?_⟩
 rfl

set_option maxHeartbeats 1000000 in
set_option maxRecDepth 20000 in
theorem Mul64_7 (w : World) : Calls Try.prog 75 #[.int .u64 1, .int .u64 7] w (Post No w fun v _ => v = .tuple #[.int .u64 0, .int .u64 7]) := by
 refine enter (n := 51) (args := [.int .u64 1, .int .u64 7]) Try.func75 rfl rfl (St.empty _ _) ?_
 refine Run.sr ?_
 refine Run.p (.int .u64 0) rfl rfl ?_
 refine Run.p (.int .u64 0) rfl rfl ?_
 refine Run.dsr ?_
 refine Run.p (.int .u64 1) rfl rfl ?_
 refine Run.y (.int .u64 1) rfl (OpY.pure (by kernel_rfl)) ?_
 refine Run.p (.int .u64 1) rfl rfl ?_
 refine Run.dsr ?_
 refine Run.p (.int .u64 1) rfl rfl ?_
 refine Run.y (.int .u64 0) rfl (OpY.pure (by kernel_rfl)) ?_
 refine Run.p (.int .u64 0) rfl rfl ?_
 refine Run.dsr ?_
 refine Run.p (.int .u64 7) rfl rfl ?_
 refine Run.y (.int .u64 7) rfl (OpY.pure (by kernel_rfl)) ?_
 refine Run.p (.int .u64 7) rfl rfl ?_
 refine Run.dsr ?_
 refine Run.p (.int .u64 7) rfl rfl ?_
 refine Run.y (.int .u64 0) rfl (OpY.pure (by kernel_rfl)) ?_
 refine Run.p (.int .u64 0) rfl rfl ?_
 refine Run.dsr ?_
 refine Run.p (.int .u64 1) rfl rfl ?_
 refine Run.p (.int .u64 7) rfl rfl ?_
 refine Run.y (.int .u64 7) rfl (OpY.pure (by kernel_rfl)) ?_
 refine Run.p (.int .u64 7) rfl rfl ?_
 refine Run.dsr ?_
 refine Run.p (.int .u64 0) rfl rfl ?_
 refine Run.p (.int .u64 7) rfl rfl ?_
 refine Run.y (.int .u64 0) rfl (OpY.pure (by kernel_rfl)) ?_
 refine Run.p (.int .u64 7) rfl rfl ?_
 refine Run.y (.int .u64 0) rfl (OpY.pure (by kernel_rfl)) ?_
 refine Run.y (.int .u64 0) rfl (OpY.pure (by kernel_rfl)) ?_
 refine Run.p (.int .u64 0) rfl rfl ?_
 refine Run.dsr ?_
 refine Run.p (.int .u64 0) rfl rfl ?_
 refine Run.y (.int .u64 0) rfl (OpY.pure (by kernel_rfl)) ?_
 refine Run.p (.int .u64 0) rfl rfl ?_
 refine Run.dsr ?_
 refine Run.p (.int .u64 0) rfl rfl ?_
 refine Run.y (.int .u64 0) rfl (OpY.pure (by kernel_rfl)) ?_
 refine Run.p (.int .u64 0) rfl rfl ?_
 refine Run.dsr ?_
 refine Run.p (.int .u64 0) rfl rfl ?_
 refine Run.p (.int .u64 1) rfl rfl ?_
 refine Run.p (.int .u64 0) rfl rfl ?_
 refine Run.y (.int .u64 0) rfl (OpY.pure (by kernel_rfl)) ?_
 refine Run.y (.int .u64 0) rfl (OpY.pure (by kernel_rfl)) ?_
 refine Run.p (.int .u64 0) rfl rfl ?_
 refine Run.dsr ?_
 refine Run.p (.int .u64 0) rfl rfl ?_
 refine Run.p (.int .u64 0) rfl rfl ?_
 refine Run.y (.int .u64 0) rfl (OpY.pure (by kernel_rfl)) ?_
 refine Run.p (.int .u64 0) rfl rfl ?_
 refine Run.y (.int .u64 0) rfl (OpY.pure (by kernel_rfl)) ?_
 refine Run.p (.int .u64 0) rfl rfl ?_
 refine Run.y (.int .u64 0) rfl (OpY.pure (by kernel_rfl)) ?_
 refine Run.y (.int .u64 0) rfl (OpY.pure (by kernel_rfl)) ?_
 refine Run.p (.int .u64 0) rfl rfl ?_
 refine Run.dsr ?_
 refine Run.p (.int .u64 1) rfl rfl ?_
 refine Run.p (.int .u64 7) rfl rfl ?_
 refine Run.y (.int .u64 7) rfl (OpY.pure (by kernel_rfl)) ?_
 refine Run.p (.int .u64 7) rfl rfl ?_
 refine Run.done ?_
 refine Run.ret ?_
 refine ⟨.tuple #[.int .u64 0, .int .u64 7], [], Out.two rfl rfl rfl, (Some'.weak (.nil _)), ?_⟩
 rfl

set_option maxHeartbeats 1000000 in
set_option maxRecDepth 20000 in
theorem Mul64_8 (w : World) : Calls Try.prog 75 #[.int .u64 1, .int .u64 8] w (Post No w fun v _ => v = .tuple #[.int .u64 0, .int .u64 8]) := by
 refine enter (n := 51) (args := [.int .u64 1, .int .u64 8]) Try.func75 rfl rfl (St.empty _ _) ?_
 refine Run.sr ?_
 refine Run.p (.int .u64 0) rfl rfl ?_
 refine Run.p (.int .u64 0) rfl rfl ?_
 refine Run.dsr ?_
 refine Run.p (.int .u64 1) rfl rfl ?_
 refine Run.y (.int .u64 1) rfl (OpY.pure (by kernel_rfl)) ?_
 refine Run.p (.int .u64 1) rfl rfl ?_
 refine Run.dsr ?_
 refine Run.p (.int .u64 1) rfl rfl ?_
 refine Run.y (.int .u64 0) rfl (OpY.pure (by kernel_rfl)) ?_
 refine Run.p (.int .u64 0) rfl rfl ?_
 refine Run.dsr ?_
 refine Run.p (.int .u64 8) rfl rfl ?_
 refine Run.y (.int .u64 8) rfl (OpY.pure (by kernel_rfl)) ?_
 refine Run.p (.int .u64 8) rfl rfl ?_
 refine Run.dsr ?_
 refine Run.p (.int .u64 8) rfl rfl ?_
 refine Run.y (.int .u64 0) rfl (OpY.pure (by kernel_rfl)) ?_
 refine Run.p (.int .u64 0) rfl rfl ?_
 refine Run.dsr ?_
 refine Run.p (.int .u64 1) rfl rfl ?_
 refine Run.p (.int .u64 8) rfl rfl ?_
 refine Run.y (.int .u64 8) rfl (OpY.pure (by kernel_rfl)) ?_
 refine Run.p (.int .u64 8) rfl rfl ?_
 refine Run.dsr ?_
 refine Run.p (.int .u64 0) rfl rfl ?_
 refine Run.p (.int .u64 8) rfl rfl ?_
 refine Run.y (.int .u64 0) rfl (OpY.pure (by kernel_rfl)) ?_
 refine Run.p (.int .u64 8) rfl rfl ?_
 refine Run.y (.int .u64 0) rfl (OpY.pure (by kernel_rfl)) ?_
 refine Run.y (.int .u64 0) rfl (OpY.pure (by kernel_rfl)) ?_
 refine Run.p (.int .u64 0) rfl rfl ?_
 refine Run.dsr ?_
 refine Run.p (.int .u64 0) rfl rfl ?_
 refine Run.y (.int .u64 0) rfl (OpY.pure (by kernel_rfl)) ?_
 refine Run.p (.int .u64 0) rfl rfl ?_
 refine Run.dsr ?_
 refine Run.p (.int .u64 0) rfl rfl ?_
 refine Run.y (.int .u64 0) rfl (OpY.pure (by kernel_rfl)) ?_
 refine Run.p (.int .u64 0) rfl rfl ?_
 refine Run.dsr ?_
 refine Run.p (.int .u64 0) rfl rfl ?_
 refine Run.p (.int .u64 1) rfl rfl ?_
 refine Run.p (.int .u64 0) rfl rfl ?_
 refine Run.y (.int .u64 0) rfl (OpY.pure (by kernel_rfl)) ?_
 refine Run.y (.int .u64 0) rfl (OpY.pure (by kernel_rfl)) ?_
 refine Run.p (.int .u64 0) rfl rfl ?_
 refine Run.dsr ?_
 refine Run.p (.int .u64 0) rfl rfl ?_
 refine Run.p (.int .u64 0) rfl rfl ?_
 refine Run.y (.int .u64 0) rfl (OpY.pure (by kernel_rfl)) ?_
 refine Run.p (.int .u64 0) rfl rfl ?_
 refine Run.y (.int .u64 0) rfl (OpY.pure (by kernel_rfl)) ?_
 refine Run.p (.int .u64 0) rfl rfl ?_
 refine Run.y (.int .u64 0) rfl (OpY.pure (by kernel_rfl)) ?_
 refine Run.y (.int .u64 0) rfl (OpY.pure (by kernel_rfl)) ?_
 refine Run.p (.int .u64 0) rfl rfl ?_
 refine Run.dsr ?_
 refine Run.p (.int .u64 1) rfl rfl ?_
 refine Run.p (.int .u64 8) rfl rfl ?_
 refine Run.y (.int .u64 8) rfl (OpY.pure (by kernel_rfl)) ?_
 refine Run.p (.int .u64 8) rfl rfl ?_
 refine Run.done ?_
 refine Run.ret ?_
 refine ⟨.tuple #[.int .u64 0, .int .u64 8], [], Out.two rfl rfl rfl, (Some'.weak (.nil _)), ?_⟩
 rfl

set_option maxHeartbeats 1000000 in
set_option maxRecDepth 20000 in
theorem Mul64_9 (w : World) : Calls Try.prog 75 #[.int .u64 1, .int .u64 9] w (Post No w fun v _ => v = .tuple #[.int .u64 0, .int .u64 9]) := by
 refine enter (n := 51) (args := [.int .u64 1, .int .u64 9]) Try.func75 rfl rfl (St.empty _ _) ?_
 refine Run.sr ?_
 refine Run.p (.int .u64 0) rfl rfl ?_
 refine Run.p (.int .u64 0) rfl rfl ?_
 refine Run.dsr ?_
 refine Run.p (.int .u64 1) rfl rfl ?_
 refine Run.y (.int .u64 1) rfl (OpY.pure (by kernel_rfl)) ?_
 refine Run.p (.int .u64 1) rfl rfl ?_
 refine Run.dsr ?_
 refine Run.p (.int .u64 1) rfl rfl ?_
 refine Run.y (.int .u64 0) rfl (OpY.pure (by kernel_rfl)) ?_
 refine Run.p (.int .u64 0) rfl rfl ?_
 refine Run.dsr ?_
 refine Run.p (.int .u64 9) rfl rfl ?_
 refine Run.y (.int .u64 9) rfl (OpY.pure (by kernel_rfl)) ?_
 refine Run.p (.int .u64 9) rfl rfl ?_
 refine Run.dsr ?_
 refine Run.p (.int .u64 9) rfl rfl ?_
 refine Run.y (.int .u64 0) rfl (OpY.pure (by kernel_rfl)) ?_
 refine Run.p (.int .u64 0) rfl rfl ?_
 refine Run.dsr ?_
 refine Run.p (.int .u64 1) rfl rfl ?_
 refine Run.p (.int .u64 9) rfl rfl ?_
 refine Run.y (.int .u64 9) rfl (OpY.pure (by kernel_rfl)) ?_
 refine Run.p (.int .u64 9) rfl rfl ?_
 refine Run.dsr ?_
 refine Run.p (.int .u64 0) rfl rfl ?_
 refine Run.p (.int .u64 9) rfl rfl ?_
 refine Run.y (.int .u64 0) rfl (OpY.pure (by kernel_rfl)) ?_
 refine Run.p (.int .u64 9) rfl rfl ?_
 refine Run.y (.int .u64 0) rfl (OpY.pure (by kernel_rfl)) ?_
 refine Run.y (.int .u64 0) rfl (OpY.pure (by kernel_rfl)) ?_
 refine Run.p (.int .u64 0) rfl rfl ?_
 refine Run.dsr ?_
 refine Run.p (.int .u64 0) rfl rfl ?_
 refine Run.y (.int .u64 0) rfl (OpY.pure (by kernel_rfl)) ?_
 refine Run.p (.int .u64 0) rfl rfl ?_
 refine Run.dsr ?_
 refine Run.p (.int .u64 0) rfl rfl ?_
 refine Run.y (.int .u64 0) rfl (OpY.pure (by kernel_rfl)) ?_
 refine Run.p (.int .u64 0) rfl rfl ?_
 refine Run.dsr ?_
 refine Run.p (.int .u64 0) rfl rfl ?_
 refine Run.p (.int .u64 1) rfl rfl ?_
 refine Run.p (.int .u64 0) rfl rfl ?_
 refine Run.y (.int .u64 0) rfl (OpY.pure (by kernel_rfl)) ?_
 refine Run.y (.int .u64 0) rfl (OpY.pure (by kernel_rfl)) ?_
 refine Run.p (.int .u64 0) rfl rfl ?_
 refine Run.dsr ?_
 refine Run.p (.int .u64 0) rfl rfl ?_
 refine Run.p (.int .u64 0) rfl rfl ?_
 refine Run.y (.int .u64 0) rfl (OpY.pure (by kernel_rfl)) ?_
 refine Run.p (.int .u64 0) rfl rfl ?_
 refine Run.y (.int .u64 0) rfl (OpY.pure (by kernel_rfl)) ?_
 refine Run.p (.int .u64 0) rfl rfl ?_
 refine Run.y (.int .u64 0) rfl (OpY.pure (by kernel_rfl)) ?_
 refine Run.y (.int .u64 0) rfl (OpY.pure (by kernel_rfl)) ?_
 refine Run.p (.int .u64 0) rfl rfl ?_
 refine Run.dsr ?_
 refine Run.p (.int .u64 1) rfl rfl ?_
 refine Run.p (.int .u64 9) rfl rfl ?_
 refine Run.y (.int .u64 9) rfl (OpY.pure (by kernel_rfl)) ?_
 refine Run.p (.int .u64 9) rfl rfl ?_
 refine Run.done ?_
 refine Run.ret ?_
 refine ⟨.tuple #[.int .u64 0, .int .u64 9], [], Out.two rfl rfl rfl, (Some'.weak (.nil _)), ?_⟩
 rfl

set_option maxHeartbeats 1000000 in
set_option maxRecDepth 20000 in
theorem Mul64_10 (w : World) : Calls Try.prog 75 #[.int .u64 1, .int .u64 10] w (Post No w fun v _ => v = .tuple #[.int .u64 0, .int .u64 10]) := by
 refine enter (n := 51) (args := [.int .u64 1, .int .u64 10]) Try.func75 rfl rfl (St.empty _ _) ?_
 refine Run.sr ?_
 refine Run.p (.int .u64 0) rfl rfl ?_
 refine Run.p (.int .u64 0) rfl rfl ?_
 refine Run.dsr ?_
 refine Run.p (.int .u64 1) rfl rfl ?_
 refine Run.y (.int .u64 1) rfl (OpY.pure (by kernel_rfl)) ?_
 refine Run.p (.int .u64 1) rfl rfl ?_
 refine Run.dsr ?_
 refine Run.p (.int .u64 1) rfl rfl ?_
 refine Run.y (.int .u64 0) rfl (OpY.pure (by kernel_rfl)) ?_
 refine Run.p (.int .u64 0) rfl rfl ?_
 refine Run.dsr ?_
 refine Run.p (.int .u64 10) rfl rfl ?_
 refine Run.y (.int .u64 10) rfl (OpY.pure (by kernel_rfl)) ?_
 refine Run.p (.int .u64 10) rfl rfl ?_
 refine Run.dsr ?_
 refine Run.p (.int .u64 10) rfl rfl ?_
 refine Run.y (.int .u64 0) rfl (OpY.pure (by kernel_rfl)) ?_
 refine Run.p (.int .u64 0) rfl rfl ?_
 refine Run.dsr ?_
 refine Run.p (.int .u64 1) rfl rfl ?_
 refine Run.p (.int .u64 10) rfl rfl ?_
 refine Run.y (.int .u64 10) rfl (OpY.pure (by kernel_rfl)) ?_
 refine Run.p (.int .u64 10) rfl rfl ?_
 refine Run.dsr ?_
 refine Run.p (.int .u64 0) rfl rfl ?_
 refine Run.p (.int .u64 10) rfl rfl ?_
 refine Run.y (.int .u64 0) rfl (OpY.pure (by kernel_rfl)) ?_
 refine Run.p (.int .u64 10) rfl rfl ?_
 refine Run.y (.int .u64 0) rfl (OpY.pure (by kernel_rfl)) ?_
 refine Run.y (.int .u64 0) rfl (OpY.pure (by kernel_rfl)) ?_
 refine Run.p (.int .u64 0) rfl rfl ?_
 refine Run.dsr ?_
 refine Run.p (.int .u64 0) rfl rfl ?_
 refine Run.y (.int .u64 0) rfl (OpY.pure (by kernel_rfl)) ?_
 refine Run.p (.int .u64 0) rfl rfl ?_
 refine Run.dsr ?_
 refine Run.p (.int .u64 0) rfl rfl ?_
 refine Run.y (.int .u64 0) rfl (OpY.pure (by kernel_rfl)) ?_
 refine Run.p (.int .u64 0) rfl rfl ?_
 refine Run.dsr ?_
 refine Run.p (.int .u64 0) rfl rfl ?_
 refine Run.p (.int .u64 1) rfl rfl ?_
 refine Run.p (.int .u64 0) rfl rfl ?_
 refine Run.y (.int .u64 0) rfl (OpY.pure (by kernel_rfl)) ?_
 refine Run.y (.int .u64 0) rfl (OpY.pure (by kernel_rfl)) ?_
 refine Run.p (.int .u64 0) rfl rfl ?_
 refine Run.dsr ?_
 refine Run.p (.int .u64 0) rfl rfl ?_
 refine Run.p (.int .u64 0) rfl rfl ?_
 refine Run.y (.int .u64 0) rfl (OpY.pure (by kernel_rfl)) ?_
 refine Run.p (.int .u64 0) rfl rfl ?_
 refine Run.y (.int .u64 0) rfl (OpY.pure (by kernel_rfl)) ?_
 refine Run.p (.int .u64 0) rfl rfl ?_
 refine Run.y (.int .u64 0) rfl (OpY.pure (by kernel_rfl)) ?_
 refine Run.y (.int .u64 0) rfl (OpY.pure (by kernel_rfl)) ?_
 refine Run.p (.int .u64 0) rfl rfl ?_
 refine Run.dsr ?_
 refine Run.p (.int .u64 1) rfl rfl ?_
 refine Run.p (.int .u64 10) rfl rfl ?_
 refine Run.y (.int .u64 10) rfl (OpY.pure (by kernel_rfl)) ?_
 refine Run.p (.int .u64 10) rfl rfl ?_
 refine Run.done ?_
 refine Run.ret ?_
 refine ⟨.tuple #[.int .u64 0, .int .u64 10], [], Out.two rfl rfl rfl, (Some'.weak (.nil _)), ?_⟩
 rfl

set_option maxHeartbeats 1000000 in
set_option maxRecDepth 20000 in
theorem Mul_1 (w : World) : Calls Try.prog 52 #[.int .u64 1, .int .u64 1] w (Post No w fun v _ => v = .tuple #[.int .u64 0, .int .u64 1]) := by
 refine enter (n := 30) (args := [.int .u64 1, .int .u64 1]) Try.func52 rfl rfl (St.empty _ _) ?_
 refine Run.sr ?_
 refine Run.p (.int .u64 0) rfl rfl ?_
 refine Run.p (.int .u64 0) rfl rfl ?_
 refine Run.done ?_
 refine Run.seq ?_
 refine Run.cond (b := false) rfl (fun h => nomatch h) (fun _ => ?_)
 refine Run.skip ?_
 refine Run.sr ?_
 refine Run.p (.int .u64 1) rfl rfl ?_
 refine Run.p (.int .u64 1) rfl rfl ?_
 refine Run.q (v := .tuple #[.int .u64 0, .int .u64 1]) rfl (OpQ.call (vs := [.int .u64 1, .int .u64 1]) (caps := []) Tcall_75 rfl rfl (fun w hs => Mul64_1 w)) ?_
 refine Run.p (.tuple #[.int .u64 0, .int .u64 1]) rfl rfl ?_
 refine Run.p (.int .u64 0) rfl rfl ?_
 refine Run.p (.int .u64 1) rfl rfl ?_
 refine Run.p (.int .u64 0) rfl rfl ?_
 refine Run.p (.int .u64 1) rfl rfl ?_
 refine Run.dsr ?_
 refine Run.p (.int .u64 0) rfl rfl ?_
 refine Run.p (.int .u64 1) rfl rfl ?_
 refine Run.p (.int .u64 0) rfl rfl ?_
 refine Run.p (.int .u64 1) rfl rfl ?_
 refine Run.done ?_
 refine Run.ret ?_
 refine ⟨.tuple #[.int .u64 0, .int .u64 1], [], Out.two rfl rfl rfl, (Some'.weak (.nil _)), ?_⟩
 rfl

set_option maxHeartbeats 1000000 in
set_option maxRecDepth 20000 in
theorem Mul_2 (w : World) : Calls Try.prog 52 #[.int .u64 1, .int .u64 2] w (Post No w fun v _ => v = .tuple #[.int .u64 0, .int .u64 2]) := by
 refine enter (n := 30) (args := [.int .u64 1, .int .u64 2]) Try.func52 rfl rfl (St.empty _ _) ?_
 refine Run.sr ?_
 refine Run.p (.int .u64 0) rfl rfl ?_
 refine Run.p (.int .u64 0) rfl rfl ?_
 refine Run.done ?_
 refine Run.seq ?_
 refine Run.cond (b := false) rfl (fun h => nomatch h) (fun _ => ?_)
 refine Run.skip ?_
 refine Run.sr ?_
 refine Run.p (.int .u64 1) rfl rfl ?_
 refine Run.p (.int .u64 2) rfl rfl ?_
 refine Run.q (v := .tuple #[.int .u64 0, .int .u64 2]) rfl (OpQ.call (vs := [.int .u64 1, .int .u64 2]) (caps := []) Tcall_75 rfl rfl (fun w hs => Mul64_2 w)) ?_
 refine Run.p (.tuple #[.int .u64 0, .int .u64 2]) rfl rfl ?_
 refine Run.p (.int .u64 0) rfl rfl ?_
 refine Run.p (.int .u64 2) rfl rfl ?_
 refine Run.p (.int .u64 0) rfl rfl ?_
 refine Run.p (.int .u64 2) rfl rfl ?_
 refine Run.dsr ?_
 refine Run.p (.int .u64 0) rfl rfl ?_
 refine Run.p (.int .u64 2) rfl rfl ?_
 refine Run.p (.int .u64 0) rfl rfl ?_
 refine Run.p (.int .u64 2) rfl rfl ?_
 refine Run.done ?_
 refine Run.ret ?_
 refine ⟨.tuple #[.int .u64 0, .int .u64 2], [], Out.two rfl rfl rfl, (Some'.weak (.nil _)), ?_⟩
 rfl

set_option maxHeartbeats 1000000 in
set_option maxRecDepth 20000 in
theorem Mul_3 (w : World) : Calls Try.prog 52 #[.int .u64 1, .int .u64 3] w (Post No w fun v _ => v = .tuple #[.int .u64 0, .int .u64 3]) := by
 refine enter (n := 30) (args := [.int .u64 1, .int .u64 3]) Try.func52 rfl rfl (St.empty _ _) ?_
 refine Run.sr ?_
 refine Run.p (.int .u64 0) rfl rfl ?_
 refine Run.p (.int .u64 0) rfl rfl ?_
 refine Run.done ?_
 refine Run.seq ?_
 refine Run.cond (b := false) rfl (fun h => nomatch h) (fun _ => ?_)
 refine Run.skip ?_
 refine Run.sr ?_
 refine Run.p (.int .u64 1) rfl rfl ?_
 refine Run.p (.int .u64 3) rfl rfl ?_
 refine Run.q (v := .tuple #[.int .u64 0, .int .u64 3]) rfl (OpQ.call (vs := [.int .u64 1, .int .u64 3]) (caps := []) Tcall_75 rfl rfl (fun w hs => Mul64_3 w)) ?_
 refine Run.p (.tuple #[.int .u64 0, .int .u64 3]) rfl rfl ?_
 refine Run.p (.int .u64 0) rfl rfl ?_
 refine Run.p (.int .u64 3) rfl rfl ?_
 refine Run.p (.int .u64 0) rfl rfl ?_
 refine Run.p (.int .u64 3) rfl rfl ?_
 refine Run.dsr ?_
 refine Run.p (.int .u64 0) rfl rfl ?_
 refine Run.p (.int .u64 3) rfl rfl ?_
 refine Run.p (.int .u64 0) rfl rfl ?_
 refine Run.p (.int .u64 3) rfl rfl ?_
 refine Run.done ?_
 refine Run.ret ?_
 refine ⟨.tuple #[.int .u64 0, .int .u64 3], [], Out.two rfl rfl rfl, (Some'.weak (.nil _)), ?_⟩
 rfl

set_option maxHeartbeats 1000000 in
set_option maxRecDepth 20000 in
theorem Mul_4 (w : World) : Calls Try.prog 52 #[.int .u64 1, .int .u64 4] w (Post No w fun v _ => v = .tuple #[.int .u64 0, .int .u64 4]) := by
 refine enter (n := 30) (args := [.int .u64 1, .int .u64 4]) Try.func52 rfl rfl (St.empty _ _) ?_
 refine Run.sr ?_
 refine Run.p (.int .u64 0) rfl rfl ?_
 refine Run.p (.int .u64 0) rfl rfl ?_
 refine Run.done ?_
 refine Run.seq ?_
 refine Run.cond (b := false) rfl (fun h => nomatch h) (fun _ => ?_)
 refine Run.skip ?_
 refine Run.sr ?_
 refine Run.p (.int .u64 1) rfl rfl ?_
 refine Run.p (.int .u64 4) rfl rfl ?_
 refine Run.q (v := .tuple #[.int .u64 0, .int .u64 4]) rfl (OpQ.call (vs := [.int .u64 1, .int .u64 4]) (caps := []) Tcall_75 rfl rfl (fun w hs => Mul64_4 w)) ?_
 refine Run.p (.tuple #[.int .u64 0, .int .u64 4]) rfl rfl ?_
 refine Run.p (.int .u64 0) rfl rfl ?_
 refine Run.p (.int .u64 4) rfl rfl ?_
 refine Run.p (.int .u64 0) rfl rfl ?_
 refine Run.p (.int .u64 4) rfl rfl ?_
 refine Run.dsr ?_
 refine Run.p (.int .u64 0) rfl rfl ?_
 refine Run.p (.int .u64 4) rfl rfl ?_
 refine Run.p (.int .u64 0) rfl rfl ?_
 refine Run.p (.int .u64 4) rfl rfl ?_
 refine Run.done ?_
 refine Run.ret ?_
 refine ⟨.tuple #[.int .u64 0, .int .u64 4], [], Out.two rfl rfl rfl, (Some'.weak (.nil _)), ?_⟩
 rfl

set_option maxHeartbeats 1000000 in
set_option maxRecDepth 20000 in
theorem Mul_5 (w : World) : Calls Try.prog 52 #[.int .u64 1, .int .u64 5] w (Post No w fun v _ => v = .tuple #[.int .u64 0, .int .u64 5]) := by
 refine enter (n := 30) (args := [.int .u64 1, .int .u64 5]) Try.func52 rfl rfl (St.empty _ _) ?_
 refine Run.sr ?_
 refine Run.p (.int .u64 0) rfl rfl ?_
 refine Run.p (.int .u64 0) rfl rfl ?_
 refine Run.done ?_
 refine Run.seq ?_
 refine Run.cond (b := false) rfl (fun h => nomatch h) (fun _ => ?_)
 refine Run.skip ?_
 refine Run.sr ?_
 refine Run.p (.int .u64 1) rfl rfl ?_
 refine Run.p (.int .u64 5) rfl rfl ?_
 refine Run.q (v := .tuple #[.int .u64 0, .int .u64 5]) rfl (OpQ.call (vs := [.int .u64 1, .int .u64 5]) (caps := []) Tcall_75 rfl rfl (fun w hs => Mul64_5 w)) ?_
 refine Run.p (.tuple #[.int .u64 0, .int .u64 5]) rfl rfl ?_
 refine Run.p (.int .u64 0) rfl rfl ?_
 refine Run.p (.int .u64 5) rfl rfl ?_
 refine Run.p (.int .u64 0) rfl rfl ?_
 refine Run.p (.int .u64 5) rfl rfl ?_
 refine Run.dsr ?_
 refine Run.p (.int .u64 0) rfl rfl ?_
 refine Run.p (.int .u64 5) rfl rfl ?_
 refine Run.p (.int .u64 0) rfl rfl ?_
 refine Run.p (.int .u64 5) rfl rfl ?_
 refine Run.done ?_
 refine Run.ret ?_
 refine ⟨.tuple #[.int .u64 0, .int .u64 5], [], Out.two rfl rfl rfl, (Some'.weak (.nil _)), ?_⟩
 rfl

set_option maxHeartbeats 1000000 in
set_option maxRecDepth 20000 in
theorem Mul_6 (w : World) : Calls Try.prog 52 #[.int .u64 1, .int .u64 6] w (Post No w fun v _ => v = .tuple #[.int .u64 0, .int .u64 6]) := by
 refine enter (n := 30) (args := [.int .u64 1, .int .u64 6]) Try.func52 rfl rfl (St.empty _ _) ?_
 refine Run.sr ?_
 refine Run.p (.int .u64 0) rfl rfl ?_
 refine Run.p (.int .u64 0) rfl rfl ?_
 refine Run.done ?_
 refine Run.seq ?_
 refine Run.cond (b := false) rfl (fun h => nomatch h) (fun _ => ?_)
 refine Run.skip ?_
 refine Run.sr ?_
 refine Run.p (.int .u64 1) rfl rfl ?_
 refine Run.p (.int .u64 6) rfl rfl ?_
 refine Run.q (v := .tuple #[.int .u64 0, .int .u64 6]) rfl (OpQ.call (vs := [.int .u64 1, .int .u64 6]) (caps := []) Tcall_75 rfl rfl (fun w hs => Mul64_6 w)) ?_
 refine Run.p (.tuple #[.int .u64 0, .int .u64 6]) rfl rfl ?_
 refine Run.p (.int .u64 0) rfl rfl ?_
 refine Run.p (.int .u64 6) rfl rfl ?_
 refine Run.p (.int .u64 0) rfl rfl ?_
 refine Run.p (.int .u64 6) rfl rfl ?_
 refine Run.dsr ?_
 refine Run.p (.int .u64 0) rfl rfl ?_
 refine Run.p (.int .u64 6) rfl rfl ?_
 refine Run.p (.int .u64 0) rfl rfl ?_
 refine Run.p (.int .u64 6) rfl rfl ?_
 refine Run.done ?_
 refine Run.ret ?_
 refine ⟨.tuple #[.int .u64 0, .int .u64 6], [], Out.two rfl rfl rfl, (Some'.weak (.nil _)), ?_⟩
 rfl

set_option maxHeartbeats 1000000 in
set_option maxRecDepth 20000 in
theorem Mul_7 (w : World) : Calls Try.prog 52 #[.int .u64 1, .int .u64 7] w (Post No w fun v _ => v = .tuple #[.int .u64 0, .int .u64 7]) := by
 refine enter (n := 30) (args := [.int .u64 1, .int .u64 7]) Try.func52 rfl rfl (St.empty _ _) ?_
 refine Run.sr ?_
 refine Run.p (.int .u64 0) rfl rfl ?_
 refine Run.p (.int .u64 0) rfl rfl ?_
 refine Run.done ?_
 refine Run.seq ?_
 refine Run.cond (b := false) rfl (fun h => nomatch h) (fun _ => ?_)
 refine Run.skip ?_
 refine Run.sr ?_
 refine Run.p (.int .u64 1) rfl rfl ?_
 refine Run.p (.int .u64 7) rfl rfl ?_
 refine Run.q (v := .tuple #[.int .u64 0, .int .u64 7]) rfl (OpQ.call (vs := [.int .u64 1, .int .u64 7]) (caps := []) Tcall_75 rfl rfl (fun w hs => Mul64_7 w)) ?_
 refine Run.p (.tuple #[.int .u64 0, .int .u64 7]) rfl rfl ?_
 refine Run.p (.int .u64 0) rfl rfl ?_
 refine Run.p (.int .u64 7) rfl rfl ?_
 refine Run.p (.int .u64 0) rfl rfl ?_
 refine Run.p (.int .u64 7) rfl rfl ?_
 refine Run.dsr ?_
 refine Run.p (.int .u64 0) rfl rfl ?_
 refine Run.p (.int .u64 7) rfl rfl ?_
 refine Run.p (.int .u64 0) rfl rfl ?_
 refine Run.p (.int .u64 7) rfl rfl ?_
 refine Run.done ?_
 refine Run.ret ?_
 refine ⟨.tuple #[.int .u64 0, .int .u64 7], [], Out.two rfl rfl rfl, (Some'.weak (.nil _)), ?_⟩
 rfl

set_option maxHeartbeats 1000000 in
set_option maxRecDepth 20000 in
theorem Mul_8 (w : World) : Calls Try.prog 52 #[.int .u64 1, .int .u64 8] w (Post No w fun v _ => v = .tuple #[.int .u64 0, .int .u64 8]) := by
 refine enter (n := 30) (args := [.int .u64 1, .int .u64 8]) Try.func52 rfl rfl (St.empty _ _) ?_
 refine Run.sr ?_
 refine Run.p (.int .u64 0) rfl rfl ?_
 refine Run.p (.int .u64 0) rfl rfl ?_
 refine Run.done ?_
 refine Run.seq ?_
 refine Run.cond (b := false) rfl (fun h => nomatch h) (fun _ => ?_)
 refine Run.skip ?_
 refine Run.sr ?_
 refine Run.p (.int .u64 1) rfl rfl ?_
 refine Run.p (.int .u64 8) rfl rfl ?_
 refine Run.q (v := .tuple #[.int .u64 0, .int .u64 8]) rfl (OpQ.call (vs := [.int .u64 1, .int .u64 8]) (caps := []) Tcall_75 rfl rfl (fun w hs => Mul64_8 w)) ?_
 refine Run.p (.tuple #[.int .u64 0, .int .u64 8]) rfl rfl ?_
 refine Run.p (.int .u64 0) rfl rfl ?_
 refine Run.p (.int .u64 8) rfl rfl ?_
 refine Run.p (.int .u64 0) rfl rfl ?_
 refine Run.p (.int .u64 8) rfl rfl ?_
 refine Run.dsr ?_
 refine Run.p (.int .u64 0) rfl rfl ?_
 refine Run.p (.int .u64 8) rfl rfl ?_
 refine Run.p (.int .u64 0) rfl rfl ?_
 refine Run.p (.int .u64 8) rfl rfl ?_
 refine Run.done ?_
 refine Run.ret ?_
 refine ⟨.tuple #[.int .u64 0, .int .u64 8], [], Out.two rfl rfl rfl, (Some'.weak (.nil _)), ?_⟩
 rfl

set_option maxHeartbeats 1000000 in
set_option maxRecDepth 20000 in
theorem Mul_9 (w : World) : Calls Try.prog 52 #[.int .u64 1, .int .u64 9] w (Post No w fun v _ => v = .tuple #[.int .u64 0, .int .u64 9]) := by
 refine enter (n := 30) (args := [.int .u64 1, .int .u64 9]) Try.func52 rfl rfl (St.empty _ _) ?_
 refine Run.sr ?_
 refine Run.p (.int .u64 0) rfl rfl ?_
 refine Run.p (.int .u64 0) rfl rfl ?_
 refine Run.done ?_
 refine Run.seq ?_
 refine Run.cond (b := false) rfl (fun h => nomatch h) (fun _ => ?_)
 refine Run.skip ?_
 refine Run.sr ?_
 refine Run.p (.int .u64 1) rfl rfl ?_
 refine Run.p (.int .u64 9) rfl rfl ?_
 refine Run.q (v := .tuple #[.int .u64 0, .int .u64 9]) rfl (OpQ.call (vs := [.int .u64 1, .int .u64 9]) (caps := []) Tcall_75 rfl rfl (fun w hs => Mul64_9 w)) ?_
 refine Run.p (.tuple #[.int .u64 0, .int .u64 9]) rfl rfl ?_
 refine Run.p (.int .u64 0) rfl rfl ?_
 refine Run.p (.int .u64 9) rfl rfl ?_
 refine Run.p (.int .u64 0) rfl rfl ?_
 refine Run.p (.int .u64 9) rfl rfl ?_
 refine Run.dsr ?_
 refine Run.p (.int .u64 0) rfl rfl ?_
 refine Run.p (.int .u64 9) rfl rfl ?_
 refine Run.p (.int .u64 0) rfl rfl ?_
 refine Run.p (.int .u64 9) rfl rfl ?_
 refine Run.done ?_
 refine Run.ret ?_
 refine ⟨.tuple #[.int .u64 0, .int .u64 9], [], Out.two rfl rfl rfl, (Some'.weak (.nil _)), ?_⟩
 rfl

set_option maxHeartbeats 1000000 in
set_option maxRecDepth 20000 in
theorem Mul_10 (w : World) : Calls Try.prog 52 #[.int .u64 1, .int .u64 10] w (Post No w fun v _ => v = .tuple #[.int .u64 0, .int .u64 10]) := by
 refine enter (n := 30) (args := [.int .u64 1, .int .u64 10]) Try.func52 rfl rfl (St.empty _ _) ?_
 refine Run.sr ?_
 refine Run.p (.int .u64 0) rfl rfl ?_
 refine Run.p (.int .u64 0) rfl rfl ?_
 refine Run.done ?_
 refine Run.seq ?_
 refine Run.cond (b := false) rfl (fun h => nomatch h) (fun _ => ?_)
 refine Run.skip ?_
 refine Run.sr ?_
 refine Run.p (.int .u64 1) rfl rfl ?_
 refine Run.p (.int .u64 10) rfl rfl ?_
 refine Run.q (v := .tuple #[.int .u64 0, .int .u64 10]) rfl (OpQ.call (vs := [.int .u64 1, .int .u64 10]) (caps := []) Tcall_75 rfl rfl (fun w hs => Mul64_10 w)) ?_
 refine Run.p (.tuple #[.int .u64 0, .int .u64 10]) rfl rfl ?_
 refine Run.p (.int .u64 0) rfl rfl ?_
 refine Run.p (.int .u64 10) rfl rfl ?_
 refine Run.p (.int .u64 0) rfl rfl ?_
 refine Run.p (.int .u64 10) rfl rfl ?_
 refine Run.dsr ?_
 refine Run.p (.int .u64 0) rfl rfl ?_
 refine Run.p (.int .u64 10) rfl rfl ?_
 refine Run.p (.int .u64 0) rfl rfl ?_
 refine Run.p (.int .u64 10) rfl rfl ?_
 refine Run.done ?_
 refine Run.ret ?_
 refine ⟨.tuple #[.int .u64 0, .int .u64 10], [], Out.two rfl rfl rfl, (Some'.weak (.nil _)), ?_⟩
 rfl


theorem Mul_spec {N : Nat} (h1 : 1 ≤ N) (h8 : N ≤ 10) (w : World) : Calls Try.prog 52 #[.int .u64 1, .int .u64 ((N : Nat) : Int)] w (Post No w fun v _ => v = .tuple #[.int .u64 0, .int .u64 ((N : Nat) : Int)]) := by
  rcases (by omega : N = 1 ∨ N = 2 ∨ N = 3 ∨ N = 4 ∨ N = 5 ∨ N = 6 ∨ N = 7 ∨ N = 8 ∨ N = 9 ∨ N = 10) with rfl | rfl | rfl | rfl | rfl | rfl | rfl | rfl | rfl | rfl
  · exact Mul_1 w
  · exact Mul_2 w
  · exact Mul_3 w
  · exact Mul_4 w
  · exact Mul_5 w
  · exact Mul_6 w
  · exact Mul_7 w
  · exact Mul_8 w
  · exact Mul_9 w
  · exact Mul_10 w


/-- j times -1, then 0. -/
def repL (N j : Nat) : List Int := List.replicate j (-1) ++ List.replicate (N - j) 0
theorem repL_all (N : Nat) : repL N N = List.replicate N (-1) := by simp [repL]
theorem repL_zero (N : Nat) : (List.replicate N [Value.int .i64 0]).flatten = ints (repL N 0) := by simp [repL, ints, List.flatten_replicate_singleton]
theorem repL_spl {N j m : Nat} (h : j + m ≤ N) : spl (ints (repL N j)) j (ints (List.replicate m (-1))) = ints (repL N (j + m)) := by
  rw [spl_eq _ _ _ (by simp [repL]; omega)]
  have e1 : (ints (repL N j)).take j = ints (List.replicate j (-1)) := by simp [ints, repL, List.take_append]
  have e2 : (ints (repL N j)).drop (j + (ints (List.replicate m (-1))).length) = ints (List.replicate (N - (j + m)) 0) := by
    simp only [ints_length, List.length_replicate]
    simp only [ints, repL, List.map_append, List.map_replicate, List.drop_append, List.length_replicate, List.drop_replicate]
    rw [show j - (j + m) = 0 by omega, show N - j - (j + m - j) = N - (j + m) by omega]; rfl
  rw [e1, e2]
  simp only [repL, ← ints_append, List.replicate_append_replicate]
theorem repL_take {N j m : Nat} (hm : m ≤ j) : (ints ((repL N j).take (j * 1))).take (m * 1) = ints (List.replicate m (-1)) := by
  simp only [repL, Nat.mul_one, ints, ← List.map_take, List.take_append, List.take_take, List.length_replicate, Nat.sub_self, List.take_zero, List.append_nil, List.take_replicate]
  rw [show min m (min j j) = m by omega]
  simp

set_option maxHeartbeats 1000000 in
set_option maxRecDepth 20000 in
theorem Repeat_spec {N : Nat} {va : Value} {w : World} (h1 : 1 ≤ N) (h8 : N ≤ 10) (ha : Sl w va 1 1 (ints [-1])) : Calls Try.prog 25 #[va, .int .i64 ((N : Nat) : Int)] w (Post No w fun v H => H = [.own v 3 1 N (ints (List.replicate N (-1)))]) := by
 obtain ⟨A, c, rfl, _, _⟩ := ha.form0
 refine enter (n := 48) (args := [.slice A 1 c, .int .i64 (((N : Nat) : Int))]) Try.func25 rfl rfl (St.empty _ _) ?_
 refine Run.sr ?_
 refine Run.p (.slice none 0 0) rfl rfl ?_
 refine Run.done ?_
 refine Run.seq ?_
 refine Run.sr ?_
 refine Run.p (.int .i64 (((N : Nat) : Int))) rfl rfl ?_
 refine Run.p (.bool (decide ((((N : Nat) : Int)) < 0))) rfl rfl ?_
 refine Run.done ?_
 refine Run.cond (b := decide ((((N : Nat) : Int)) < 0)) rfl (fun h10 => ?_) (fun h10 => ?_)
 ·exact absurd h10 (by simp) --DONE
 ·have p10 := h10; try simp only [bs] at p10
  refine Run.skip ?_
  refine Run.sr ?_
  refine Run.p (.slice A 1 c) rfl rfl ?_
  refine Run.y (.int .i64 1) rfl (OpY.len Tsl_24 rfl) ?_
  refine Run.y (.int .u64 1) rfl (OpY.convIntEq Tsome_3 Tint_52 rfl (by first | (rw [IntKind.wrap_u64]; omega) | (rw [IntKind.wrap_i64]; omega))) ?_
  refine Run.p (.int .i64 (((N : Nat) : Int))) rfl rfl ?_
  refine Run.y (.int .u64 (((N : Nat) : Int))) rfl (OpY.convIntEq Tsome_3 Tint_52 rfl (by first | (rw [IntKind.wrap_u64]; omega) | (rw [IntKind.wrap_i64]; omega))) ?_
  refine Run.q (v := .tuple #[.int .u64 0, .int .u64 (((N : Nat) : Int))]) rfl (OpQ.call (vs := [.int .u64 1, .int .u64 (((N : Nat) : Int))]) (caps := []) Tcall_52 rfl rfl (fun w hs => Mul_spec h1 h8 w)) ?_
  refine Run.p (.tuple #[.int .u64 0, .int .u64 (((N : Nat) : Int))]) rfl rfl ?_
  refine Run.p (.int .u64 0) rfl rfl ?_
  refine Run.p (.int .u64 (((N : Nat) : Int))) rfl rfl ?_
  refine Run.p (.int .u64 0) rfl rfl ?_
  refine Run.p (.int .u64 (((N : Nat) : Int))) rfl rfl ?_
  refine Run.done ?_
  refine Run.seq ?_
  refine Run.sr ?_
  refine Run.p (.int .u64 0) rfl rfl ?_
  refine Run.p (.bool false) rfl rfl ?_
  refine Run.p (.bool false) rfl rfl ?_
  refine Run.p (.int .u64 (((N : Nat) : Int))) rfl rfl ?_
  refine Run.p (.bool (decide ((((N : Nat) : Int)) > 9223372036854775807))) rfl rfl ?_
  refine Run.p (.bool (decide ((((N : Nat) : Int)) > 9223372036854775807))) rfl rfl ?_
  refine Run.done ?_
  refine Run.cond (b := decide ((((N : Nat) : Int)) > 9223372036854775807)) rfl (fun h26 => ?_) (fun h26 => ?_)
  ·exact absurd h26 (by simp; omega) --DONE
  ·have p26 := h26; try simp only [bs] at p26
   refine Run.skip ?_
   refine Run.sr ?_
   refine Run.p (.int .u64 (((N : Nat) : Int))) rfl rfl ?_
   refine Run.y (.int .i64 (((N : Nat) : Int))) rfl (OpY.convIntEq Tsome_52 Tint_3 rfl (by first | (rw [IntKind.wrap_u64]; omega) | (rw [IntKind.wrap_i64]; omega))) ?_
   refine Run.step rfl (OpStep.makeSlice (n := N) Tsl_24 rfl (by decide) (by first | rfl | omega) (by first | rfl | omega) (by omega) (by simp only [maxLen]; omega) fun b1 => ?_)
   refine Run.p (.slice (some ⟨b1, 0, none⟩) N N) rfl rfl ?_
   refine Run.dsr ?_
   refine Run.p (.slice (some ⟨b1, 0, none⟩) N N) rfl rfl ?_
   refine Run.p (.slice A 1 c) rfl rfl ?_
   refine Run.step rfl (OpStep.copyOwn (g := b1) (o := 0) (sn := 1) (cnt := 1) (cs := (List.replicate N ([.int .i64 0] : List Value)).flatten) (ys := ints [-1]) (us := ints [-1]) Tsl_24 rfl rfl (fun w hs => hs.sl ha) (by omega) (by show min 1 N = 1; omega) (by rfl) (by simp [ints, Value.oneCell']) (by rw [show spl ((List.replicate N ([.int .i64 0] : List Value)).flatten) 0 (ints [-1]) = ints (repL N 1) from by rw [repL_zero]; exact repL_spl (m := 1) (by omega)]; exact (.here _)) (by omega) ?_)
   refine Run.p (.int .i64 (((1 : Nat) : Int))) rfl rfl ?_
   refine Run.done ?_
   refine Run.seq ?_
   refine Run.block ?_
   refine Run.loop (ι := Nat) [8, 34, 35, 36, 37, 38, 39, 40, 41, 42, 43, 44, 45, 46] (fun j => [(8, .int .i64 (((j : Nat) : Int)))]) (fun j => [.own (.slice (some ⟨b1, 0, none⟩) N N) 3 1 N (ints (repL N j))]) (fun j => 1 ≤ j ∧ j ≤ N) (fun j => N - j) 1 ?_ ?_ ?_ ?_
   ·omega
   ·exact ⟨rfl, trivial⟩
   ·exact (Some'.weak (.takeEq (by first | rfl | simp) (.nil _)))
   ·rintro j fr hinv
    show Run _ _ (over _ _ [(8, .int .i64 (((j : Nat) : Int)))] fr) [.own (.slice (some ⟨b1, 0, none⟩) N N) 3 1 N (ints (repL N j))]
    try dsimp only at hinv
    refine Run.seq ?_
    refine Run.sr ?_
    refine Run.p (.int .i64 (((j : Nat) : Int))) rfl rfl ?_
    refine Run.p (.slice (some ⟨b1, 0, none⟩) N N) rfl rfl ?_
    refine Run.y (.int .i64 (((N : Nat) : Int))) rfl (OpY.len Tsl_24 rfl) ?_
    refine Run.p (.bool (decide ((((j : Nat) : Int)) < (((N : Nat) : Int))))) rfl rfl ?_
    refine Run.done ?_
    refine Run.cond (b := decide ((((j : Nat) : Int)) < (((N : Nat) : Int)))) rfl (fun h37 => ?_) (fun h37 => ?_)
    ·have p37 := h37; try simp only [bs] at p37
     refine Run.skip ?_
     refine Run.block ?_
     refine Run.heldB (base := []) (by kernel_rfl) ?_
     refine DW.take (i := 0) (v := .int .i64 (((j : Nat) : Int))) rfl (by kernel_rfl) (by kernel_rfl) (by kernel_rfl) (fun _ _ _ h => h) (Some'.weak (.nil _)) rfl (OpY.pure rfl) ?_
     refine DW.take (i := 1) (v := .slice (some ⟨b1, 0, none⟩) N N) rfl (by kernel_rfl) (by kernel_rfl) (by kernel_rfl) (fun _ _ _ h => h) (Some'.weak (.nil _)) rfl (OpY.pure rfl) ?_
     refine DW.take (i := 2) (v := .int .i64 (((j : Nat) : Int))) rfl (by kernel_rfl) (by kernel_rfl) (by kernel_rfl) (fun _ _ _ h => h) (Some'.weak (.nil _)) rfl (OpY.pure rfl) ?_
     refine DW.take (i := 3) (v := .slice (some ⟨b1, 0 + j * 1, none⟩) (N - j) (N - j)) rfl (by kernel_rfl) (by kernel_rfl) (by kernel_rfl) (fun _ _ _ h => h) (Some'.weak (.nil _)) rfl (OpY.sliceLN (l := j) Tsl_24 rfl rfl rfl (by omega) (by omega)) ?_
     refine DW.take (i := 4) (v := .slice (some ⟨b1, 0, none⟩) N N) rfl (by kernel_rfl) (by kernel_rfl) (by kernel_rfl) (fun _ _ _ h => h) (Some'.weak (.nil _)) rfl (OpY.pure rfl) ?_
     refine DW.take (i := 5) (v := .int .i64 (((j : Nat) : Int))) rfl (by kernel_rfl) (by kernel_rfl) (by kernel_rfl) (fun _ _ _ h => h) (Some'.weak (.nil _)) rfl (OpY.pure rfl) ?_
     refine DW.take (i := 6) (v := .slice (some ⟨b1, 0, none⟩) j N) rfl (by kernel_rfl) (by kernel_rfl) (by kernel_rfl) (fun _ _ _ h => h) (Some'.weak (.nil _)) rfl (OpY.sliceHN (h := j) Tsl_24 rfl rfl rfl (by omega)) ?_
     refine DW.step (i := 7) (by kernel_rfl) rfl rfl (OpStep.copyOwn (g := b1) (o := 0 + j * 1) (sn := j) (cnt := (min j (N - j))) (cs := ints (repL N j)) (ys := ints ((repL N j).take (j * 1))) (us := ints (List.replicate (min j (N - j)) (-1))) Tsl_24 rfl rfl (fun w hs => (hs.slOwn (.head _)).take (by omega)) (by omega) (by rfl) (by exact repL_take (by omega)) (by simp [ints, Value.oneCell']) (by rw [show spl (ints (repL N j)) (0 + j * 1) (ints (List.replicate (min j (N - j)) (-1))) = ints (repL N (j + min j (N - j))) from by rw [Nat.zero_add, Nat.mul_one]; exact repL_spl (by omega)]; exact (.here _)) (by omega) ?_)
     refine ⟨(Some'.weak (.nil _)), ?_⟩
     refine DW.take (i := 8) (v := .int .i64 ((((j : Nat) : Int)) + ((((min j (N - j)) : Nat) : Int)))) rfl (by kernel_rfl) (by kernel_rfl) (by kernel_rfl) (fun _ _ _ h => h) (Some'.weak (.nil _)) rfl (OpY.add rfl rfl rfl (by omega) (by omega)) ?_
     refine DW.take (i := 9) (v := .int .i64 ((((j : Nat) : Int)) + ((((min j (N - j)) : Nat) : Int)))) rfl (by kernel_rfl) (by kernel_rfl) (by kernel_rfl) (fun _ _ _ h => h) (Some'.weak (.nil _)) rfl (OpY.pure rfl) ?_
     refine DW.done (by kernel_rfl) ?_
     refine Run.blockEnd ?_
     refine Run.goal ⟨(by repeat (first | exact Same.refl _ _ | refine Same.put rfl ?_ | refine Same.over rfl rfl ?_)), j + min j (N - j), ?_, ?_, ?_, ?_⟩
     ·omega
     ·omega
     ·exact ⟨(by show Value.int _ _ = Value.int _ _; congr 1 <;> omega), trivial⟩
     ·exact (Some'.weak (.takeEq (by first | rfl | simp) (.nil _)))
    ·have p37 := h37; try simp only [bs] at p37
     have hjN : j = N := by omega
     refine Run.exit rfl ?_
     refine Run.sr ?_
     refine Run.p (.slice (some ⟨b1, 0, none⟩) N N) rfl rfl ?_
     refine Run.p (.slice (some ⟨b1, 0, none⟩) N N) rfl rfl ?_
     refine Run.done ?_
     refine Run.ret ?_
     refine ⟨.slice (some ⟨b1, 0, none⟩) N N, [.own (.slice (some ⟨b1, 0, none⟩) N N) 3 1 N (ints (List.replicate N (-1)))], Out.one rfl rfl, (Some'.weak (.takeEq (by rw [hjN, repL_all]) (.nil _))), ?_⟩
     rfl


theorem filterL_get {p : Nat → Bool} : ∀ {N i : Nat}, i < (filterL p N).length → ∃ v, v < N ∧ p v = true ∧ ix (filterL p N) i = v
  | 0, i, h => by simp [filterL] at h
  | N + 1, i, h => by
    simp only [filterL] at h ⊢
    by_cases e : i < (filterL p N).length
    · obtain ⟨v, h1, h2, h3⟩ := filterL_get e
      exact ⟨v, by omega, h2, by rw [ix_append_left e]; exact h3⟩
    · cases hp : p N with
      | false => rw [hp] at h; simp at h; omega
      | true =>
        rw [hp] at h; simp only [if_true, List.length_append, List.length_cons, List.length_nil] at h
        have e2 : i = (filterL p N).length := by omega
        refine ⟨N, by omega, hp, ?_⟩
        simp only [if_true]; rw [e2]; exact ix_append_one
theorem filterL_mem {p : Nat → Bool} : ∀ {N v : Nat}, v < N → p v = true → ∃ i, i < (filterL p N).length ∧ ix (filterL p N) i = v
  | 0, v, h, _ => by omega
  | N + 1, v, h, hp => by
    simp only [filterL]
    by_cases e : v < N
    · obtain ⟨i, h1, h2⟩ := filterL_mem e hp
      exact ⟨i, by simp only [List.length_append]; omega, by rw [ix_append_left h1]; exact h2⟩
    · have e2 : v = N := by omega
      subst e2
      rw [hp]
      exact ⟨(filterL p v).length, by simp, by simp only [if_true]; exact ix_append_one⟩
end Go.Proofs.Ytoiaibgcjfgbcaa
