/- Walks: a circuit of gates. -/
import Derived.Test.YteehfidjofcfmaaKey
import Derived.Test.YteehfidjofcfmaaCi
import Derived.Test.YteehfidjofcfmaaProg
set_option linter.unusedSimpArgs false
set_option linter.unusedVariables false
namespace Go.Proofs.Yteehfidjofcfmaa
open Go Go.RowKit
namespace CifT
theorem Tagg_38 : aggOf Try.prog 38 = some 2 := by kernel_rfl
theorem Tcall_66 : callable Try.prog 66 = true := by kernel_rfl
theorem Tsize_38 : (Try.prog.info? 38).map (·.size) = some 2 := by kernel_rfl
theorem Tsl_36 : sliceOf Try.prog 36 = some (71, 3, 24, [.int .i64 0, .int .i64 0, .int .i64 0]) := by kernel_rfl
theorem Tzero_38 : zeroOf Try.prog 38 = some [.int .i64 0, .slice none 0 0] := by kernel_rfl
end CifT
open CifT
set_option maxHeartbeats 1000000 in
set_option maxRecDepth 20000 in
theorem circuitIf_spec {va : Value} {N : Int} {m : Nat} {ys : List Int} {w : World} (hm : m ≤ 1000) (hok : circOk N ys m = true) (ha : Sl w va 3 m (ints ys)) : Calls Try.prog 52 #[.int .i64 N, va] w (Post No w fun v H => ∃ u, v = .tuple #[.agg #[.int .i64 N, u], .bool true] ∧ H = [.own u 71 3 m (ints ys)]) := by
  have hyl := ha.len
  refine enter (n := 17) (args := [.int .i64 N, va]) Try.func52 rfl rfl (St.empty _ _) ?_
  refine Run.seq ?_
  refine Run.region ?_
  refine Run.step rfl (OpStep.alloc (zs := [.int .i64 0, .slice none 0 0]) Tzero_38 fun b1 => ?_)
  refine Run.q (v := .bool false) rfl (OpQ.y (OpY.pure rfl)) ?_
  refine Run.done ?_
  refine Run.seq ?_
  refine Run.region ?_
  refine Run.q (v := .int .i64 N) rfl (OpQ.y (OpY.pure rfl)) ?_
  refine Run.step rfl (OpStep.buildSlice (us := []) Tsl_36 (by decide) (by decide) rfl rfl fun b2 => ?_)
  refine Run.q (v := va) rfl (OpQ.y (OpY.pure rfl)) ?_
  refine Run.step rfl (OpStep.append (H1 := []) (H2 := [.blk b1 38 [.int .i64 0, .slice none 0 0]]) (v := .slice (some ⟨b2, 0, none⟩) 0 0) (u := va) (n := 0) (m := m) (xs := []) (ys := ints ys) Tsl_36 (by decide) rfl rfl rfl rfl (fun w hs => hs.sl ha) (by exact ints_all _) (by omega) (by simp only [maxLen]; omega) fun av1 hnav1 => ?_)
  refine Run.weak (H' := [.own av1 71 3 m (ints ys), .blk b1 38 [.int .i64 0, .slice none 0 0]]) (Some'.weak (.takeEq (by simp) (.take (.nil _)))) ?_ ⟨_, _, rfl, fun _ => nofun, fun _ => nofun⟩
  refine Run.formOwn (.head _) (fun A_av11 c_av11 hv hcapc_av11 hmaxc_av11 => ?_) (fun _ _ _ => ⟨nofun, nofun, nofun⟩)
  subst hv
  refine Run.q (v := .agg #[.int .i64 N, .slice A_av11 m c_av11]) rfl (OpQ.y (OpY.build (cs := [.int .i64 N, .slice A_av11 m c_av11]) (by kernel_rfl))) ?_
  refine Run.step rfl (OpStep.alloc (zs := [.int .i64 0, .slice none 0 0]) Tzero_38 fun b3 => ?_)
  refine Run.step rfl (OpStep.storeAll (us := [.int .i64 N, .slice A_av11 m c_av11]) Tsize_38 rfl rfl rfl (.here _) rfl ?_)
  refine Run.done ?_
  refine Run.seq ?_
  refine Run.seq ?_
  refine Run.region ?_
  refine Run.q (v := .agg #[.int .i64 N, .slice A_av11 m c_av11]) rfl (OpQ.y (OpY.loadN (cs := [.int .i64 N, .slice A_av11 m c_av11]) Tagg_38 rfl (Cells.blk (.head _) ⟨rfl, rfl, trivial⟩))) ?_
  refine Run.q (v := .bool true) rfl (OpQ.call (vs := [.agg #[.int .i64 N, .slice A_av11 m c_av11]]) (caps := []) Tcall_66 rfl rfl (fun w hs => (by have h := IsValidCircuit_spec (N := N) (hs.slOwn (.tail _ (List.Mem.head _))); rw [hok] at h; exact h))) ?_
  refine Run.q (v := .bool false) rfl (OpQ.y (OpY.pure rfl)) ?_
  refine Run.done ?_
  refine Run.cond (b := false) rfl (fun h => nomatch h) (fun _ => ?_)
  refine Run.skip ?_
  refine Run.seq ?_
  refine Run.region ?_
  refine Run.q (v := .agg #[.int .i64 N, .slice A_av11 m c_av11]) rfl (OpQ.y (OpY.loadN (cs := [.int .i64 N, .slice A_av11 m c_av11]) Tagg_38 rfl (Cells.blk (.head _) ⟨rfl, rfl, trivial⟩))) ?_
  refine Run.step rfl (OpStep.storeAll (us := [.int .i64 N, .slice A_av11 m c_av11]) Tsize_38 rfl rfl rfl (.there _ (.there _ (.here _))) rfl ?_)
  refine Run.q (v := .bool true) rfl (OpQ.y (OpY.pure rfl)) ?_
  refine Run.done ?_
  refine Run.ret ?_
  refine ⟨.tuple #[.agg #[.int .i64 N, .slice A_av11 m c_av11], .bool true], [.own (.slice A_av11 m c_av11) 71 3 m (ints ys)], Out.cell2 (cs := [.int .i64 N, .slice A_av11 m c_av11]) rfl Tagg_38 rfl (Cells.blk (.tail _ (.tail _ (List.Mem.head _))) ⟨rfl, rfl, trivial⟩) rfl, (Some'.weak (.skip (.take (.nil _)))), ?_⟩
  exact ⟨_, rfl, rfl⟩

end Go.Proofs.Yteehfidjofcfmaa
