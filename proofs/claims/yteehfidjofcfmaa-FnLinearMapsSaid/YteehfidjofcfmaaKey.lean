/- Walks: the key of a linear map. -/
import Derived.Test.YteehfidjofcfmaaArr
import Derived.Test.YteehfidjofcfmaaLin5
import Derived.Test.YteehfidjofcfmaaProg
set_option linter.unusedSimpArgs false
set_option linter.unusedVariables false
namespace Go.Proofs.Yteehfidjofcfmaa
open Go Go.RowKit
namespace KeyT
theorem Tagg_108 : aggOf Try.prog 108 = some 6 := by kernel_rfl
theorem Tarr_106 : arrayOf Try.prog 106 = some (5, 1) := by kernel_rfl
theorem Tfo_108_0 : fieldOff Try.prog 108 0 = some 0 := by kernel_rfl
theorem Tfo_28_0 : fieldOff Try.prog 28 0 = some 0 := by kernel_rfl
theorem Tone_22 : oneOf Try.prog 22 = true := by kernel_rfl
theorem Tsize_108 : (Try.prog.info? 108).map (·.size) = some 6 := by kernel_rfl
theorem Tsl_22 : sliceOf Try.prog 22 = some (3, 1, 8, [.int .i64 0]) := by kernel_rfl
theorem Tzero_108 : zeroOf Try.prog 108 = some [.int .i64 0, .int .i64 0, .int .i64 0, .int .i64 0, .int .i64 0, .int .i64 0] := by kernel_rfl
end KeyT
open KeyT

/-- A key: five rows and what has been found. -/
def keyV (l : List Nat) (f : Int) : Value := .agg #[.int .i64 (nx l 0 : Nat), .int .i64 (nx l 1 : Nat), .int .i64 (nx l 2 : Nat), .int .i64 (nx l 3 : Nat), .int .i64 (nx l 4 : Nat), .int .i64 f]
theorem key_spl {l : List Nat} (h : l.length ≤ 5) : spl [Value.int .i64 0, .int .i64 0, .int .i64 0, .int .i64 0, .int .i64 0, .int .i64 0] 0 (ints (nl l)) = [.int .i64 (nx l 0 : Nat), .int .i64 (nx l 1 : Nat), .int .i64 (nx l 2 : Nat), .int .i64 (nx l 3 : Nat), .int .i64 (nx l 4 : Nat), .int .i64 0] := by
  match l, h with
  | [], _ => rfl
  | [_], _ => rfl
  | [_, _], _ => rfl
  | [_, _, _], _ => rfl
  | [_, _, _, _], _ => rfl
  | [_, _, _, _, _], _ => rfl

set_option maxHeartbeats 1000000 in
set_option maxRecDepth 20000 in
theorem key_spec {va : Value} {l : List Nat} {w : World} (h0 : 0 < l.length) (h5 : l.length ≤ 5) (ha : Sl w va 1 l.length (ints (nl l))) : Calls Try.prog 93 #[.agg #[va]] w (Post No w fun v _ => v = keyV l 0) := by
  have hll := nl_length l
  refine enter (n := 11) (args := [.agg #[va]]) Try.func93 rfl rfl (St.empty _ _) ?_
  refine Run.seq ?_
  refine Run.region ?_
  refine Run.step rfl (OpStep.box (us := [va]) rfl fun b1 => ?_)
  refine Run.step rfl (OpStep.alloc (zs := [.int .i64 0, .int .i64 0, .int .i64 0, .int .i64 0, .int .i64 0, .int .i64 0]) Tzero_108 fun b2 => ?_)
  refine Run.done ?_
  refine Run.seq ?_
  refine Run.region ?_
  refine Run.q (v := .agg #[.int .i64 0, .int .i64 0, .int .i64 0, .int .i64 0, .int .i64 0, .int .i64 0]) rfl (OpQ.y (OpY.build (cs := [.int .i64 0, .int .i64 0, .int .i64 0, .int .i64 0, .int .i64 0, .int .i64 0]) (by kernel_rfl))) ?_
  refine Run.step rfl (OpStep.alloc (zs := [.int .i64 0, .int .i64 0, .int .i64 0, .int .i64 0, .int .i64 0, .int .i64 0]) Tzero_108 fun b3 => ?_)
  refine Run.step rfl (OpStep.storeAll (us := [.int .i64 0, .int .i64 0, .int .i64 0, .int .i64 0, .int .i64 0, .int .i64 0]) Tsize_108 rfl rfl rfl (.here _) rfl ?_)
  refine Run.done ?_
  refine Run.seq ?_
  refine Run.heldB (base := [.blk b2 108 [.int .i64 0, .int .i64 0, .int .i64 0, .int .i64 0, .int .i64 0, .int .i64 0], .blk b1 28 [va]]) (by kernel_rfl) ?_
  refine DW.take (i := 0) (v := .pointer (some ⟨b3, 0, none⟩)) rfl (by kernel_rfl) (by kernel_rfl) (by kernel_rfl) (fun _ _ _ h => h) (Some'.weak (.skip (.take (.take (.nil _))))) rfl (OpY.fieldAddr Tfo_108_0 rfl rfl) ?_
  refine DW.take (i := 1) (v := .slice (some ⟨b3, 0, none⟩) 5 5) rfl (by kernel_rfl) (by kernel_rfl) (by kernel_rfl) (fun _ _ _ h => h) (Some'.weak (.skip (.take (.take (.nil _))))) rfl (OpY.sliceArr Tarr_106 rfl (by decide)) ?_
  refine DW.take (i := 2) (v := .pointer (some ⟨b1, 0, none⟩)) rfl (by kernel_rfl) (by kernel_rfl) (by kernel_rfl) (fun _ _ _ h => h) (Some'.weak (.skip (.take (.take (.nil _))))) rfl (OpY.fieldAddr Tfo_28_0 rfl rfl) ?_
  refine DW.take (i := 3) (v := va) rfl (by kernel_rfl) (by kernel_rfl) (by kernel_rfl) (fun _ _ _ h => h) (Some'.weak (.skip (.take (.take (.nil _))))) rfl (OpY.load1 Tone_22 rfl (Cells.blk (.tail _ (List.Mem.head _)) ⟨rfl, trivial⟩)) ?_
  refine DW.step (i := 4) (by kernel_rfl) rfl rfl (OpStep.copyBlk (g := b3) (o := 0) (sn := l.length) (cnt := l.length) (cs := [.int .i64 0, .int .i64 0, .int .i64 0, .int .i64 0, .int .i64 0, .int .i64 0]) (ys := ints (nl l)) (us := ints (nl l)) Tsl_22 rfl rfl (fun w hs => hs.sl ha) (by omega) (by show min l.length 5 = l.length; omega) (by rw [Nat.mul_one]; simp [ints, List.take_of_length_le]) (by exact ints_all _) (by rw [show spl [.int .i64 0, .int .i64 0, .int .i64 0, .int .i64 0, .int .i64 0, .int .i64 0] 0 (ints (nl l)) = [.int .i64 (((nx l 0 : Nat) : Int)), .int .i64 (((nx l 1 : Nat) : Int)), .int .i64 (((nx l 2 : Nat) : Int)), .int .i64 (((nx l 3 : Nat) : Int)), .int .i64 (((nx l 4 : Nat) : Int)), .int .i64 0] from by exact key_spl h5]; exact (.here _)) (by show 0 + l.length * 1 ≤ 6; omega) ?_)
  refine ⟨(Some'.weak (.skip (.take (.take (.nil _))))), ?_⟩
  refine DW.done (by kernel_rfl) ?_
  refine Run.seq ?_
  refine Run.region ?_
  refine Run.q (v := .agg #[.int .i64 (((nx l 0 : Nat) : Int)), .int .i64 (((nx l 1 : Nat) : Int)), .int .i64 (((nx l 2 : Nat) : Int)), .int .i64 (((nx l 3 : Nat) : Int)), .int .i64 (((nx l 4 : Nat) : Int)), .int .i64 0]) rfl (OpQ.y (OpY.loadN (cs := [.int .i64 (((nx l 0 : Nat) : Int)), .int .i64 (((nx l 1 : Nat) : Int)), .int .i64 (((nx l 2 : Nat) : Int)), .int .i64 (((nx l 3 : Nat) : Int)), .int .i64 (((nx l 4 : Nat) : Int)), .int .i64 0]) Tagg_108 rfl (Cells.blk (.head _) ⟨rfl, rfl, rfl, rfl, rfl, rfl, trivial⟩))) ?_
  refine Run.step rfl (OpStep.storeAll (us := [.int .i64 (((nx l 0 : Nat) : Int)), .int .i64 (((nx l 1 : Nat) : Int)), .int .i64 (((nx l 2 : Nat) : Int)), .int .i64 (((nx l 3 : Nat) : Int)), .int .i64 (((nx l 4 : Nat) : Int)), .int .i64 0]) Tsize_108 rfl rfl rfl (.there _ (.here _)) rfl ?_)
  refine Run.done ?_
  refine Run.ret ?_
  refine ⟨.agg #[.int .i64 (((nx l 0 : Nat) : Int)), .int .i64 (((nx l 1 : Nat) : Int)), .int .i64 (((nx l 2 : Nat) : Int)), .int .i64 (((nx l 3 : Nat) : Int)), .int .i64 (((nx l 4 : Nat) : Int)), .int .i64 0], [], Out.cell1 (cs := [.int .i64 (((nx l 0 : Nat) : Int)), .int .i64 (((nx l 1 : Nat) : Int)), .int .i64 (((nx l 2 : Nat) : Int)), .int .i64 (((nx l 3 : Nat) : Int)), .int .i64 (((nx l 4 : Nat) : Int)), .int .i64 0]) rfl Tagg_108 rfl (Cells.blk (.tail _ (List.Mem.head _)) ⟨rfl, rfl, rfl, rfl, rfl, rfl, trivial⟩), (Some'.weak (.nil _)), ?_⟩
  rfl

end Go.Proofs.Yteehfidjofcfmaa
