/- Walks: circuits with the same trace. -/
import Derived.Test.YtbepibalnnbmgaaFp
import Derived.Test.YtbepibalnnbmgaaEqc
import Derived.Test.YtbepibalnnbmgaaProg
set_option linter.unusedSimpArgs false
set_option linter.unusedVariables false
namespace Go.Proofs.Ytbepibalnnbmgaa
open Go Go.RowKit
namespace SmT
theorem Tagg_30 : aggOf Try.prog 30 = some 2 := by kernel_rfl
theorem Tcall_11 : callable Try.prog 11 = true := by kernel_rfl
theorem Tcall_15 : callable Try.prog 15 = true := by kernel_rfl
theorem Tcall_16 : callable Try.prog 16 = true := by kernel_rfl
theorem Tcall_17 : callable Try.prog 17 = true := by kernel_rfl
theorem Tcall_19 : callable Try.prog 19 = true := by kernel_rfl
theorem Tfo_30_0 : fieldOff Try.prog 30 0 = some 0 := by kernel_rfl
theorem Tone_3 : oneOf Try.prog 3 = true := by kernel_rfl
theorem Tsize_30 : (Try.prog.info? 30).map (·.size) = some 2 := by kernel_rfl
theorem Tzero_30 : zeroOf Try.prog 30 = some [.int .i64 0, .slice none 0 0] := by kernel_rfl
end SmT
open SmT

def stB (N : Int) (xs : List Int) (n : Nat) (M : Int) (ys : List Int) (m : Nat) : Bool := (circOk N xs n && circOk M ys m) && (N == M)
noncomputable def stE (N : Int) (xs : List Int) (n : Nat) (M : Int) (ys : List Int) (m : Nat) : Bool := stB N xs n M ys m && eqGs (foR N xs n) (foM N xs n) (foR M ys m) (foM M ys m)

set_option maxHeartbeats 1000000 in
set_option maxRecDepth 20000 in
theorem SameTrace_spec {N M : Int} {va vb : Value} {n m : Nat} {xs ys : List Int} {w : World} (ha : Sl w va 3 n (ints xs)) (hb : Sl w vb 3 m (ints ys)) : Calls Try.prog 8 #[.agg #[.int .i64 N, va], .agg #[.int .i64 M, vb]] w (Post No w fun v _ => v = .tuple #[.bool (stE N xs n M ys m), .bool (stB N xs n M ys m)]) := by
  obtain ⟨A, c, rfl, _, _⟩ := ha.form0
  obtain ⟨Ab, cb, rfl, _, _⟩ := hb.form0
  refine enter (n := 36) (args := [.agg #[.int .i64 N, .slice A n c], .agg #[.int .i64 M, .slice Ab m cb]]) Try.func8 rfl rfl (St.empty _ _) ?_
  refine Run.seq ?_
  refine Run.region ?_
  refine Run.step rfl (OpStep.box (us := [.int .i64 N, .slice A n c]) rfl fun b1 => ?_)
  refine Run.step rfl (OpStep.box (us := [.int .i64 M, .slice Ab m cb]) rfl fun b2 => ?_)
  refine Run.q (v := .bool false) rfl (OpQ.y (OpY.pure rfl)) ?_
  refine Run.q (v := .bool false) rfl (OpQ.y (OpY.pure rfl)) ?_
  refine Run.done ?_
  refine Run.seq ?_
  refine Run.region ?_
  refine Run.q (v := .agg #[.int .i64 N, .slice A n c]) rfl (OpQ.y (OpY.loadN (cs := [.int .i64 N, .slice A n c]) Tagg_30 rfl (Cells.blk (.tail _ (List.Mem.head _)) ⟨rfl, rfl, trivial⟩))) ?_
  refine Run.step rfl (OpStep.call (vs := [.agg #[.int .i64 N, .slice A n c]]) (caps := []) Tcall_11 rfl rfl (fun w hs => FoataOf_spec (N := N) (hs.sl ha)) ?_)
  rintro _ _ ⟨ua, rfl, rfl⟩
  show Run _ _ (putF _ _ _ (.tuple #[.agg #[.int .i64 (foN N xs n), ua], .bool (circOk N xs n)])) [.own ua 47 3 (foM N xs n) (ints (foR N xs n)), .blk b2 30 [.int .i64 M, .slice Ab m cb], .blk b1 30 [.int .i64 N, .slice A n c]]
  refine Run.q (v := .tuple #[.agg #[.int .i64 (foN N xs n), ua], .bool (circOk N xs n)]) rfl (OpQ.y (OpY.pure rfl)) ?_
  refine Run.q (v := .agg #[.int .i64 (foN N xs n), ua]) rfl (OpQ.y (OpY.pure rfl)) ?_
  refine Run.q (v := .bool (circOk N xs n)) rfl (OpQ.y (OpY.pure rfl)) ?_
  refine Run.step rfl (OpStep.alloc (zs := [.int .i64 0, .slice none 0 0]) Tzero_30 fun b3 => ?_)
  refine Run.formOwn (.tail _ (List.Mem.head _)) (fun A_ua1 c_ua1 hv hcapc_ua1 hmaxc_ua1 => ?_) (fun _ _ _ => ⟨nofun, nofun, nofun⟩)
  subst hv
  refine Run.step rfl (OpStep.storeAll (us := [.int .i64 (foN N xs n), .slice A_ua1 (foM N xs n) c_ua1]) Tsize_30 rfl rfl rfl (.here _) rfl ?_)
  refine Run.q (v := .bool (circOk N xs n)) rfl (OpQ.y (OpY.pure rfl)) ?_
  refine Run.done ?_
  refine Run.seq ?_
  refine Run.region ?_
  refine Run.q (v := .agg #[.int .i64 M, .slice Ab m cb]) rfl (OpQ.y (OpY.loadN (cs := [.int .i64 M, .slice Ab m cb]) Tagg_30 rfl (Cells.blk (.tail _ (.tail _ (List.Mem.head _))) ⟨rfl, rfl, trivial⟩))) ?_
  refine Run.step rfl (OpStep.call (vs := [.agg #[.int .i64 M, .slice Ab m cb]]) (caps := []) Tcall_11 rfl rfl (fun w hs => FoataOf_spec (N := M) (hs.sl hb)) ?_)
  rintro _ _ ⟨ub, rfl, rfl⟩
  show Run _ _ (putF _ _ _ (.tuple #[.agg #[.int .i64 (foN M ys m), ub], .bool (circOk M ys m)])) [.own ub 47 3 (foM M ys m) (ints (foR M ys m)), .blk b3 30 [.int .i64 (foN N xs n), .slice A_ua1 (foM N xs n) c_ua1], .own (.slice A_ua1 (foM N xs n) c_ua1) 47 3 (foM N xs n) (ints (foR N xs n)), .blk b2 30 [.int .i64 M, .slice Ab m cb], .blk b1 30 [.int .i64 N, .slice A n c]]
  refine Run.q (v := .tuple #[.agg #[.int .i64 (foN M ys m), ub], .bool (circOk M ys m)]) rfl (OpQ.y (OpY.pure rfl)) ?_
  refine Run.q (v := .agg #[.int .i64 (foN M ys m), ub]) rfl (OpQ.y (OpY.pure rfl)) ?_
  refine Run.q (v := .bool (circOk M ys m)) rfl (OpQ.y (OpY.pure rfl)) ?_
  refine Run.step rfl (OpStep.alloc (zs := [.int .i64 0, .slice none 0 0]) Tzero_30 fun b4 => ?_)
  refine Run.formOwn (.tail _ (List.Mem.head _)) (fun A_ub1 c_ub1 hv hcapc_ub1 hmaxc_ub1 => ?_) (fun _ _ _ => ⟨nofun, nofun, nofun⟩)
  subst hv
  refine Run.step rfl (OpStep.storeAll (us := [.int .i64 (foN M ys m), .slice A_ub1 (foM M ys m) c_ub1]) Tsize_30 rfl rfl rfl (.here _) rfl ?_)
  refine Run.q (v := .bool (circOk M ys m)) rfl (OpQ.y (OpY.pure rfl)) ?_
  refine Run.done ?_
  refine Run.seq ?_
  refine Run.seq ?_
  refine Run.region ?_
  refine Run.q (v := .bool (circOk N xs n)) rfl (OpQ.y (OpY.pure rfl)) ?_
  refine Run.q (v := .bool (!(circOk N xs n))) rfl (OpQ.y (OpY.pure rfl)) ?_
  rcases Bool.eq_false_or_eq_true (!(circOk N xs n)) with h22 | h22
  · refine Run.q (v := .bool true) rfl (OpQ.y (OpY.moveB rfl h22)) ?_
    have p22 := h22; try simp only [decide_eq_true_eq, decide_eq_false_iff_not, beq_iff_eq, bne_iff_ne, beq_eq_false_iff_ne, ne_eq, gt_iff_lt, ge_iff_le, Int.not_lt, Int.not_le, bne_eq_false_iff_eq, Bool.not_eq_true', Bool.not_eq_false', Bool.and_eq_true, Bool.and_eq_false_iff, Bool.or_eq_true, Bool.or_eq_false_iff, Decidable.not_not, List.cons.injEq, and_true] at p22
    refine Run.pass rfl ?_
    refine Run.pass rfl ?_
    refine Run.q (v := .bool true) rfl (OpQ.y (OpY.pure rfl)) ?_
    refine Run.q (v := .bool true) rfl (OpQ.y (OpY.pure rfl)) ?_
    refine Run.pass rfl ?_
    refine Run.pass rfl ?_
    refine Run.pass rfl ?_
    refine Run.pass rfl ?_
    refine Run.pass rfl ?_
    refine Run.q (v := .bool true) rfl (OpQ.y (OpY.pure rfl)) ?_
    refine Run.done ?_
    refine Run.cond (b := true) rfl (fun _ => ?_) (fun h => nomatch h)
    refine Run.seq ?_
    have hb0 : stB N xs n M ys m = false := by unfold stB; simp_all
    have he0 : stE N xs n M ys m = false := by rw [stE, hb0, Bool.false_and]
    refine Run.region ?_
    refine Run.q (v := .bool false) rfl (OpQ.y (OpY.pure rfl)) ?_
    refine Run.q (v := .bool false) rfl (OpQ.y (OpY.pure rfl)) ?_
    refine Run.done ?_
    refine Run.ret ?_
    refine ⟨.tuple #[.bool false, .bool false], [], Out.two rfl rfl rfl, (Some'.weak (.nil _)), ?_⟩
    show _ = _; rw [he0, hb0]
  · refine Run.q (v := .bool false) rfl (OpQ.y (OpY.moveB rfl h22)) ?_
    have p22 := h22; try simp only [decide_eq_true_eq, decide_eq_false_iff_not, beq_iff_eq, bne_iff_ne, beq_eq_false_iff_ne, ne_eq, gt_iff_lt, ge_iff_le, Int.not_lt, Int.not_le, bne_eq_false_iff_eq, Bool.not_eq_true', Bool.not_eq_false', Bool.and_eq_true, Bool.and_eq_false_iff, Bool.or_eq_true, Bool.or_eq_false_iff, Decidable.not_not, List.cons.injEq, and_true] at p22
    refine Run.q (v := .bool (circOk M ys m)) rfl (OpQ.y (OpY.pure rfl)) ?_
    refine Run.q (v := .bool (!(circOk M ys m))) rfl (OpQ.y (OpY.pure rfl)) ?_
    refine Run.q (v := .bool (!(circOk M ys m))) rfl (OpQ.y (OpY.pure rfl)) ?_
    rcases Bool.eq_false_or_eq_true (!(circOk M ys m)) with h26 | h26
    · refine Run.q (v := .bool true) rfl (OpQ.y (OpY.moveB rfl h26)) ?_
      have p26 := h26; try simp only [decide_eq_true_eq, decide_eq_false_iff_not, beq_iff_eq, bne_iff_ne, beq_eq_false_iff_ne, ne_eq, gt_iff_lt, ge_iff_le, Int.not_lt, Int.not_le, bne_eq_false_iff_eq, Bool.not_eq_true', Bool.not_eq_false', Bool.and_eq_true, Bool.and_eq_false_iff, Bool.or_eq_true, Bool.or_eq_false_iff, Decidable.not_not, List.cons.injEq, and_true] at p26
      refine Run.pass rfl ?_
      refine Run.pass rfl ?_
      refine Run.pass rfl ?_
      refine Run.pass rfl ?_
      refine Run.pass rfl ?_
      refine Run.q (v := .bool true) rfl (OpQ.y (OpY.pure rfl)) ?_
      refine Run.done ?_
      refine Run.cond (b := true) rfl (fun _ => ?_) (fun h => nomatch h)
      refine Run.seq ?_
      have hb0 : stB N xs n M ys m = false := by unfold stB; simp_all
      have he0 : stE N xs n M ys m = false := by rw [stE, hb0, Bool.false_and]
      refine Run.region ?_
      refine Run.q (v := .bool false) rfl (OpQ.y (OpY.pure rfl)) ?_
      refine Run.q (v := .bool false) rfl (OpQ.y (OpY.pure rfl)) ?_
      refine Run.done ?_
      refine Run.ret ?_
      refine ⟨.tuple #[.bool false, .bool false], [], Out.two rfl rfl rfl, (Some'.weak (.nil _)), ?_⟩
      show _ = _; rw [he0, hb0]
    · refine Run.q (v := .bool false) rfl (OpQ.y (OpY.moveB rfl h26)) ?_
      have p26 := h26; try simp only [decide_eq_true_eq, decide_eq_false_iff_not, beq_iff_eq, bne_iff_ne, beq_eq_false_iff_ne, ne_eq, gt_iff_lt, ge_iff_le, Int.not_lt, Int.not_le, bne_eq_false_iff_eq, Bool.not_eq_true', Bool.not_eq_false', Bool.and_eq_true, Bool.and_eq_false_iff, Bool.or_eq_true, Bool.or_eq_false_iff, Decidable.not_not, List.cons.injEq, and_true] at p26
      refine Run.q (v := .pointer (some ⟨b1, 0, none⟩)) rfl (OpQ.y (OpY.fieldAddr Tfo_30_0 rfl rfl)) ?_
      refine Run.q (v := .int .i64 N) rfl (OpQ.y (OpY.load1 Tone_3 rfl (Cells.blk (.tail _ (.tail _ (.tail _ (.tail _ (.tail _ (List.Mem.head _)))))) ⟨rfl, trivial⟩))) ?_
      refine Run.q (v := .pointer (some ⟨b2, 0, none⟩)) rfl (OpQ.y (OpY.fieldAddr Tfo_30_0 rfl rfl)) ?_
      refine Run.q (v := .int .i64 M) rfl (OpQ.y (OpY.load1 Tone_3 rfl (Cells.blk (.tail _ (.tail _ (.tail _ (.tail _ (List.Mem.head _))))) ⟨rfl, trivial⟩))) ?_
      refine Run.q (v := .bool (N != M)) rfl (OpQ.y (OpY.pure rfl)) ?_
      refine Run.q (v := .bool (N != M)) rfl (OpQ.y (OpY.pure rfl)) ?_
      refine Run.done ?_
      refine Run.cond (b := N != M) rfl (fun h32 => ?_) (fun h32 => ?_)
      · have p32 := h32; try simp only [decide_eq_true_eq, decide_eq_false_iff_not, beq_iff_eq, bne_iff_ne, beq_eq_false_iff_ne, ne_eq, gt_iff_lt, ge_iff_le, Int.not_lt, Int.not_le, bne_eq_false_iff_eq, Bool.not_eq_true', Bool.not_eq_false', Bool.and_eq_true, Bool.and_eq_false_iff, Bool.or_eq_true, Bool.or_eq_false_iff, Decidable.not_not, List.cons.injEq, and_true] at p32
        refine Run.seq ?_
        have hb0 : stB N xs n M ys m = false := by unfold stB; simp_all
        have he0 : stE N xs n M ys m = false := by rw [stE, hb0, Bool.false_and]
        refine Run.region ?_
        refine Run.q (v := .bool false) rfl (OpQ.y (OpY.pure rfl)) ?_
        refine Run.q (v := .bool false) rfl (OpQ.y (OpY.pure rfl)) ?_
        refine Run.done ?_
        refine Run.ret ?_
        refine ⟨.tuple #[.bool false, .bool false], [], Out.two rfl rfl rfl, (Some'.weak (.nil _)), ?_⟩
        show _ = _; rw [he0, hb0]
      · have p32 := h32; try simp only [decide_eq_true_eq, decide_eq_false_iff_not, beq_iff_eq, bne_iff_ne, beq_eq_false_iff_ne, ne_eq, gt_iff_lt, ge_iff_le, Int.not_lt, Int.not_le, bne_eq_false_iff_eq, Bool.not_eq_true', Bool.not_eq_false', Bool.and_eq_true, Bool.and_eq_false_iff, Bool.or_eq_true, Bool.or_eq_false_iff, Decidable.not_not, List.cons.injEq, and_true] at p32
        refine Run.skip ?_
        refine Run.seq ?_
        have hb0 : stB N xs n M ys m = true := by unfold stB; simp_all
        have hN : (foN N xs n == foN M ys m) = true := by unfold stB at hb0; simp only [Bool.and_eq_true, beq_iff_eq] at hb0; rw [foN, foN, hb0.1.1, hb0.1.2, hb0.2]; simp
        have he0 : stE N xs n M ys m = eqGs (foR N xs n) (foM N xs n) (foR M ys m) (foM M ys m) := by rw [stE, hb0, Bool.true_and]
        refine Run.region ?_
        refine Run.q (v := .agg #[.int .i64 (foN N xs n), .slice A_ua1 (foM N xs n) c_ua1]) rfl (OpQ.y (OpY.loadN (cs := [.int .i64 (foN N xs n), .slice A_ua1 (foM N xs n) c_ua1]) Tagg_30 rfl (Cells.blk (.tail _ (.tail _ (List.Mem.head _))) ⟨rfl, rfl, trivial⟩))) ?_
        refine Run.q (v := .agg #[.int .i64 (foN M ys m), .slice A_ub1 (foM M ys m) c_ub1]) rfl (OpQ.y (OpY.loadN (cs := [.int .i64 (foN M ys m), .slice A_ub1 (foM M ys m) c_ub1]) Tagg_30 rfl (Cells.blk (.head _) ⟨rfl, rfl, trivial⟩))) ?_
        refine Run.q (v := .bool ((foN N xs n == foN M ys m) && eqGs (foR N xs n) (foM N xs n) (foR M ys m) (foM M ys m))) rfl (OpQ.call (vs := [.agg #[.int .i64 (foN N xs n), .slice A_ua1 (foM N xs n) c_ua1], .agg #[.int .i64 (foN M ys m), .slice A_ub1 (foM M ys m) c_ub1]]) (caps := []) Tcall_19 rfl rfl (fun w hs => EqualCircuits_spec (hs.slOwn (.tail _ (.tail _ (.tail _ (List.Mem.head _))))) (hs.slOwn (.tail _ (List.Mem.head _))))) ?_
        refine Run.q (v := .bool ((foN N xs n == foN M ys m) && eqGs (foR N xs n) (foM N xs n) (foR M ys m) (foM M ys m))) rfl (OpQ.y (OpY.pure rfl)) ?_
        refine Run.q (v := .bool true) rfl (OpQ.y (OpY.pure rfl)) ?_
        refine Run.done ?_
        refine Run.ret ?_
        refine ⟨.tuple #[.bool ((foN N xs n == foN M ys m) && eqGs (foR N xs n) (foM N xs n) (foR M ys m) (foM M ys m)), .bool true], [], Out.two rfl rfl rfl, (Some'.weak (.nil _)), ?_⟩
        show _ = _; rw [he0, hb0, hN, Bool.true_and]

set_option maxHeartbeats 1000000 in
set_option maxRecDepth 20000 in
theorem sSameTrace_spec {N M : Int} {va vb : Value} {n m : Nat} {xs ys : List Int} {w : World} (ha : Sl w va 3 n (ints xs)) (hb : Sl w vb 3 m (ints ys)) : Calls Try.prog 6 #[.agg #[.int .i64 N, va], .agg #[.int .i64 M, vb]] w (Post No w fun v _ => v = .tuple #[.bool (stE N xs n M ys m), .bool (stB N xs n M ys m)]) := by
  obtain ⟨A, c, rfl, _, _⟩ := ha.form0
  obtain ⟨Ab, cb, rfl, _, _⟩ := hb.form0
  refine enter (n := 26) (args := [.agg #[.int .i64 N, .slice A n c], .agg #[.int .i64 M, .slice Ab m cb]]) Try.func6 rfl rfl (St.empty _ _) ?_
  refine Run.seq ?_
  refine Run.region ?_
  refine Run.step rfl (OpStep.box (us := [.int .i64 N, .slice A n c]) rfl fun b1 => ?_)
  refine Run.step rfl (OpStep.box (us := [.int .i64 M, .slice Ab m cb]) rfl fun b2 => ?_)
  refine Run.q (v := .bool false) rfl (OpQ.y (OpY.pure rfl)) ?_
  refine Run.q (v := .bool false) rfl (OpQ.y (OpY.pure rfl)) ?_
  refine Run.done ?_
  refine Run.seq ?_
  refine Run.seq ?_
  refine Run.region ?_
  refine Run.q (v := .agg #[.int .i64 N, .slice A n c]) rfl (OpQ.y (OpY.loadN (cs := [.int .i64 N, .slice A n c]) Tagg_30 rfl (Cells.blk (.tail _ (List.Mem.head _)) ⟨rfl, rfl, trivial⟩))) ?_
  refine Run.q (v := .bool (circOk N xs n)) rfl (OpQ.call (vs := [.agg #[.int .i64 N, .slice A n c]]) (caps := []) Tcall_15 rfl rfl (fun w hs => l4Good_spec (hs.sl ha))) ?_
  refine Run.q (v := .bool (!(circOk N xs n))) rfl (OpQ.y (OpY.pure rfl)) ?_
  rcases Bool.eq_false_or_eq_true (!(circOk N xs n)) with h9 | h9
  · refine Run.q (v := .bool true) rfl (OpQ.y (OpY.moveB rfl h9)) ?_
    have p9 := h9; try simp only [decide_eq_true_eq, decide_eq_false_iff_not, beq_iff_eq, bne_iff_ne, beq_eq_false_iff_ne, ne_eq, gt_iff_lt, ge_iff_le, Int.not_lt, Int.not_le, bne_eq_false_iff_eq, Bool.not_eq_true', Bool.not_eq_false', Bool.and_eq_true, Bool.and_eq_false_iff, Bool.or_eq_true, Bool.or_eq_false_iff, Decidable.not_not, List.cons.injEq, and_true] at p9
    refine Run.pass rfl ?_
    refine Run.pass rfl ?_
    refine Run.pass rfl ?_
    refine Run.q (v := .bool true) rfl (OpQ.y (OpY.pure rfl)) ?_
    refine Run.q (v := .bool true) rfl (OpQ.y (OpY.pure rfl)) ?_
    refine Run.pass rfl ?_
    refine Run.pass rfl ?_
    refine Run.pass rfl ?_
    refine Run.pass rfl ?_
    refine Run.pass rfl ?_
    refine Run.q (v := .bool true) rfl (OpQ.y (OpY.pure rfl)) ?_
    refine Run.done ?_
    refine Run.cond (b := true) rfl (fun _ => ?_) (fun h => nomatch h)
    refine Run.seq ?_
    have hb0 : stB N xs n M ys m = false := by unfold stB; simp_all
    have he0 : stE N xs n M ys m = false := by rw [stE, hb0, Bool.false_and]
    refine Run.region ?_
    refine Run.q (v := .bool false) rfl (OpQ.y (OpY.pure rfl)) ?_
    refine Run.q (v := .bool false) rfl (OpQ.y (OpY.pure rfl)) ?_
    refine Run.done ?_
    refine Run.ret ?_
    refine ⟨.tuple #[.bool false, .bool false], [], Out.two rfl rfl rfl, (Some'.weak (.nil _)), ?_⟩
    show _ = _; rw [he0, hb0]
  · refine Run.q (v := .bool false) rfl (OpQ.y (OpY.moveB rfl h9)) ?_
    have p9 := h9; try simp only [decide_eq_true_eq, decide_eq_false_iff_not, beq_iff_eq, bne_iff_ne, beq_eq_false_iff_ne, ne_eq, gt_iff_lt, ge_iff_le, Int.not_lt, Int.not_le, bne_eq_false_iff_eq, Bool.not_eq_true', Bool.not_eq_false', Bool.and_eq_true, Bool.and_eq_false_iff, Bool.or_eq_true, Bool.or_eq_false_iff, Decidable.not_not, List.cons.injEq, and_true] at p9
    refine Run.q (v := .agg #[.int .i64 M, .slice Ab m cb]) rfl (OpQ.y (OpY.loadN (cs := [.int .i64 M, .slice Ab m cb]) Tagg_30 rfl (Cells.blk (.head _) ⟨rfl, rfl, trivial⟩))) ?_
    refine Run.q (v := .bool (circOk M ys m)) rfl (OpQ.call (vs := [.agg #[.int .i64 M, .slice Ab m cb]]) (caps := []) Tcall_15 rfl rfl (fun w hs => l4Good_spec (hs.sl hb))) ?_
    refine Run.q (v := .bool (!(circOk M ys m))) rfl (OpQ.y (OpY.pure rfl)) ?_
    refine Run.q (v := .bool (!(circOk M ys m))) rfl (OpQ.y (OpY.pure rfl)) ?_
    rcases Bool.eq_false_or_eq_true (!(circOk M ys m)) with h14 | h14
    · refine Run.q (v := .bool true) rfl (OpQ.y (OpY.moveB rfl h14)) ?_
      have p14 := h14; try simp only [decide_eq_true_eq, decide_eq_false_iff_not, beq_iff_eq, bne_iff_ne, beq_eq_false_iff_ne, ne_eq, gt_iff_lt, ge_iff_le, Int.not_lt, Int.not_le, bne_eq_false_iff_eq, Bool.not_eq_true', Bool.not_eq_false', Bool.and_eq_true, Bool.and_eq_false_iff, Bool.or_eq_true, Bool.or_eq_false_iff, Decidable.not_not, List.cons.injEq, and_true] at p14
      refine Run.pass rfl ?_
      refine Run.pass rfl ?_
      refine Run.pass rfl ?_
      refine Run.pass rfl ?_
      refine Run.pass rfl ?_
      refine Run.q (v := .bool true) rfl (OpQ.y (OpY.pure rfl)) ?_
      refine Run.done ?_
      refine Run.cond (b := true) rfl (fun _ => ?_) (fun h => nomatch h)
      refine Run.seq ?_
      have hb0 : stB N xs n M ys m = false := by unfold stB; simp_all
      have he0 : stE N xs n M ys m = false := by rw [stE, hb0, Bool.false_and]
      refine Run.region ?_
      refine Run.q (v := .bool false) rfl (OpQ.y (OpY.pure rfl)) ?_
      refine Run.q (v := .bool false) rfl (OpQ.y (OpY.pure rfl)) ?_
      refine Run.done ?_
      refine Run.ret ?_
      refine ⟨.tuple #[.bool false, .bool false], [], Out.two rfl rfl rfl, (Some'.weak (.nil _)), ?_⟩
      show _ = _; rw [he0, hb0]
    · refine Run.q (v := .bool false) rfl (OpQ.y (OpY.moveB rfl h14)) ?_
      have p14 := h14; try simp only [decide_eq_true_eq, decide_eq_false_iff_not, beq_iff_eq, bne_iff_ne, beq_eq_false_iff_ne, ne_eq, gt_iff_lt, ge_iff_le, Int.not_lt, Int.not_le, bne_eq_false_iff_eq, Bool.not_eq_true', Bool.not_eq_false', Bool.and_eq_true, Bool.and_eq_false_iff, Bool.or_eq_true, Bool.or_eq_false_iff, Decidable.not_not, List.cons.injEq, and_true] at p14
      refine Run.q (v := .pointer (some ⟨b1, 0, none⟩)) rfl (OpQ.y (OpY.fieldAddr Tfo_30_0 rfl rfl)) ?_
      refine Run.q (v := .int .i64 N) rfl (OpQ.y (OpY.load1 Tone_3 rfl (Cells.blk (.tail _ (List.Mem.head _)) ⟨rfl, trivial⟩))) ?_
      refine Run.q (v := .pointer (some ⟨b2, 0, none⟩)) rfl (OpQ.y (OpY.fieldAddr Tfo_30_0 rfl rfl)) ?_
      refine Run.q (v := .int .i64 M) rfl (OpQ.y (OpY.load1 Tone_3 rfl (Cells.blk (.head _) ⟨rfl, trivial⟩))) ?_
      refine Run.q (v := .bool (N != M)) rfl (OpQ.y (OpY.pure rfl)) ?_
      refine Run.q (v := .bool (N != M)) rfl (OpQ.y (OpY.pure rfl)) ?_
      refine Run.done ?_
      refine Run.cond (b := N != M) rfl (fun h20 => ?_) (fun h20 => ?_)
      · have p20 := h20; try simp only [decide_eq_true_eq, decide_eq_false_iff_not, beq_iff_eq, bne_iff_ne, beq_eq_false_iff_ne, ne_eq, gt_iff_lt, ge_iff_le, Int.not_lt, Int.not_le, bne_eq_false_iff_eq, Bool.not_eq_true', Bool.not_eq_false', Bool.and_eq_true, Bool.and_eq_false_iff, Bool.or_eq_true, Bool.or_eq_false_iff, Decidable.not_not, List.cons.injEq, and_true] at p20
        refine Run.seq ?_
        have hb0 : stB N xs n M ys m = false := by unfold stB; simp_all
        have he0 : stE N xs n M ys m = false := by rw [stE, hb0, Bool.false_and]
        refine Run.region ?_
        refine Run.q (v := .bool false) rfl (OpQ.y (OpY.pure rfl)) ?_
        refine Run.q (v := .bool false) rfl (OpQ.y (OpY.pure rfl)) ?_
        refine Run.done ?_
        refine Run.ret ?_
        refine ⟨.tuple #[.bool false, .bool false], [], Out.two rfl rfl rfl, (Some'.weak (.nil _)), ?_⟩
        show _ = _; rw [he0, hb0]
      · have p20 := h20; try simp only [decide_eq_true_eq, decide_eq_false_iff_not, beq_iff_eq, bne_iff_ne, beq_eq_false_iff_ne, ne_eq, gt_iff_lt, ge_iff_le, Int.not_lt, Int.not_le, bne_eq_false_iff_eq, Bool.not_eq_true', Bool.not_eq_false', Bool.and_eq_true, Bool.and_eq_false_iff, Bool.or_eq_true, Bool.or_eq_false_iff, Decidable.not_not, List.cons.injEq, and_true] at p20
        refine Run.skip ?_
        refine Run.seq ?_
        have hok1 : circOk N xs n = true := by simp_all
        have hok2 : circOk M ys m = true := by simp_all
        have hNM : (N == M) = true := by simp_all
        have hb0 : stB N xs n M ys m = true := by unfold stB; rw [hok1, hok2, hNM]; rfl
        have he0 : stE N xs n M ys m = eqGs (foL (deepL incL xs n) xs n) n (foL (deepL incL ys m) ys m) m := by rw [stE, hb0, Bool.true_and, foR, foR, foM, foM, if_pos hok1, if_pos hok2, if_pos hok1, if_pos hok2]
        refine Run.held (by kernel_rfl) ?_
        refine DW.take (i := 0) (v := .agg #[.int .i64 N, .slice A n c]) rfl (by kernel_rfl) (by kernel_rfl) (by kernel_rfl) (fun _ _ _ h => h) (Weak.refl _) rfl (OpY.loadN (cs := [.int .i64 N, .slice A n c]) Tagg_30 rfl (Cells.blk (.tail _ (List.Mem.head _)) ⟨rfl, rfl, trivial⟩)) ?_
        refine DW.take (i := 2) (v := .agg #[.int .i64 M, .slice Ab m cb]) rfl (by kernel_rfl) (by kernel_rfl) (by kernel_rfl) (fun _ _ _ h => h) (Weak.refl _) rfl (OpY.loadN (cs := [.int .i64 M, .slice Ab m cb]) Tagg_30 rfl (Cells.blk (.head _) ⟨rfl, rfl, trivial⟩)) ?_
        refine DW.step (i := 1) (by kernel_rfl) rfl rfl (OpStep.call (vs := [.agg #[.int .i64 N, .slice A n c]]) (caps := []) Tcall_17 rfl rfl (fun w hs => l24Foata_spec (N := N) hok1 (hs.sl ha)) ?_)
        rintro _ _ ⟨ua, rfl, rfl⟩
        refine ⟨(Some'.weak (.skip (.take (.take (.nil _))))), ?_⟩
        refine DW.step (i := 3) (by kernel_rfl) rfl rfl (OpStep.call (vs := [.agg #[.int .i64 M, .slice Ab m cb]]) (caps := []) Tcall_17 rfl rfl (fun w hs => l24Foata_spec (N := M) hok2 (hs.sl hb)) ?_)
        rintro _ _ ⟨ub, rfl, rfl⟩
        refine ⟨(Some'.weak (.skip (.skip (.take (.take (.nil _)))))), ?_⟩
        refine DW.step (i := 4) (by kernel_rfl) rfl rfl (OpStep.q (v := .bool ((N == M) && eqGs (foL (deepL incL xs n) xs n) n (foL (deepL incL ys m) ys m) m)) (OpQ.call (vs := [.agg #[.int .i64 N, ua], .agg #[.int .i64 M, ub]]) (caps := []) Tcall_16 rfl rfl (fun w hs => sEqualCircuits_spec (hs.slOwn (.tail _ (List.Mem.head _))) (hs.slOwn (.head _)))) ?_)
        refine ⟨(Some'.weak (.skip (.skip (.take (.take (.nil _)))))), ?_⟩
        refine DW.take (i := 5) (v := .bool ((N == M) && eqGs (foL (deepL incL xs n) xs n) n (foL (deepL incL ys m) ys m) m)) rfl (by kernel_rfl) (by kernel_rfl) (by kernel_rfl) (fun _ _ _ h => h) (Some'.weak (.skip (.skip (.take (.take (.nil _)))))) rfl (OpY.pure rfl) ?_
        refine DW.take (i := 6) (v := .bool true) rfl (by kernel_rfl) (by kernel_rfl) (by kernel_rfl) (fun _ _ _ h => h) (Some'.weak (.skip (.skip (.take (.take (.nil _)))))) rfl (OpY.pure rfl) ?_
        refine DW.done (by kernel_rfl) ?_
        refine Run.ret ?_
        refine ⟨.tuple #[.bool ((N == M) && eqGs (foL (deepL incL xs n) xs n) n (foL (deepL incL ys m) ys m) m), .bool true], [], Out.two rfl rfl rfl, (Some'.weak (.nil _)), ?_⟩
        show _ = _; rw [he0, hb0, hNM, Bool.true_and]

end Go.Proofs.Ytbepibalnnbmgaa
