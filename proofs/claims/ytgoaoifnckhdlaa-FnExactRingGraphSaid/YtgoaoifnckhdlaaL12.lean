/- The walk of the law FnExactRingGraph. -/
import Derived.Test.YtgoaoifnckhdlaaRi
import Derived.Test.YtgoaoifnckhdlaaProg
set_option linter.unusedSimpArgs false
set_option linter.unusedVariables false
namespace Go.Proofs.Ytgoaoifnckhdlaa
open Go Go.RowKit
namespace L12T
theorem Tagg_35 : aggOf Try.prog 35 = some 2 := by kernel_rfl
theorem Tbool_4 : Try.prog.underlying 4 = some .bool := by kernel_rfl
theorem Tcall_24 : callable Try.prog 24 = true := by kernel_rfl
theorem Tcall_27 : callable Try.prog 27 = true := by kernel_rfl
theorem Tcall_28 : callable Try.prog 28 = true := by kernel_rfl
theorem Tcall_53 : callable Try.prog 53 = true := by kernel_rfl
theorem Tcall_54 : callable Try.prog 54 = true := by kernel_rfl
theorem Tsize_35 : (Try.prog.info? 35).map (·.size) = some 2 := by kernel_rfl
theorem Tzero_35 : zeroOf Try.prog 35 = some [.int .i64 0, .slice none 0 0] := by kernel_rfl
end L12T
open L12T
set_option maxHeartbeats 1000000 in
set_option maxRecDepth 20000 in
theorem law_spec {N : Int} {w : World} (Nw : In64 N) : Calls Try.prog 13 #[.int .i64 N] w (Post No w fun v _ => v = .bool true) := by
  have hlen := rgE_le N
  refine enter (n := 63) (args := [.int .i64 N]) Try.func13 rfl rfl (St.empty _ _) ?_
  refine Run.seq ?_
  refine Run.region ?_
  refine Run.q (v := .bool false) rfl (OpQ.y (OpY.pure rfl)) ?_
  refine Run.done ?_
  refine Run.seq ?_
  refine Run.region ?_
  refine Run.q (v := .int .i64 N) rfl (OpQ.y (OpY.pure rfl)) ?_
  refine Run.step rfl (OpStep.call (vs := [.int .i64 N]) (caps := []) Tcall_53 rfl rfl (fun w hs => sRingGraph_spec _ w) ?_)
  rintro _ _ ⟨u1, rfl, rfl⟩
  show Run _ _ (putF _ _ _ (.tuple #[.agg #[.int .i64 (rgN N), u1], .bool (rgOk N)])) [.own u1 100 2 ((rgE N).length) (ints (fl2 (rgE N)))]
  refine Run.q (v := .tuple #[.agg #[.int .i64 (rgN N), u1], .bool (rgOk N)]) rfl (OpQ.y (OpY.pure rfl)) ?_
  refine Run.q (v := .agg #[.int .i64 (rgN N), u1]) rfl (OpQ.y (OpY.pure rfl)) ?_
  refine Run.q (v := .bool (rgOk N)) rfl (OpQ.y (OpY.pure rfl)) ?_
  refine Run.step rfl (OpStep.alloc (zs := [.int .i64 0, .slice none 0 0]) Tzero_35 fun b1 => ?_)
  refine Run.formOwn (.tail _ (List.Mem.head _)) (fun A_u11 c_u11 hv hcapc_u11 hmaxc_u11 => ?_) (fun _ _ _ => ⟨nofun, nofun, nofun⟩)
  subst hv
  refine Run.step rfl (OpStep.storeAll (us := [.int .i64 (rgN N), .slice A_u11 ((rgE N).length) c_u11]) Tsize_35 rfl rfl rfl (.here _) rfl ?_)
  refine Run.q (v := .bool (rgOk N)) rfl (OpQ.y (OpY.pure rfl)) ?_
  refine Run.done ?_
  refine Run.seq ?_
  refine Run.region ?_
  refine Run.q (v := .int .i64 N) rfl (OpQ.y (OpY.pure rfl)) ?_
  refine Run.step rfl (OpStep.call (vs := [.int .i64 N]) (caps := []) Tcall_54 rfl rfl (fun w hs => RingGraph_spec _ w) ?_)
  rintro _ _ ⟨u2, rfl, rfl⟩
  show Run _ _ (putF _ _ _ (.tuple #[.agg #[.int .i64 (rgN N), u2], .bool (rgOk N)])) [.own u2 100 2 ((rgE N).length) (ints (fl2 (rgE N))), .blk b1 35 [.int .i64 (rgN N), .slice A_u11 ((rgE N).length) c_u11], .own (.slice A_u11 ((rgE N).length) c_u11) 100 2 ((rgE N).length) (ints (fl2 (rgE N)))]
  refine Run.q (v := .tuple #[.agg #[.int .i64 (rgN N), u2], .bool (rgOk N)]) rfl (OpQ.y (OpY.pure rfl)) ?_
  refine Run.q (v := .agg #[.int .i64 (rgN N), u2]) rfl (OpQ.y (OpY.pure rfl)) ?_
  refine Run.q (v := .bool (rgOk N)) rfl (OpQ.y (OpY.pure rfl)) ?_
  refine Run.step rfl (OpStep.alloc (zs := [.int .i64 0, .slice none 0 0]) Tzero_35 fun b2 => ?_)
  refine Run.formOwn (.tail _ (List.Mem.head _)) (fun A_u21 c_u21 hv hcapc_u21 hmaxc_u21 => ?_) (fun _ _ _ => ⟨nofun, nofun, nofun⟩)
  subst hv
  refine Run.step rfl (OpStep.storeAll (us := [.int .i64 (rgN N), .slice A_u21 ((rgE N).length) c_u21]) Tsize_35 rfl rfl rfl (.here _) rfl ?_)
  refine Run.q (v := .bool (rgOk N)) rfl (OpQ.y (OpY.pure rfl)) ?_
  refine Run.done ?_
  refine Run.seq ?_
  refine Run.seq ?_
  refine Run.region ?_
  refine Run.q (v := .agg #[.int .i64 (rgN N), .slice A_u21 ((rgE N).length) c_u21]) rfl (OpQ.y (OpY.loadN (cs := [.int .i64 (rgN N), .slice A_u21 ((rgE N).length) c_u21]) Tagg_35 rfl (Cells.blk (.head _) ⟨rfl, rfl, trivial⟩))) ?_
  refine Run.q (v := .agg #[.int .i64 (rgN N), .slice A_u11 ((rgE N).length) c_u11]) rfl (OpQ.y (OpY.loadN (cs := [.int .i64 (rgN N), .slice A_u11 ((rgE N).length) c_u11]) Tagg_35 rfl (Cells.blk (.tail _ (.tail _ (List.Mem.head _))) ⟨rfl, rfl, trivial⟩))) ?_
  refine Run.q (v := .bool true) rfl (OpQ.call (vs := [.agg #[.int .i64 (rgN N), .slice A_u21 ((rgE N).length) c_u21], .agg #[.int .i64 (rgN N), .slice A_u11 ((rgE N).length) c_u11]]) (caps := []) Tcall_24 rfl rfl (fun w hs => eqCouplingGraph_true (hs.slOwn (.tail _ (List.Mem.head _))) (hs.slOwn (.tail _ (.tail _ (.tail _ (List.Mem.head _))))))) ?_
  refine Run.q (v := .bool false) rfl (OpQ.y (OpY.pure rfl)) ?_
  refine Run.q (v := .bool false) rfl (OpQ.y (OpY.pure rfl)) ?_
  refine Run.q (v := .bool (rgOk N)) rfl (OpQ.y (OpY.pure rfl)) ?_
  refine Run.q (v := .bool (rgOk N)) rfl (OpQ.y (OpY.pure rfl)) ?_
  refine Run.q (v := .bool false) rfl (OpQ.y (OpY.neqBSame Tbool_4 rfl rfl rfl)) ?_
  refine Run.q (v := .bool false) rfl (OpQ.y (OpY.pure rfl)) ?_
  refine Run.done ?_
  refine Run.cond (b := false) rfl (fun h => nomatch h) (fun _ => ?_)
  refine Run.skip ?_
  refine Run.seq ?_
  refine Run.region ?_
  refine Run.q (v := .int .i64 1) rfl (OpQ.y (OpY.pure rfl)) ?_
  refine Run.done ?_
  refine Run.seq ?_
  refine Run.region ?_
  refine Run.q (v := .agg #[.int .i64 (rgN N), .slice A_u21 ((rgE N).length) c_u21]) rfl (OpQ.y (OpY.loadN (cs := [.int .i64 (rgN N), .slice A_u21 ((rgE N).length) c_u21]) Tagg_35 rfl (Cells.blk (.head _) ⟨rfl, rfl, trivial⟩))) ?_
  refine Run.q (v := .int .i64 1) rfl (OpQ.y (OpY.pure rfl)) ?_
  refine Run.step rfl (OpStep.callM (H1 := [.own (.slice A_u21 ((rgE N).length) c_u21) 100 2 ((rgE N).length) (ints (fl2 (rgE N)))]) (H2 := [.blk b2 35 [.int .i64 (rgN N), .slice A_u21 ((rgE N).length) c_u21], .blk b1 35 [.int .i64 (rgN N), .slice A_u11 ((rgE N).length) c_u11], .own (.slice A_u11 ((rgE N).length) c_u11) 100 2 ((rgE N).length) (ints (fl2 (rgE N)))]) (vs := [.agg #[.int .i64 (rgN N), .slice A_u21 ((rgE N).length) c_u21], .int .i64 1]) (caps := []) Tcall_27 rfl rfl (Weak.front [.blk b2 35 [.int .i64 (rgN N), .slice A_u21 ((rgE N).length) c_u21]] (.own (.slice A_u21 ((rgE N).length) c_u21) 100 2 ((rgE N).length) (ints (fl2 (rgE N)))) [.blk b1 35 [.int .i64 (rgN N), .slice A_u11 ((rgE N).length) c_u11], .own (.slice A_u11 ((rgE N).length) c_u11) 100 2 ((rgE N).length) (ints (fl2 (rgE N)))]) (fun w hs => markCouplingGraph_spec (hs.sub (List.sublist_append_left _ _)).self (by omega) (by omega)) ?_)
  rintro _ _ ⟨rfl, rfl⟩
  show Run _ _ (putF _ _ _ (.int .i64 (1 + (((rgE N).length : Nat) : Int) * 2))) [.own (.slice A_u21 ((rgE N).length) c_u21) 100 2 ((rgE N).length) (ints (mks 1 (((rgE N).length) * 2))), .blk b2 35 [.int .i64 (rgN N), .slice A_u21 ((rgE N).length) c_u21], .blk b1 35 [.int .i64 (rgN N), .slice A_u11 ((rgE N).length) c_u11], .own (.slice A_u11 ((rgE N).length) c_u11) 100 2 ((rgE N).length) (ints (fl2 (rgE N)))]
  refine Run.q (v := .int .i64 (1 + (((rgE N).length : Nat) : Int) * 2)) rfl (OpQ.y (OpY.pure rfl)) ?_
  refine Run.done ?_
  refine Run.seq ?_
  refine Run.region ?_
  refine Run.q (v := .int .i64 1) rfl (OpQ.y (OpY.pure rfl)) ?_
  refine Run.done ?_
  refine Run.seq ?_
  refine Run.region ?_
  refine Run.q (v := .agg #[.int .i64 (rgN N), .slice A_u21 ((rgE N).length) c_u21]) rfl (OpQ.y (OpY.loadN (cs := [.int .i64 (rgN N), .slice A_u21 ((rgE N).length) c_u21]) Tagg_35 rfl (Cells.blk (.tail _ (List.Mem.head _)) ⟨rfl, rfl, trivial⟩))) ?_
  refine Run.q (v := .int .i64 1) rfl (OpQ.y (OpY.pure rfl)) ?_
  refine Run.q (v := .int .i64 (1 + (((rgE N).length : Nat) : Int) * 2)) rfl (OpQ.call (vs := [.agg #[.int .i64 (rgN N), .slice A_u21 ((rgE N).length) c_u21], .int .i64 1]) (caps := []) Tcall_28 rfl rfl (fun w hs => heldCouplingGraph_true (hs.slOwn (.head _)) (by omega) (by omega) rfl)) ?_
  refine Run.q (v := .int .i64 (1 + (((rgE N).length : Nat) : Int) * 2)) rfl (OpQ.y (OpY.pure rfl)) ?_
  refine Run.done ?_
  refine Run.seq ?_
  refine Run.seq ?_
  refine Run.region ?_
  refine Run.q (v := .int .i64 (1 + (((rgE N).length : Nat) : Int) * 2)) rfl (OpQ.y (OpY.pure rfl)) ?_
  refine Run.q (v := .bool (decide ((1 + (((rgE N).length : Nat) : Int) * 2) < 0))) rfl (OpQ.y (OpY.pure rfl)) ?_
  refine Run.done ?_
  refine Run.cond (b := decide ((1 + (((rgE N).length : Nat) : Int) * 2) < 0)) rfl (fun h37 => ?_) (fun h37 => ?_)
  · have p37 := h37; try simp only [decide_eq_true_eq, decide_eq_false_iff_not, beq_iff_eq, bne_iff_ne, beq_eq_false_iff_ne, ne_eq, gt_iff_lt, ge_iff_le, Int.not_lt, Int.not_le, bne_eq_false_iff_eq, Bool.not_eq_true', Bool.not_eq_false', Bool.and_eq_true, Bool.and_eq_false_iff, Bool.or_eq_true, Bool.or_eq_false_iff, Decidable.not_not, List.cons.injEq, and_true] at p37
    exact absurd h37 (by simp <;> omega) --DONE
  · have p37 := h37; try simp only [decide_eq_true_eq, decide_eq_false_iff_not, beq_iff_eq, bne_iff_ne, beq_eq_false_iff_ne, ne_eq, gt_iff_lt, ge_iff_le, Int.not_lt, Int.not_le, bne_eq_false_iff_eq, Bool.not_eq_true', Bool.not_eq_false', Bool.and_eq_true, Bool.and_eq_false_iff, Bool.or_eq_true, Bool.or_eq_false_iff, Decidable.not_not, List.cons.injEq, and_true] at p37
    refine Run.skip ?_
    refine Run.seq ?_
    refine Run.seq ?_
    refine Run.region ?_
    refine Run.q (v := .int .i64 (1 + (((rgE N).length : Nat) : Int) * 2)) rfl (OpQ.y (OpY.pure rfl)) ?_
    refine Run.q (v := .int .i64 (1 + (((rgE N).length : Nat) : Int) * 2)) rfl (OpQ.y (OpY.pure rfl)) ?_
    refine Run.q (v := .bool false) rfl (OpQ.y (OpY.neqSame rfl rfl rfl)) ?_
    refine Run.done ?_
    refine Run.cond (b := false) rfl (fun h => nomatch h) (fun _ => ?_)
    refine Run.skip ?_
    refine Run.seq ?_
    refine Run.region ?_
    refine Run.q (v := .int .i64 N) rfl (OpQ.y (OpY.pure rfl)) ?_
    refine Run.step rfl (OpStep.call (vs := [.int .i64 N]) (caps := []) Tcall_54 rfl rfl (fun w hs => RingGraph_spec _ w) ?_)
    rintro _ _ ⟨u3, rfl, rfl⟩
    show Run _ _ (putF _ _ _ (.tuple #[.agg #[.int .i64 (rgN N), u3], .bool (rgOk N)])) [.own u3 100 2 ((rgE N).length) (ints (fl2 (rgE N))), .own (.slice A_u21 ((rgE N).length) c_u21) 100 2 ((rgE N).length) (ints (mks 1 (((rgE N).length) * 2))), .blk b2 35 [.int .i64 (rgN N), .slice A_u21 ((rgE N).length) c_u21], .blk b1 35 [.int .i64 (rgN N), .slice A_u11 ((rgE N).length) c_u11], .own (.slice A_u11 ((rgE N).length) c_u11) 100 2 ((rgE N).length) (ints (fl2 (rgE N)))]
    refine Run.q (v := .tuple #[.agg #[.int .i64 (rgN N), u3], .bool (rgOk N)]) rfl (OpQ.y (OpY.pure rfl)) ?_
    refine Run.q (v := .agg #[.int .i64 (rgN N), u3]) rfl (OpQ.y (OpY.pure rfl)) ?_
    refine Run.q (v := .bool (rgOk N)) rfl (OpQ.y (OpY.pure rfl)) ?_
    refine Run.step rfl (OpStep.alloc (zs := [.int .i64 0, .slice none 0 0]) Tzero_35 fun b3 => ?_)
    refine Run.formOwn (.tail _ (List.Mem.head _)) (fun A_u31 c_u31 hv hcapc_u31 hmaxc_u31 => ?_) (fun _ _ _ => ⟨nofun, nofun, nofun⟩)
    subst hv
    refine Run.step rfl (OpStep.storeAll (us := [.int .i64 (rgN N), .slice A_u31 ((rgE N).length) c_u31]) Tsize_35 rfl rfl rfl (.here _) rfl ?_)
    refine Run.q (v := .bool (rgOk N)) rfl (OpQ.y (OpY.pure rfl)) ?_
    refine Run.done ?_
    refine Run.seq ?_
    refine Run.seq ?_
    refine Run.region ?_
    refine Run.q (v := .agg #[.int .i64 (rgN N), .slice A_u31 ((rgE N).length) c_u31]) rfl (OpQ.y (OpY.loadN (cs := [.int .i64 (rgN N), .slice A_u31 ((rgE N).length) c_u31]) Tagg_35 rfl (Cells.blk (.head _) ⟨rfl, rfl, trivial⟩))) ?_
    refine Run.q (v := .agg #[.int .i64 (rgN N), .slice A_u11 ((rgE N).length) c_u11]) rfl (OpQ.y (OpY.loadN (cs := [.int .i64 (rgN N), .slice A_u11 ((rgE N).length) c_u11]) Tagg_35 rfl (Cells.blk (.tail _ (.tail _ (.tail _ (.tail _ (List.Mem.head _))))) ⟨rfl, rfl, trivial⟩))) ?_
    refine Run.q (v := .bool true) rfl (OpQ.call (vs := [.agg #[.int .i64 (rgN N), .slice A_u31 ((rgE N).length) c_u31], .agg #[.int .i64 (rgN N), .slice A_u11 ((rgE N).length) c_u11]]) (caps := []) Tcall_24 rfl rfl (fun w hs => eqCouplingGraph_true (hs.slOwn (.tail _ (List.Mem.head _))) (hs.slOwn (.tail _ (.tail _ (.tail _ (.tail _ (.tail _ (List.Mem.head _))))))))) ?_
    refine Run.q (v := .bool false) rfl (OpQ.y (OpY.pure rfl)) ?_
    refine Run.q (v := .bool false) rfl (OpQ.y (OpY.pure rfl)) ?_
    refine Run.q (v := .bool (rgOk N)) rfl (OpQ.y (OpY.pure rfl)) ?_
    refine Run.q (v := .bool (rgOk N)) rfl (OpQ.y (OpY.pure rfl)) ?_
    refine Run.q (v := .bool false) rfl (OpQ.y (OpY.neqBSame Tbool_4 rfl rfl rfl)) ?_
    refine Run.q (v := .bool false) rfl (OpQ.y (OpY.pure rfl)) ?_
    refine Run.done ?_
    refine Run.cond (b := false) rfl (fun h => nomatch h) (fun _ => ?_)
    refine Run.skip ?_
    refine Run.seq ?_
    refine Run.region ?_
    refine Run.q (v := .int .i64 1) rfl (OpQ.y (OpY.pure rfl)) ?_
    refine Run.done ?_
    refine Run.seq ?_
    refine Run.region ?_
    refine Run.q (v := .agg #[.int .i64 (rgN N), .slice A_u21 ((rgE N).length) c_u21]) rfl (OpQ.y (OpY.loadN (cs := [.int .i64 (rgN N), .slice A_u21 ((rgE N).length) c_u21]) Tagg_35 rfl (Cells.blk (.tail _ (.tail _ (.tail _ (List.Mem.head _)))) ⟨rfl, rfl, trivial⟩))) ?_
    refine Run.q (v := .int .i64 1) rfl (OpQ.y (OpY.pure rfl)) ?_
    refine Run.q (v := .int .i64 (1 + (((rgE N).length : Nat) : Int) * 2)) rfl (OpQ.call (vs := [.agg #[.int .i64 (rgN N), .slice A_u21 ((rgE N).length) c_u21], .int .i64 1]) (caps := []) Tcall_28 rfl rfl (fun w hs => heldCouplingGraph_true (hs.slOwn (.tail _ (.tail _ (List.Mem.head _)))) (by omega) (by omega) rfl)) ?_
    refine Run.q (v := .int .i64 (1 + (((rgE N).length : Nat) : Int) * 2)) rfl (OpQ.y (OpY.pure rfl)) ?_
    refine Run.done ?_
    refine Run.seq ?_
    refine Run.seq ?_
    refine Run.region ?_
    refine Run.q (v := .int .i64 (1 + (((rgE N).length : Nat) : Int) * 2)) rfl (OpQ.y (OpY.pure rfl)) ?_
    refine Run.q (v := .bool (decide ((1 + (((rgE N).length : Nat) : Int) * 2) < 0))) rfl (OpQ.y (OpY.pure rfl)) ?_
    refine Run.done ?_
    refine Run.cond (b := decide ((1 + (((rgE N).length : Nat) : Int) * 2) < 0)) rfl (fun h59 => ?_) (fun h59 => ?_)
    · have p59 := h59; try simp only [decide_eq_true_eq, decide_eq_false_iff_not, beq_iff_eq, bne_iff_ne, beq_eq_false_iff_ne, ne_eq, gt_iff_lt, ge_iff_le, Int.not_lt, Int.not_le, bne_eq_false_iff_eq, Bool.not_eq_true', Bool.not_eq_false', Bool.and_eq_true, Bool.and_eq_false_iff, Bool.or_eq_true, Bool.or_eq_false_iff, Decidable.not_not, List.cons.injEq, and_true] at p59
      exact absurd h59 (by simp <;> omega) --DONE
    · have p59 := h59; try simp only [decide_eq_true_eq, decide_eq_false_iff_not, beq_iff_eq, bne_iff_ne, beq_eq_false_iff_ne, ne_eq, gt_iff_lt, ge_iff_le, Int.not_lt, Int.not_le, bne_eq_false_iff_eq, Bool.not_eq_true', Bool.not_eq_false', Bool.and_eq_true, Bool.and_eq_false_iff, Bool.or_eq_true, Bool.or_eq_false_iff, Decidable.not_not, List.cons.injEq, and_true] at p59
      refine Run.skip ?_
      refine Run.seq ?_
      refine Run.seq ?_
      refine Run.region ?_
      refine Run.q (v := .int .i64 (1 + (((rgE N).length : Nat) : Int) * 2)) rfl (OpQ.y (OpY.pure rfl)) ?_
      refine Run.q (v := .int .i64 (1 + (((rgE N).length : Nat) : Int) * 2)) rfl (OpQ.y (OpY.pure rfl)) ?_
      refine Run.q (v := .bool false) rfl (OpQ.y (OpY.neqSame rfl rfl rfl)) ?_
      refine Run.done ?_
      refine Run.cond (b := false) rfl (fun h => nomatch h) (fun _ => ?_)
      refine Run.skip ?_
      refine Run.seq ?_
      refine Run.region ?_
      refine Run.q (v := .bool true) rfl (OpQ.y (OpY.pure rfl)) ?_
      refine Run.done ?_
      refine Run.ret ?_
      refine ⟨.bool true, [], Out.one rfl rfl, (Some'.weak (.nil _)), ?_⟩
      rfl

end Go.Proofs.Ytgoaoifnckhdlaa
