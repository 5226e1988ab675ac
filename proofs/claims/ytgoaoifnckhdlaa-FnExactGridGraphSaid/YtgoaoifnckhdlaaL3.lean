/- The walk of the law FnExactGridGraph. -/
import Derived.Test.YtgoaoifnckhdlaaGr
import Derived.Test.YtgoaoifnckhdlaaProg
set_option linter.unusedSimpArgs false
set_option linter.unusedVariables false
namespace Go.Proofs.Ytgoaoifnckhdlaa
open Go Go.RowKit
namespace L3T
theorem Tagg_35 : aggOf Try.prog 35 = some 2 := by kernel_rfl
theorem Tbool_4 : Try.prog.underlying 4 = some .bool := by kernel_rfl
theorem Tcall_24 : callable Try.prog 24 = true := by kernel_rfl
theorem Tcall_25 : callable Try.prog 25 = true := by kernel_rfl
theorem Tcall_26 : callable Try.prog 26 = true := by kernel_rfl
theorem Tcall_27 : callable Try.prog 27 = true := by kernel_rfl
theorem Tcall_28 : callable Try.prog 28 = true := by kernel_rfl
theorem Tsize_35 : (Try.prog.info? 35).map (·.size) = some 2 := by kernel_rfl
theorem Tzero_35 : zeroOf Try.prog 35 = some [.int .i64 0, .slice none 0 0] := by kernel_rfl
end L3T
open L3T
set_option maxHeartbeats 1000000 in
set_option maxRecDepth 20000 in
theorem law_spec {R : Int} {C : Int} {w : World} (Rw : In64 R) (Cw : In64 C) : Calls Try.prog 5 #[.int .i64 R, .int .i64 C] w (Post No w fun v _ => v = .bool true) := by
  have hlen := gridE_le R C
  refine enter (n := 68) (args := [.int .i64 R, .int .i64 C]) Try.func5 rfl rfl (St.empty _ _) ?_
  refine Run.seq ?_
  refine Run.region ?_
  refine Run.q (v := .bool false) rfl (OpQ.y (OpY.pure rfl)) ?_
  refine Run.done ?_
  refine Run.seq ?_
  refine Run.region ?_
  refine Run.q (v := .int .i64 R) rfl (OpQ.y (OpY.pure rfl)) ?_
  refine Run.q (v := .int .i64 C) rfl (OpQ.y (OpY.pure rfl)) ?_
  refine Run.step rfl (OpStep.call (vs := [.int .i64 R, .int .i64 C]) (caps := []) Tcall_25 rfl rfl (fun w hs => sGridGraph_spec _ _ w) ?_)
  rintro _ _ ⟨u1, rfl, rfl⟩
  show Run _ _ (putF _ _ _ (.tuple #[.agg #[.int .i64 (gridN R C), u1], .bool (gridOk R C)])) [.own u1 100 2 ((gridE R C).length) (ints (fl2 (gridE R C)))]
  refine Run.q (v := .tuple #[.agg #[.int .i64 (gridN R C), u1], .bool (gridOk R C)]) rfl (OpQ.y (OpY.pure rfl)) ?_
  refine Run.q (v := .agg #[.int .i64 (gridN R C), u1]) rfl (OpQ.y (OpY.pure rfl)) ?_
  refine Run.q (v := .bool (gridOk R C)) rfl (OpQ.y (OpY.pure rfl)) ?_
  refine Run.step rfl (OpStep.alloc (zs := [.int .i64 0, .slice none 0 0]) Tzero_35 fun b1 => ?_)
  refine Run.formOwn (.tail _ (List.Mem.head _)) (fun A_u11 c_u11 hv hcapc_u11 hmaxc_u11 => ?_) (fun _ _ _ => ⟨nofun, nofun, nofun⟩)
  subst hv
  refine Run.step rfl (OpStep.storeAll (us := [.int .i64 (gridN R C), .slice A_u11 ((gridE R C).length) c_u11]) Tsize_35 rfl rfl rfl (.here _) rfl ?_)
  refine Run.q (v := .bool (gridOk R C)) rfl (OpQ.y (OpY.pure rfl)) ?_
  refine Run.done ?_
  refine Run.seq ?_
  refine Run.region ?_
  refine Run.q (v := .int .i64 R) rfl (OpQ.y (OpY.pure rfl)) ?_
  refine Run.q (v := .int .i64 C) rfl (OpQ.y (OpY.pure rfl)) ?_
  refine Run.step rfl (OpStep.call (vs := [.int .i64 R, .int .i64 C]) (caps := []) Tcall_26 rfl rfl (fun w hs => GridGraph_spec _ _ w) ?_)
  rintro _ _ ⟨u2, rfl, rfl⟩
  show Run _ _ (putF _ _ _ (.tuple #[.agg #[.int .i64 (gridN R C), u2], .bool (gridOk R C)])) [.own u2 100 2 ((gridE R C).length) (ints (fl2 (gridE R C))), .blk b1 35 [.int .i64 (gridN R C), .slice A_u11 ((gridE R C).length) c_u11], .own (.slice A_u11 ((gridE R C).length) c_u11) 100 2 ((gridE R C).length) (ints (fl2 (gridE R C)))]
  refine Run.q (v := .tuple #[.agg #[.int .i64 (gridN R C), u2], .bool (gridOk R C)]) rfl (OpQ.y (OpY.pure rfl)) ?_
  refine Run.q (v := .agg #[.int .i64 (gridN R C), u2]) rfl (OpQ.y (OpY.pure rfl)) ?_
  refine Run.q (v := .bool (gridOk R C)) rfl (OpQ.y (OpY.pure rfl)) ?_
  refine Run.step rfl (OpStep.alloc (zs := [.int .i64 0, .slice none 0 0]) Tzero_35 fun b2 => ?_)
  refine Run.formOwn (.tail _ (List.Mem.head _)) (fun A_u21 c_u21 hv hcapc_u21 hmaxc_u21 => ?_) (fun _ _ _ => ⟨nofun, nofun, nofun⟩)
  subst hv
  refine Run.step rfl (OpStep.storeAll (us := [.int .i64 (gridN R C), .slice A_u21 ((gridE R C).length) c_u21]) Tsize_35 rfl rfl rfl (.here _) rfl ?_)
  refine Run.q (v := .bool (gridOk R C)) rfl (OpQ.y (OpY.pure rfl)) ?_
  refine Run.done ?_
  refine Run.seq ?_
  refine Run.seq ?_
  refine Run.region ?_
  refine Run.q (v := .agg #[.int .i64 (gridN R C), .slice A_u21 ((gridE R C).length) c_u21]) rfl (OpQ.y (OpY.loadN (cs := [.int .i64 (gridN R C), .slice A_u21 ((gridE R C).length) c_u21]) Tagg_35 rfl (Cells.blk (.head _) ⟨rfl, rfl, trivial⟩))) ?_
  refine Run.q (v := .agg #[.int .i64 (gridN R C), .slice A_u11 ((gridE R C).length) c_u11]) rfl (OpQ.y (OpY.loadN (cs := [.int .i64 (gridN R C), .slice A_u11 ((gridE R C).length) c_u11]) Tagg_35 rfl (Cells.blk (.tail _ (.tail _ (List.Mem.head _))) ⟨rfl, rfl, trivial⟩))) ?_
  refine Run.q (v := .bool true) rfl (OpQ.call (vs := [.agg #[.int .i64 (gridN R C), .slice A_u21 ((gridE R C).length) c_u21], .agg #[.int .i64 (gridN R C), .slice A_u11 ((gridE R C).length) c_u11]]) (caps := []) Tcall_24 rfl rfl (fun w hs => eqCouplingGraph_true (hs.slOwn (.tail _ (List.Mem.head _))) (hs.slOwn (.tail _ (.tail _ (.tail _ (List.Mem.head _))))))) ?_
  refine Run.q (v := .bool false) rfl (OpQ.y (OpY.pure rfl)) ?_
  refine Run.q (v := .bool false) rfl (OpQ.y (OpY.pure rfl)) ?_
  refine Run.q (v := .bool (gridOk R C)) rfl (OpQ.y (OpY.pure rfl)) ?_
  refine Run.q (v := .bool (gridOk R C)) rfl (OpQ.y (OpY.pure rfl)) ?_
  refine Run.q (v := .bool false) rfl (OpQ.y (OpY.neqBSame Tbool_4 rfl rfl rfl)) ?_
  refine Run.q (v := .bool false) rfl (OpQ.y (OpY.pure rfl)) ?_
  refine Run.done ?_
  refine Run.cond (b := false) rfl (fun h => nomatch h) (fun _ => ?_)
  refine Run.skip ?_
  refine Run.seq ?_
  refine Run.region ?_
  refine Run.q (v := .int .i64 1) rfl (OpQ.y (OpY.pure rfl)) ?_
  refine Run.done ?_
  refine Run.seq ?_
  refine Run.region ?_
  refine Run.q (v := .agg #[.int .i64 (gridN R C), .slice A_u21 ((gridE R C).length) c_u21]) rfl (OpQ.y (OpY.loadN (cs := [.int .i64 (gridN R C), .slice A_u21 ((gridE R C).length) c_u21]) Tagg_35 rfl (Cells.blk (.head _) ⟨rfl, rfl, trivial⟩))) ?_
  refine Run.q (v := .int .i64 1) rfl (OpQ.y (OpY.pure rfl)) ?_
  refine Run.step rfl (OpStep.callM (H1 := [.own (.slice A_u21 ((gridE R C).length) c_u21) 100 2 ((gridE R C).length) (ints (fl2 (gridE R C)))]) (H2 := [.blk b2 35 [.int .i64 (gridN R C), .slice A_u21 ((gridE R C).length) c_u21], .blk b1 35 [.int .i64 (gridN R C), .slice A_u11 ((gridE R C).length) c_u11], .own (.slice A_u11 ((gridE R C).length) c_u11) 100 2 ((gridE R C).length) (ints (fl2 (gridE R C)))]) (vs := [.agg #[.int .i64 (gridN R C), .slice A_u21 ((gridE R C).length) c_u21], .int .i64 1]) (caps := []) Tcall_27 rfl rfl (Weak.front [.blk b2 35 [.int .i64 (gridN R C), .slice A_u21 ((gridE R C).length) c_u21]] (.own (.slice A_u21 ((gridE R C).length) c_u21) 100 2 ((gridE R C).length) (ints (fl2 (gridE R C)))) [.blk b1 35 [.int .i64 (gridN R C), .slice A_u11 ((gridE R C).length) c_u11], .own (.slice A_u11 ((gridE R C).length) c_u11) 100 2 ((gridE R C).length) (ints (fl2 (gridE R C)))]) (fun w hs => markCouplingGraph_spec (hs.sub (List.sublist_append_left _ _)).self (by omega) (by omega)) ?_)
  rintro _ _ ⟨rfl, rfl⟩
  show Run _ _ (putF _ _ _ (.int .i64 (1 + (((gridE R C).length : Nat) : Int) * 2))) [.own (.slice A_u21 ((gridE R C).length) c_u21) 100 2 ((gridE R C).length) (ints (mks 1 (((gridE R C).length) * 2))), .blk b2 35 [.int .i64 (gridN R C), .slice A_u21 ((gridE R C).length) c_u21], .blk b1 35 [.int .i64 (gridN R C), .slice A_u11 ((gridE R C).length) c_u11], .own (.slice A_u11 ((gridE R C).length) c_u11) 100 2 ((gridE R C).length) (ints (fl2 (gridE R C)))]
  refine Run.q (v := .int .i64 (1 + (((gridE R C).length : Nat) : Int) * 2)) rfl (OpQ.y (OpY.pure rfl)) ?_
  refine Run.done ?_
  refine Run.seq ?_
  refine Run.region ?_
  refine Run.q (v := .int .i64 1) rfl (OpQ.y (OpY.pure rfl)) ?_
  refine Run.done ?_
  refine Run.seq ?_
  refine Run.region ?_
  refine Run.q (v := .agg #[.int .i64 (gridN R C), .slice A_u21 ((gridE R C).length) c_u21]) rfl (OpQ.y (OpY.loadN (cs := [.int .i64 (gridN R C), .slice A_u21 ((gridE R C).length) c_u21]) Tagg_35 rfl (Cells.blk (.tail _ (List.Mem.head _)) ⟨rfl, rfl, trivial⟩))) ?_
  refine Run.q (v := .int .i64 1) rfl (OpQ.y (OpY.pure rfl)) ?_
  refine Run.q (v := .int .i64 (1 + (((gridE R C).length : Nat) : Int) * 2)) rfl (OpQ.call (vs := [.agg #[.int .i64 (gridN R C), .slice A_u21 ((gridE R C).length) c_u21], .int .i64 1]) (caps := []) Tcall_28 rfl rfl (fun w hs => heldCouplingGraph_true (hs.slOwn (.head _)) (by omega) (by omega) rfl)) ?_
  refine Run.q (v := .int .i64 (1 + (((gridE R C).length : Nat) : Int) * 2)) rfl (OpQ.y (OpY.pure rfl)) ?_
  refine Run.done ?_
  refine Run.seq ?_
  refine Run.seq ?_
  refine Run.region ?_
  refine Run.q (v := .int .i64 (1 + (((gridE R C).length : Nat) : Int) * 2)) rfl (OpQ.y (OpY.pure rfl)) ?_
  refine Run.q (v := .bool (decide ((1 + (((gridE R C).length : Nat) : Int) * 2) < 0))) rfl (OpQ.y (OpY.pure rfl)) ?_
  refine Run.done ?_
  refine Run.cond (b := decide ((1 + (((gridE R C).length : Nat) : Int) * 2) < 0)) rfl (fun h41 => ?_) (fun h41 => ?_)
  · have p41 := h41; try simp only [decide_eq_true_eq, decide_eq_false_iff_not, beq_iff_eq, bne_iff_ne, beq_eq_false_iff_ne, ne_eq, gt_iff_lt, ge_iff_le, Int.not_lt, Int.not_le, bne_eq_false_iff_eq, Bool.not_eq_true', Bool.not_eq_false', Bool.and_eq_true, Bool.and_eq_false_iff, Bool.or_eq_true, Bool.or_eq_false_iff, Decidable.not_not] at p41
    exact absurd h41 (by simp <;> omega) --DONE
  · have p41 := h41; try simp only [decide_eq_true_eq, decide_eq_false_iff_not, beq_iff_eq, bne_iff_ne, beq_eq_false_iff_ne, ne_eq, gt_iff_lt, ge_iff_le, Int.not_lt, Int.not_le, bne_eq_false_iff_eq, Bool.not_eq_true', Bool.not_eq_false', Bool.and_eq_true, Bool.and_eq_false_iff, Bool.or_eq_true, Bool.or_eq_false_iff, Decidable.not_not] at p41
    refine Run.skip ?_
    refine Run.seq ?_
    refine Run.seq ?_
    refine Run.region ?_
    refine Run.q (v := .int .i64 (1 + (((gridE R C).length : Nat) : Int) * 2)) rfl (OpQ.y (OpY.pure rfl)) ?_
    refine Run.q (v := .int .i64 (1 + (((gridE R C).length : Nat) : Int) * 2)) rfl (OpQ.y (OpY.pure rfl)) ?_
    refine Run.q (v := .bool false) rfl (OpQ.y (OpY.neqSame rfl rfl rfl)) ?_
    refine Run.done ?_
    refine Run.cond (b := false) rfl (fun h => nomatch h) (fun _ => ?_)
    refine Run.skip ?_
    refine Run.seq ?_
    refine Run.region ?_
    refine Run.q (v := .int .i64 R) rfl (OpQ.y (OpY.pure rfl)) ?_
    refine Run.q (v := .int .i64 C) rfl (OpQ.y (OpY.pure rfl)) ?_
    refine Run.step rfl (OpStep.call (vs := [.int .i64 R, .int .i64 C]) (caps := []) Tcall_26 rfl rfl (fun w hs => GridGraph_spec _ _ w) ?_)
    rintro _ _ ⟨u3, rfl, rfl⟩
    show Run _ _ (putF _ _ _ (.tuple #[.agg #[.int .i64 (gridN R C), u3], .bool (gridOk R C)])) [.own u3 100 2 ((gridE R C).length) (ints (fl2 (gridE R C))), .own (.slice A_u21 ((gridE R C).length) c_u21) 100 2 ((gridE R C).length) (ints (mks 1 (((gridE R C).length) * 2))), .blk b2 35 [.int .i64 (gridN R C), .slice A_u21 ((gridE R C).length) c_u21], .blk b1 35 [.int .i64 (gridN R C), .slice A_u11 ((gridE R C).length) c_u11], .own (.slice A_u11 ((gridE R C).length) c_u11) 100 2 ((gridE R C).length) (ints (fl2 (gridE R C)))]
    refine Run.q (v := .tuple #[.agg #[.int .i64 (gridN R C), u3], .bool (gridOk R C)]) rfl (OpQ.y (OpY.pure rfl)) ?_
    refine Run.q (v := .agg #[.int .i64 (gridN R C), u3]) rfl (OpQ.y (OpY.pure rfl)) ?_
    refine Run.q (v := .bool (gridOk R C)) rfl (OpQ.y (OpY.pure rfl)) ?_
    refine Run.step rfl (OpStep.alloc (zs := [.int .i64 0, .slice none 0 0]) Tzero_35 fun b3 => ?_)
    refine Run.formOwn (.tail _ (List.Mem.head _)) (fun A_u31 c_u31 hv hcapc_u31 hmaxc_u31 => ?_) (fun _ _ _ => ⟨nofun, nofun, nofun⟩)
    subst hv
    refine Run.step rfl (OpStep.storeAll (us := [.int .i64 (gridN R C), .slice A_u31 ((gridE R C).length) c_u31]) Tsize_35 rfl rfl rfl (.here _) rfl ?_)
    refine Run.q (v := .bool (gridOk R C)) rfl (OpQ.y (OpY.pure rfl)) ?_
    refine Run.done ?_
    refine Run.seq ?_
    refine Run.seq ?_
    refine Run.region ?_
    refine Run.q (v := .agg #[.int .i64 (gridN R C), .slice A_u31 ((gridE R C).length) c_u31]) rfl (OpQ.y (OpY.loadN (cs := [.int .i64 (gridN R C), .slice A_u31 ((gridE R C).length) c_u31]) Tagg_35 rfl (Cells.blk (.head _) ⟨rfl, rfl, trivial⟩))) ?_
    refine Run.q (v := .agg #[.int .i64 (gridN R C), .slice A_u11 ((gridE R C).length) c_u11]) rfl (OpQ.y (OpY.loadN (cs := [.int .i64 (gridN R C), .slice A_u11 ((gridE R C).length) c_u11]) Tagg_35 rfl (Cells.blk (.tail _ (.tail _ (.tail _ (.tail _ (List.Mem.head _))))) ⟨rfl, rfl, trivial⟩))) ?_
    refine Run.q (v := .bool true) rfl (OpQ.call (vs := [.agg #[.int .i64 (gridN R C), .slice A_u31 ((gridE R C).length) c_u31], .agg #[.int .i64 (gridN R C), .slice A_u11 ((gridE R C).length) c_u11]]) (caps := []) Tcall_24 rfl rfl (fun w hs => eqCouplingGraph_true (hs.slOwn (.tail _ (List.Mem.head _))) (hs.slOwn (.tail _ (.tail _ (.tail _ (.tail _ (.tail _ (List.Mem.head _))))))))) ?_
    refine Run.q (v := .bool false) rfl (OpQ.y (OpY.pure rfl)) ?_
    refine Run.q (v := .bool false) rfl (OpQ.y (OpY.pure rfl)) ?_
    refine Run.q (v := .bool (gridOk R C)) rfl (OpQ.y (OpY.pure rfl)) ?_
    refine Run.q (v := .bool (gridOk R C)) rfl (OpQ.y (OpY.pure rfl)) ?_
    refine Run.q (v := .bool false) rfl (OpQ.y (OpY.neqBSame Tbool_4 rfl rfl rfl)) ?_
    refine Run.q (v := .bool false) rfl (OpQ.y (OpY.pure rfl)) ?_
    refine Run.done ?_
    refine Run.cond (b := false) rfl (fun h => nomatch h) (fun _ => ?_)
    refine Run.skip ?_
    refine Run.seq ?_
    refine Run.region ?_
    refine Run.q (v := .int .i64 1) rfl (OpQ.y (OpY.pure rfl)) ?_
    refine Run.done ?_
    refine Run.seq ?_
    refine Run.region ?_
    refine Run.q (v := .agg #[.int .i64 (gridN R C), .slice A_u21 ((gridE R C).length) c_u21]) rfl (OpQ.y (OpY.loadN (cs := [.int .i64 (gridN R C), .slice A_u21 ((gridE R C).length) c_u21]) Tagg_35 rfl (Cells.blk (.tail _ (.tail _ (.tail _ (List.Mem.head _)))) ⟨rfl, rfl, trivial⟩))) ?_
    refine Run.q (v := .int .i64 1) rfl (OpQ.y (OpY.pure rfl)) ?_
    refine Run.q (v := .int .i64 (1 + (((gridE R C).length : Nat) : Int) * 2)) rfl (OpQ.call (vs := [.agg #[.int .i64 (gridN R C), .slice A_u21 ((gridE R C).length) c_u21], .int .i64 1]) (caps := []) Tcall_28 rfl rfl (fun w hs => heldCouplingGraph_true (hs.slOwn (.tail _ (.tail _ (List.Mem.head _)))) (by omega) (by omega) rfl)) ?_
    refine Run.q (v := .int .i64 (1 + (((gridE R C).length : Nat) : Int) * 2)) rfl (OpQ.y (OpY.pure rfl)) ?_
    refine Run.done ?_
    refine Run.seq ?_
    refine Run.seq ?_
    refine Run.region ?_
    refine Run.q (v := .int .i64 (1 + (((gridE R C).length : Nat) : Int) * 2)) rfl (OpQ.y (OpY.pure rfl)) ?_
    refine Run.q (v := .bool (decide ((1 + (((gridE R C).length : Nat) : Int) * 2) < 0))) rfl (OpQ.y (OpY.pure rfl)) ?_
    refine Run.done ?_
    refine Run.cond (b := decide ((1 + (((gridE R C).length : Nat) : Int) * 2) < 0)) rfl (fun h64 => ?_) (fun h64 => ?_)
    · have p64 := h64; try simp only [decide_eq_true_eq, decide_eq_false_iff_not, beq_iff_eq, bne_iff_ne, beq_eq_false_iff_ne, ne_eq, gt_iff_lt, ge_iff_le, Int.not_lt, Int.not_le, bne_eq_false_iff_eq, Bool.not_eq_true', Bool.not_eq_false', Bool.and_eq_true, Bool.and_eq_false_iff, Bool.or_eq_true, Bool.or_eq_false_iff, Decidable.not_not] at p64
      exact absurd h64 (by simp <;> omega) --DONE
    · have p64 := h64; try simp only [decide_eq_true_eq, decide_eq_false_iff_not, beq_iff_eq, bne_iff_ne, beq_eq_false_iff_ne, ne_eq, gt_iff_lt, ge_iff_le, Int.not_lt, Int.not_le, bne_eq_false_iff_eq, Bool.not_eq_true', Bool.not_eq_false', Bool.and_eq_true, Bool.and_eq_false_iff, Bool.or_eq_true, Bool.or_eq_false_iff, Decidable.not_not] at p64
      refine Run.skip ?_
      refine Run.seq ?_
      refine Run.seq ?_
      refine Run.region ?_
      refine Run.q (v := .int .i64 (1 + (((gridE R C).length : Nat) : Int) * 2)) rfl (OpQ.y (OpY.pure rfl)) ?_
      refine Run.q (v := .int .i64 (1 + (((gridE R C).length : Nat) : Int) * 2)) rfl (OpQ.y (OpY.pure rfl)) ?_
      refine Run.q (v := .bool false) rfl (OpQ.y (OpY.neqSame rfl rfl rfl)) ?_
      refine Run.done ?_
      refine Run.cond (b := false) rfl (fun h => nomatch h) (fun _ => ?_)
      refine Run.skip ?_
      refine Run.seq ?_
      refine Run.region ?_
      refine Run.q (v := .bool true) rfl (OpQ.y (OpY.pure rfl)) ?_
      refine Run.done ?_
      refine Run.ret ?_
      refine ⟨.bool true, [], Out.one rfl rfl, (Some'.weak (.nil _)), ?_⟩
      rfl

end Go.Proofs.Ytgoaoifnckhdlaa
