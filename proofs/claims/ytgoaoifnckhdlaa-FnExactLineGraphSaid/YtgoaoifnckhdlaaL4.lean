/- The walk of the law FnExactLineGraph. -/
import Derived.Test.YtgoaoifnckhdlaaGr
import Derived.Test.YtgoaoifnckhdlaaProg
set_option linter.unusedSimpArgs false
set_option linter.unusedVariables false
namespace Go.Proofs.Ytgoaoifnckhdlaa
open Go Go.RowKit
namespace L4T
theorem Tagg_35 : aggOf Try.prog 35 = some 2 := by kernel_rfl
theorem Tbool_4 : Try.prog.underlying 4 = some .bool := by kernel_rfl
theorem Tcall_24 : callable Try.prog 24 = true := by kernel_rfl
theorem Tcall_27 : callable Try.prog 27 = true := by kernel_rfl
theorem Tcall_28 : callable Try.prog 28 = true := by kernel_rfl
theorem Tcall_29 : callable Try.prog 29 = true := by kernel_rfl
theorem Tcall_30 : callable Try.prog 30 = true := by kernel_rfl
theorem Tsize_35 : (Try.prog.info? 35).map (·.size) = some 2 := by kernel_rfl
theorem Tzero_35 : zeroOf Try.prog 35 = some [.int .i64 0, .slice none 0 0] := by kernel_rfl
end L4T
open L4T
set_option maxHeartbeats 1000000 in
set_option maxRecDepth 20000 in
theorem law_spec {n : Int} {w : World} (nw : In64 n) : Calls Try.prog 6 #[.int .i64 n] w (Post No w fun v _ => v = .bool true) := by
  have hlen := gridE_le 1 n
  refine enter (n := 63) (args := [.int .i64 n]) Try.func6 rfl rfl (St.empty _ _) ?_
  refine Run.seq ?_
  refine Run.region ?_
  refine Run.q (v := .bool false) rfl (OpQ.y (OpY.pure rfl)) ?_
  refine Run.done ?_
  refine Run.seq ?_
  refine Run.region ?_
  refine Run.q (v := .int .i64 n) rfl (OpQ.y (OpY.pure rfl)) ?_
  refine Run.step rfl (OpStep.call (vs := [.int .i64 n]) (caps := []) Tcall_29 rfl rfl (fun w hs => sLineGraph_spec _ w) ?_)
  rintro _ _ ⟨u1, rfl, rfl⟩
  show Run _ _ (putF _ _ _ (.tuple #[.agg #[.int .i64 (gridN 1 n), u1], .bool (gridOk 1 n)])) [.own u1 100 2 ((gridE 1 n).length) (ints (fl2 (gridE 1 n)))]
  refine Run.q (v := .tuple #[.agg #[.int .i64 (gridN 1 n), u1], .bool (gridOk 1 n)]) rfl (OpQ.y (OpY.pure rfl)) ?_
  refine Run.q (v := .agg #[.int .i64 (gridN 1 n), u1]) rfl (OpQ.y (OpY.pure rfl)) ?_
  refine Run.q (v := .bool (gridOk 1 n)) rfl (OpQ.y (OpY.pure rfl)) ?_
  refine Run.step rfl (OpStep.alloc (zs := [.int .i64 0, .slice none 0 0]) Tzero_35 fun b1 => ?_)
  refine Run.formOwn (.tail _ (List.Mem.head _)) (fun A_u11 c_u11 hv hcapc_u11 hmaxc_u11 => ?_) (fun _ _ _ => ⟨nofun, nofun, nofun⟩)
  subst hv
  refine Run.step rfl (OpStep.storeAll (us := [.int .i64 (gridN 1 n), .slice A_u11 ((gridE 1 n).length) c_u11]) Tsize_35 rfl rfl rfl (.here _) rfl ?_)
  refine Run.q (v := .bool (gridOk 1 n)) rfl (OpQ.y (OpY.pure rfl)) ?_
  refine Run.done ?_
  refine Run.seq ?_
  refine Run.region ?_
  refine Run.q (v := .int .i64 n) rfl (OpQ.y (OpY.pure rfl)) ?_
  refine Run.step rfl (OpStep.call (vs := [.int .i64 n]) (caps := []) Tcall_30 rfl rfl (fun w hs => LineGraph_spec _ w) ?_)
  rintro _ _ ⟨u2, rfl, rfl⟩
  show Run _ _ (putF _ _ _ (.tuple #[.agg #[.int .i64 (gridN 1 n), u2], .bool (gridOk 1 n)])) [.own u2 100 2 ((gridE 1 n).length) (ints (fl2 (gridE 1 n))), .blk b1 35 [.int .i64 (gridN 1 n), .slice A_u11 ((gridE 1 n).length) c_u11], .own (.slice A_u11 ((gridE 1 n).length) c_u11) 100 2 ((gridE 1 n).length) (ints (fl2 (gridE 1 n)))]
  refine Run.q (v := .tuple #[.agg #[.int .i64 (gridN 1 n), u2], .bool (gridOk 1 n)]) rfl (OpQ.y (OpY.pure rfl)) ?_
  refine Run.q (v := .agg #[.int .i64 (gridN 1 n), u2]) rfl (OpQ.y (OpY.pure rfl)) ?_
  refine Run.q (v := .bool (gridOk 1 n)) rfl (OpQ.y (OpY.pure rfl)) ?_
  refine Run.step rfl (OpStep.alloc (zs := [.int .i64 0, .slice none 0 0]) Tzero_35 fun b2 => ?_)
  refine Run.formOwn (.tail _ (List.Mem.head _)) (fun A_u21 c_u21 hv hcapc_u21 hmaxc_u21 => ?_) (fun _ _ _ => ⟨nofun, nofun, nofun⟩)
  subst hv
  refine Run.step rfl (OpStep.storeAll (us := [.int .i64 (gridN 1 n), .slice A_u21 ((gridE 1 n).length) c_u21]) Tsize_35 rfl rfl rfl (.here _) rfl ?_)
  refine Run.q (v := .bool (gridOk 1 n)) rfl (OpQ.y (OpY.pure rfl)) ?_
  refine Run.done ?_
  refine Run.seq ?_
  refine Run.seq ?_
  refine Run.region ?_
  refine Run.q (v := .agg #[.int .i64 (gridN 1 n), .slice A_u21 ((gridE 1 n).length) c_u21]) rfl (OpQ.y (OpY.loadN (cs := [.int .i64 (gridN 1 n), .slice A_u21 ((gridE 1 n).length) c_u21]) Tagg_35 rfl (Cells.blk (.head _) ⟨rfl, rfl, trivial⟩))) ?_
  refine Run.q (v := .agg #[.int .i64 (gridN 1 n), .slice A_u11 ((gridE 1 n).length) c_u11]) rfl (OpQ.y (OpY.loadN (cs := [.int .i64 (gridN 1 n), .slice A_u11 ((gridE 1 n).length) c_u11]) Tagg_35 rfl (Cells.blk (.tail _ (.tail _ (List.Mem.head _))) ⟨rfl, rfl, trivial⟩))) ?_
  refine Run.q (v := .bool true) rfl (OpQ.call (vs := [.agg #[.int .i64 (gridN 1 n), .slice A_u21 ((gridE 1 n).length) c_u21], .agg #[.int .i64 (gridN 1 n), .slice A_u11 ((gridE 1 n).length) c_u11]]) (caps := []) Tcall_24 rfl rfl (fun w hs => eqCouplingGraph_true (hs.slOwn (.tail _ (List.Mem.head _))) (hs.slOwn (.tail _ (.tail _ (.tail _ (List.Mem.head _))))))) ?_
  refine Run.q (v := .bool false) rfl (OpQ.y (OpY.pure rfl)) ?_
  refine Run.q (v := .bool false) rfl (OpQ.y (OpY.pure rfl)) ?_
  refine Run.q (v := .bool (gridOk 1 n)) rfl (OpQ.y (OpY.pure rfl)) ?_
  refine Run.q (v := .bool (gridOk 1 n)) rfl (OpQ.y (OpY.pure rfl)) ?_
  refine Run.q (v := .bool false) rfl (OpQ.y (OpY.neqBSame Tbool_4 rfl rfl rfl)) ?_
  refine Run.q (v := .bool false) rfl (OpQ.y (OpY.pure rfl)) ?_
  refine Run.done ?_
  refine Run.cond (b := false) rfl (fun h => nomatch h) (fun _ => ?_)
  refine Run.skip ?_
  refine Run.seq ?_
  refine Run.region ?_
  refine Run.q (v := .int .i64 1) rfl (OpQ.y (OpY.pure rfl)) ?_
  refine Run.done ?_
  refine Run.seq ?_
  refine Run.region ?_
  refine Run.q (v := .agg #[.int .i64 (gridN 1 n), .slice A_u21 ((gridE 1 n).length) c_u21]) rfl (OpQ.y (OpY.loadN (cs := [.int .i64 (gridN 1 n), .slice A_u21 ((gridE 1 n).length) c_u21]) Tagg_35 rfl (Cells.blk (.head _) ⟨rfl, rfl, trivial⟩))) ?_
  refine Run.q (v := .int .i64 1) rfl (OpQ.y (OpY.pure rfl)) ?_
  refine Run.step rfl (OpStep.callM (H1 := [.own (.slice A_u21 ((gridE 1 n).length) c_u21) 100 2 ((gridE 1 n).length) (ints (fl2 (gridE 1 n)))]) (H2 := [.blk b2 35 [.int .i64 (gridN 1 n), .slice A_u21 ((gridE 1 n).length) c_u21], .blk b1 35 [.int .i64 (gridN 1 n), .slice A_u11 ((gridE 1 n).length) c_u11], .own (.slice A_u11 ((gridE 1 n).length) c_u11) 100 2 ((gridE 1 n).length) (ints (fl2 (gridE 1 n)))]) (vs := [.agg #[.int .i64 (gridN 1 n), .slice A_u21 ((gridE 1 n).length) c_u21], .int .i64 1]) (caps := []) Tcall_27 rfl rfl (Weak.front [.blk b2 35 [.int .i64 (gridN 1 n), .slice A_u21 ((gridE 1 n).length) c_u21]] (.own (.slice A_u21 ((gridE 1 n).length) c_u21) 100 2 ((gridE 1 n).length) (ints (fl2 (gridE 1 n)))) [.blk b1 35 [.int .i64 (gridN 1 n), .slice A_u11 ((gridE 1 n).length) c_u11], .own (.slice A_u11 ((gridE 1 n).length) c_u11) 100 2 ((gridE 1 n).length) (ints (fl2 (gridE 1 n)))]) (fun w hs => markCouplingGraph_spec (hs.sub (List.sublist_append_left _ _)).self (by omega) (by omega)) ?_)
  rintro _ _ ⟨rfl, rfl⟩
  show Run _ _ (putF _ _ _ (.int .i64 (1 + (((gridE 1 n).length : Nat) : Int) * 2))) [.own (.slice A_u21 ((gridE 1 n).length) c_u21) 100 2 ((gridE 1 n).length) (ints (mks 1 (((gridE 1 n).length) * 2))), .blk b2 35 [.int .i64 (gridN 1 n), .slice A_u21 ((gridE 1 n).length) c_u21], .blk b1 35 [.int .i64 (gridN 1 n), .slice A_u11 ((gridE 1 n).length) c_u11], .own (.slice A_u11 ((gridE 1 n).length) c_u11) 100 2 ((gridE 1 n).length) (ints (fl2 (gridE 1 n)))]
  refine Run.q (v := .int .i64 (1 + (((gridE 1 n).length : Nat) : Int) * 2)) rfl (OpQ.y (OpY.pure rfl)) ?_
  refine Run.done ?_
  refine Run.seq ?_
  refine Run.region ?_
  refine Run.q (v := .int .i64 1) rfl (OpQ.y (OpY.pure rfl)) ?_
  refine Run.done ?_
  refine Run.seq ?_
  refine Run.region ?_
  refine Run.q (v := .agg #[.int .i64 (gridN 1 n), .slice A_u21 ((gridE 1 n).length) c_u21]) rfl (OpQ.y (OpY.loadN (cs := [.int .i64 (gridN 1 n), .slice A_u21 ((gridE 1 n).length) c_u21]) Tagg_35 rfl (Cells.blk (.tail _ (List.Mem.head _)) ⟨rfl, rfl, trivial⟩))) ?_
  refine Run.q (v := .int .i64 1) rfl (OpQ.y (OpY.pure rfl)) ?_
  refine Run.q (v := .int .i64 (1 + (((gridE 1 n).length : Nat) : Int) * 2)) rfl (OpQ.call (vs := [.agg #[.int .i64 (gridN 1 n), .slice A_u21 ((gridE 1 n).length) c_u21], .int .i64 1]) (caps := []) Tcall_28 rfl rfl (fun w hs => heldCouplingGraph_true (hs.slOwn (.head _)) (by omega) (by omega) rfl)) ?_
  refine Run.q (v := .int .i64 (1 + (((gridE 1 n).length : Nat) : Int) * 2)) rfl (OpQ.y (OpY.pure rfl)) ?_
  refine Run.done ?_
  refine Run.seq ?_
  refine Run.seq ?_
  refine Run.region ?_
  refine Run.q (v := .int .i64 (1 + (((gridE 1 n).length : Nat) : Int) * 2)) rfl (OpQ.y (OpY.pure rfl)) ?_
  refine Run.q (v := .bool (decide ((1 + (((gridE 1 n).length : Nat) : Int) * 2) < 0))) rfl (OpQ.y (OpY.pure rfl)) ?_
  refine Run.done ?_
  refine Run.cond (b := decide ((1 + (((gridE 1 n).length : Nat) : Int) * 2) < 0)) rfl (fun h37 => ?_) (fun h37 => ?_)
  · have p37 := h37; try simp only [decide_eq_true_eq, decide_eq_false_iff_not, beq_iff_eq, bne_iff_ne, beq_eq_false_iff_ne, ne_eq, gt_iff_lt, ge_iff_le, Int.not_lt, Int.not_le, bne_eq_false_iff_eq, Bool.not_eq_true', Bool.not_eq_false', Bool.and_eq_true, Bool.and_eq_false_iff, Bool.or_eq_true, Bool.or_eq_false_iff, Decidable.not_not] at p37
    exact absurd h37 (by simp <;> omega) --DONE
  · have p37 := h37; try simp only [decide_eq_true_eq, decide_eq_false_iff_not, beq_iff_eq, bne_iff_ne, beq_eq_false_iff_ne, ne_eq, gt_iff_lt, ge_iff_le, Int.not_lt, Int.not_le, bne_eq_false_iff_eq, Bool.not_eq_true', Bool.not_eq_false', Bool.and_eq_true, Bool.and_eq_false_iff, Bool.or_eq_true, Bool.or_eq_false_iff, Decidable.not_not] at p37
    refine Run.skip ?_
    refine Run.seq ?_
    refine Run.seq ?_
    refine Run.region ?_
    refine Run.q (v := .int .i64 (1 + (((gridE 1 n).length : Nat) : Int) * 2)) rfl (OpQ.y (OpY.pure rfl)) ?_
    refine Run.q (v := .int .i64 (1 + (((gridE 1 n).length : Nat) : Int) * 2)) rfl (OpQ.y (OpY.pure rfl)) ?_
    refine Run.q (v := .bool false) rfl (OpQ.y (OpY.neqSame rfl rfl rfl)) ?_
    refine Run.done ?_
    refine Run.cond (b := false) rfl (fun h => nomatch h) (fun _ => ?_)
    refine Run.skip ?_
    refine Run.seq ?_
    refine Run.region ?_
    refine Run.q (v := .int .i64 n) rfl (OpQ.y (OpY.pure rfl)) ?_
    refine Run.step rfl (OpStep.call (vs := [.int .i64 n]) (caps := []) Tcall_30 rfl rfl (fun w hs => LineGraph_spec _ w) ?_)
    rintro _ _ ⟨u3, rfl, rfl⟩
    show Run _ _ (putF _ _ _ (.tuple #[.agg #[.int .i64 (gridN 1 n), u3], .bool (gridOk 1 n)])) [.own u3 100 2 ((gridE 1 n).length) (ints (fl2 (gridE 1 n))), .own (.slice A_u21 ((gridE 1 n).length) c_u21) 100 2 ((gridE 1 n).length) (ints (mks 1 (((gridE 1 n).length) * 2))), .blk b2 35 [.int .i64 (gridN 1 n), .slice A_u21 ((gridE 1 n).length) c_u21], .blk b1 35 [.int .i64 (gridN 1 n), .slice A_u11 ((gridE 1 n).length) c_u11], .own (.slice A_u11 ((gridE 1 n).length) c_u11) 100 2 ((gridE 1 n).length) (ints (fl2 (gridE 1 n)))]
    refine Run.q (v := .tuple #[.agg #[.int .i64 (gridN 1 n), u3], .bool (gridOk 1 n)]) rfl (OpQ.y (OpY.pure rfl)) ?_
    refine Run.q (v := .agg #[.int .i64 (gridN 1 n), u3]) rfl (OpQ.y (OpY.pure rfl)) ?_
    refine Run.q (v := .bool (gridOk 1 n)) rfl (OpQ.y (OpY.pure rfl)) ?_
    refine Run.step rfl (OpStep.alloc (zs := [.int .i64 0, .slice none 0 0]) Tzero_35 fun b3 => ?_)
    refine Run.formOwn (.tail _ (List.Mem.head _)) (fun A_u31 c_u31 hv hcapc_u31 hmaxc_u31 => ?_) (fun _ _ _ => ⟨nofun, nofun, nofun⟩)
    subst hv
    refine Run.step rfl (OpStep.storeAll (us := [.int .i64 (gridN 1 n), .slice A_u31 ((gridE 1 n).length) c_u31]) Tsize_35 rfl rfl rfl (.here _) rfl ?_)
    refine Run.q (v := .bool (gridOk 1 n)) rfl (OpQ.y (OpY.pure rfl)) ?_
    refine Run.done ?_
    refine Run.seq ?_
    refine Run.seq ?_
    refine Run.region ?_
    refine Run.q (v := .agg #[.int .i64 (gridN 1 n), .slice A_u31 ((gridE 1 n).length) c_u31]) rfl (OpQ.y (OpY.loadN (cs := [.int .i64 (gridN 1 n), .slice A_u31 ((gridE 1 n).length) c_u31]) Tagg_35 rfl (Cells.blk (.head _) ⟨rfl, rfl, trivial⟩))) ?_
    refine Run.q (v := .agg #[.int .i64 (gridN 1 n), .slice A_u11 ((gridE 1 n).length) c_u11]) rfl (OpQ.y (OpY.loadN (cs := [.int .i64 (gridN 1 n), .slice A_u11 ((gridE 1 n).length) c_u11]) Tagg_35 rfl (Cells.blk (.tail _ (.tail _ (.tail _ (.tail _ (List.Mem.head _))))) ⟨rfl, rfl, trivial⟩))) ?_
    refine Run.q (v := .bool true) rfl (OpQ.call (vs := [.agg #[.int .i64 (gridN 1 n), .slice A_u31 ((gridE 1 n).length) c_u31], .agg #[.int .i64 (gridN 1 n), .slice A_u11 ((gridE 1 n).length) c_u11]]) (caps := []) Tcall_24 rfl rfl (fun w hs => eqCouplingGraph_true (hs.slOwn (.tail _ (List.Mem.head _))) (hs.slOwn (.tail _ (.tail _ (.tail _ (.tail _ (.tail _ (List.Mem.head _))))))))) ?_
    refine Run.q (v := .bool false) rfl (OpQ.y (OpY.pure rfl)) ?_
    refine Run.q (v := .bool false) rfl (OpQ.y (OpY.pure rfl)) ?_
    refine Run.q (v := .bool (gridOk 1 n)) rfl (OpQ.y (OpY.pure rfl)) ?_
    refine Run.q (v := .bool (gridOk 1 n)) rfl (OpQ.y (OpY.pure rfl)) ?_
    refine Run.q (v := .bool false) rfl (OpQ.y (OpY.neqBSame Tbool_4 rfl rfl rfl)) ?_
    refine Run.q (v := .bool false) rfl (OpQ.y (OpY.pure rfl)) ?_
    refine Run.done ?_
    refine Run.cond (b := false) rfl (fun h => nomatch h) (fun _ => ?_)
    refine Run.skip ?_
    refine Run.seq ?_
    refine Run.region ?_
    refine Run.q (v := .int .i64 1) rfl (OpQ.y (OpY.pure rfl)) ?_
    refine Run.done ?_
    refine Run.seq ?_
    refine Run.region ?_
    refine Run.q (v := .agg #[.int .i64 (gridN 1 n), .slice A_u21 ((gridE 1 n).length) c_u21]) rfl (OpQ.y (OpY.loadN (cs := [.int .i64 (gridN 1 n), .slice A_u21 ((gridE 1 n).length) c_u21]) Tagg_35 rfl (Cells.blk (.tail _ (.tail _ (.tail _ (List.Mem.head _)))) ⟨rfl, rfl, trivial⟩))) ?_
    refine Run.q (v := .int .i64 1) rfl (OpQ.y (OpY.pure rfl)) ?_
    refine Run.q (v := .int .i64 (1 + (((gridE 1 n).length : Nat) : Int) * 2)) rfl (OpQ.call (vs := [.agg #[.int .i64 (gridN 1 n), .slice A_u21 ((gridE 1 n).length) c_u21], .int .i64 1]) (caps := []) Tcall_28 rfl rfl (fun w hs => heldCouplingGraph_true (hs.slOwn (.tail _ (.tail _ (List.Mem.head _)))) (by omega) (by omega) rfl)) ?_
    refine Run.q (v := .int .i64 (1 + (((gridE 1 n).length : Nat) : Int) * 2)) rfl (OpQ.y (OpY.pure rfl)) ?_
    refine Run.done ?_
    refine Run.seq ?_
    refine Run.seq ?_
    refine Run.region ?_
    refine Run.q (v := .int .i64 (1 + (((gridE 1 n).length : Nat) : Int) * 2)) rfl (OpQ.y (OpY.pure rfl)) ?_
    refine Run.q (v := .bool (decide ((1 + (((gridE 1 n).length : Nat) : Int) * 2) < 0))) rfl (OpQ.y (OpY.pure rfl)) ?_
    refine Run.done ?_
    refine Run.cond (b := decide ((1 + (((gridE 1 n).length : Nat) : Int) * 2) < 0)) rfl (fun h59 => ?_) (fun h59 => ?_)
    · have p59 := h59; try simp only [decide_eq_true_eq, decide_eq_false_iff_not, beq_iff_eq, bne_iff_ne, beq_eq_false_iff_ne, ne_eq, gt_iff_lt, ge_iff_le, Int.not_lt, Int.not_le, bne_eq_false_iff_eq, Bool.not_eq_true', Bool.not_eq_false', Bool.and_eq_true, Bool.and_eq_false_iff, Bool.or_eq_true, Bool.or_eq_false_iff, Decidable.not_not] at p59
      exact absurd h59 (by simp <;> omega) --DONE
    · have p59 := h59; try simp only [decide_eq_true_eq, decide_eq_false_iff_not, beq_iff_eq, bne_iff_ne, beq_eq_false_iff_ne, ne_eq, gt_iff_lt, ge_iff_le, Int.not_lt, Int.not_le, bne_eq_false_iff_eq, Bool.not_eq_true', Bool.not_eq_false', Bool.and_eq_true, Bool.and_eq_false_iff, Bool.or_eq_true, Bool.or_eq_false_iff, Decidable.not_not] at p59
      refine Run.skip ?_
      refine Run.seq ?_
      refine Run.seq ?_
      refine Run.region ?_
      refine Run.q (v := .int .i64 (1 + (((gridE 1 n).length : Nat) : Int) * 2)) rfl (OpQ.y (OpY.pure rfl)) ?_
      refine Run.q (v := .int .i64 (1 + (((gridE 1 n).length : Nat) : Int) * 2)) rfl (OpQ.y (OpY.pure rfl)) ?_
      refine Run.q (v := .bool false) rfl (OpQ.y (OpY.neqSame rfl rfl rfl)) ?_
      refine Run.done ?_
      refine Run.cond (b := false) rfl (fun h => nomatch h) (fun _ => ?_)
      refine Run.skip ?_
      refine Run.seq ?_
      refine Run.region ?_
      refine Run.q (v := .bool true) rfl (OpQ.y (OpY.pure rfl)) ?_
      refine Run.done ?_
      refine Run.ret ?_
      refine ⟨.bool true, [], Out.one rfl rfl, (Some'.weak (.nil _)), ?_⟩
      rfl

end Go.Proofs.Ytgoaoifnckhdlaa
