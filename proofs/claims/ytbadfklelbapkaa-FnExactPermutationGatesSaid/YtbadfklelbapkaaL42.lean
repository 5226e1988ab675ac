/- The walk of the law FnExactPermutationGates. -/
import Derived.Test.YtbadfklelbapkaaPm
import Derived.Test.YtbadfklelbapkaaCi
import Derived.Test.YtbadfklelbapkaaProg
set_option linter.unusedSimpArgs false
set_option linter.unusedVariables false
namespace Go.Proofs.Ytbadfklelbapkaa
open Go Go.RowKit
namespace L42T
theorem Tbool_4 : Try.prog.underlying 4 = some .bool := by kernel_rfl
theorem Tcall_20 : callable Try.prog 20 = true := by kernel_rfl
theorem Tcall_24 : callable Try.prog 24 = true := by kernel_rfl
theorem Tcall_30 : callable Try.prog 30 = true := by kernel_rfl
theorem Tcall_33 : callable Try.prog 33 = true := by kernel_rfl
theorem Tcall_34 : callable Try.prog 34 = true := by kernel_rfl
theorem Tcall_35 : callable Try.prog 35 = true := by kernel_rfl
theorem Tcall_36 : callable Try.prog 36 = true := by kernel_rfl
theorem Tcall_37 : callable Try.prog 37 = true := by kernel_rfl
theorem Tsl_28 : sliceOf Try.prog 28 = some (3, 1, 8, [.int .i64 0]) := by kernel_rfl
end L42T
open L42T
set_option maxHeartbeats 1000000 in
set_option maxRecDepth 20000 in
theorem law_spec {tv : Value} {tn : Nat} {tx : List Int} {w : World} (th : Sl w tv 1 tn (ints tx)) (tw : ∀ x ∈ tx, In64 x) : Calls Try.prog 5 #[tv] w (Post No w fun v _ => v = .bool true) := by
  obtain ⟨tA, tc, rfl, _, _⟩ := th.form0
  refine enter (n := 93) (args := [.slice tA tn tc]) Try.func5 rfl rfl (St.empty _ _) ?_
  refine Run.seq ?_
  refine Run.region ?_
  refine Run.q (v := .bool false) rfl (OpQ.y (OpY.pure rfl)) ?_
  refine Run.done ?_
  refine Run.seq ?_
  refine Run.seq ?_
  refine Run.region ?_
  refine Run.q (v := .slice tA tn tc) rfl (OpQ.y (OpY.pure rfl)) ?_
  refine Run.q (v := .int .i64 (((tn : Nat) : Int))) rfl (OpQ.y (OpY.len Tsl_28 rfl)) ?_
  refine Run.q (v := .bool (decide ((((tn : Nat) : Int)) > 1048576))) rfl (OpQ.y (OpY.pure rfl)) ?_
  refine Run.done ?_
  refine Run.cond (b := decide ((((tn : Nat) : Int)) > 1048576)) rfl (fun h15 => ?_) (fun h15 => ?_)
  · have p15 := h15; try simp only [decide_eq_true_eq, decide_eq_false_iff_not, beq_iff_eq, bne_iff_ne, beq_eq_false_iff_ne, ne_eq, gt_iff_lt, ge_iff_le, Int.not_lt, Int.not_le, bne_eq_false_iff_eq, Bool.not_eq_true', Bool.not_eq_false', Bool.and_eq_true, Bool.and_eq_false_iff, Bool.or_eq_true, Bool.or_eq_false_iff, Decidable.not_not, List.cons.injEq, and_true] at p15
    refine Run.seq ?_
    refine Run.region ?_
    refine Run.q (v := .bool true) rfl (OpQ.y (OpY.pure rfl)) ?_
    refine Run.done ?_
    refine Run.ret ?_
    refine ⟨.bool true, [], Out.one rfl rfl, (Some'.weak (.nil _)), ?_⟩
    rfl
  · have p15 := h15; try simp only [decide_eq_true_eq, decide_eq_false_iff_not, beq_iff_eq, bne_iff_ne, beq_eq_false_iff_ne, ne_eq, gt_iff_lt, ge_iff_le, Int.not_lt, Int.not_le, bne_eq_false_iff_eq, Bool.not_eq_true', Bool.not_eq_false', Bool.and_eq_true, Bool.and_eq_false_iff, Bool.or_eq_true, Bool.or_eq_false_iff, Decidable.not_not, List.cons.injEq, and_true] at p15
    refine Run.skip ?_
    refine Run.seq ?_
    refine Run.region ?_
    refine Run.q (v := .slice tA tn tc) rfl (OpQ.y (OpY.pure rfl)) ?_
    refine Run.step rfl (OpStep.call (vs := [.slice tA tn tc]) (caps := []) Tcall_20 rfl rfl (fun w hs => toIntS_spec (hs.sl th) (by omega)) ?_)
    rintro u1 _ rfl
    show Run _ _ (putF _ _ _ u1) [.own u1 3 1 tn (ints tx)]
    refine Run.step rfl (OpStep.call (vs := [u1]) (caps := []) Tcall_33 rfl rfl (fun w hs => sPermutationGates_spec (hs.slOwn (.head _))) ?_)
    rintro _ _ ⟨u2, hlen, rfl, rfl⟩
    show Run _ _ (putF _ _ _ (.tuple #[u2, .bool (pmOk tx tn)])) [.own u2 106 3 ((pmR tn tx).length) (ints (flSW (pmR tn tx))), .own u1 3 1 tn (ints tx)]
    refine Run.q (v := .tuple #[u2, .bool (pmOk tx tn)]) rfl (OpQ.y (OpY.pure rfl)) ?_
    refine Run.q (v := u2) rfl (OpQ.y (OpY.pure rfl)) ?_
    refine Run.q (v := .bool (pmOk tx tn)) rfl (OpQ.y (OpY.pure rfl)) ?_
    refine Run.q (v := u2) rfl (OpQ.y (OpY.pure rfl)) ?_
    refine Run.q (v := .bool (pmOk tx tn)) rfl (OpQ.y (OpY.pure rfl)) ?_
    refine Run.done ?_
    refine Run.seq ?_
    refine Run.region ?_
    refine Run.q (v := .slice tA tn tc) rfl (OpQ.y (OpY.pure rfl)) ?_
    refine Run.step rfl (OpStep.call (vs := [.slice tA tn tc]) (caps := []) Tcall_20 rfl rfl (fun w hs => toIntS_spec (hs.sl th) (by omega)) ?_)
    rintro u3 _ rfl
    show Run _ _ (putF _ _ _ u3) [.own u3 3 1 tn (ints tx), .own u2 106 3 ((pmR tn tx).length) (ints (flSW (pmR tn tx))), .own u1 3 1 tn (ints tx)]
    refine Run.q (v := u3) rfl (OpQ.y (OpY.pure rfl)) ?_
    refine Run.done ?_
    refine Run.seq ?_
    refine Run.region ?_
    refine Run.q (v := u3) rfl (OpQ.y (OpY.pure rfl)) ?_
    refine Run.step rfl (OpStep.call (vs := [u3]) (caps := []) Tcall_34 rfl rfl (fun w hs => PermutationGates_spec (hs.slOwn (.head _))) ?_)
    rintro _ _ ⟨u4, hlen, rfl, rfl⟩
    show Run _ _ (putF _ _ _ (.tuple #[u4, .bool (pmOk tx tn)])) [.own u4 106 3 ((pmR tn tx).length) (ints (flSW (pmR tn tx))), .own u3 3 1 tn (ints tx), .own u2 106 3 ((pmR tn tx).length) (ints (flSW (pmR tn tx))), .own u1 3 1 tn (ints tx)]
    refine Run.q (v := .tuple #[u4, .bool (pmOk tx tn)]) rfl (OpQ.y (OpY.pure rfl)) ?_
    refine Run.q (v := u4) rfl (OpQ.y (OpY.pure rfl)) ?_
    refine Run.q (v := .bool (pmOk tx tn)) rfl (OpQ.y (OpY.pure rfl)) ?_
    refine Run.q (v := u4) rfl (OpQ.y (OpY.pure rfl)) ?_
    refine Run.q (v := .bool (pmOk tx tn)) rfl (OpQ.y (OpY.pure rfl)) ?_
    refine Run.done ?_
    refine Run.seq ?_
    refine Run.seq ?_
    refine Run.region ?_
    refine Run.q (v := u4) rfl (OpQ.y (OpY.pure rfl)) ?_
    refine Run.q (v := u2) rfl (OpQ.y (OpY.pure rfl)) ?_
    refine Run.q (v := .bool true) rfl (OpQ.call (vs := [u4, u2]) (caps := []) Tcall_35 rfl rfl (fun w hs => eqGateS_true (hs.slOwn (.head _)) (hs.slOwn (.tail _ (.tail _ (List.Mem.head _)))) rfl)) ?_
    refine Run.q (v := .bool false) rfl (OpQ.y (OpY.pure rfl)) ?_
    refine Run.q (v := .bool false) rfl (OpQ.y (OpY.pure rfl)) ?_
    refine Run.q (v := .bool (pmOk tx tn)) rfl (OpQ.y (OpY.pure rfl)) ?_
    refine Run.q (v := .bool (pmOk tx tn)) rfl (OpQ.y (OpY.pure rfl)) ?_
    refine Run.q (v := .bool false) rfl (OpQ.y (OpY.neqBSame Tbool_4 rfl rfl rfl)) ?_
    refine Run.q (v := .bool false) rfl (OpQ.y (OpY.pure rfl)) ?_
    refine Run.done ?_
    refine Run.cond (b := false) rfl (fun h => nomatch h) (fun _ => ?_)
    refine Run.skip ?_
    refine Run.seq ?_
    refine Run.seq ?_
    refine Run.region ?_
    refine Run.q (v := u3) rfl (OpQ.y (OpY.pure rfl)) ?_
    refine Run.q (v := .slice tA tn tc) rfl (OpQ.y (OpY.pure rfl)) ?_
    refine Run.step rfl (OpStep.call (vs := [.slice tA tn tc]) (caps := []) Tcall_20 rfl rfl (fun w hs => toIntS_spec (hs.sl th) (by omega)) ?_)
    rintro u5 _ rfl
    show Run _ _ (putF _ _ _ u5) [.own u5 3 1 tn (ints tx), .own u4 106 3 ((pmR tn tx).length) (ints (flSW (pmR tn tx))), .own u3 3 1 tn (ints tx), .own u2 106 3 ((pmR tn tx).length) (ints (flSW (pmR tn tx))), .own u1 3 1 tn (ints tx)]
    refine Run.q (v := .bool true) rfl (OpQ.call (vs := [u3, u5]) (caps := []) Tcall_24 rfl rfl (fun w hs => eqIntS_true (hs.slOwn (.tail _ (.tail _ (List.Mem.head _)))) (hs.slOwn (.head _)) rfl)) ?_
    refine Run.q (v := .bool false) rfl (OpQ.y (OpY.pure rfl)) ?_
    refine Run.done ?_
    refine Run.cond (b := false) rfl (fun h => nomatch h) (fun _ => ?_)
    refine Run.skip ?_
    refine Run.seq ?_
    refine Run.region ?_
    refine Run.q (v := .int .i64 1) rfl (OpQ.y (OpY.pure rfl)) ?_
    refine Run.done ?_
    refine Run.seq ?_
    refine Run.region ?_
    refine Run.q (v := u3) rfl (OpQ.y (OpY.pure rfl)) ?_
    refine Run.q (v := .int .i64 1) rfl (OpQ.y (OpY.pure rfl)) ?_
    refine Run.step rfl (OpStep.callM (H1 := [.own u3 3 1 tn (ints tx)]) (H2 := [.own u5 3 1 tn (ints tx), .own u4 106 3 ((pmR tn tx).length) (ints (flSW (pmR tn tx))), .own u2 106 3 ((pmR tn tx).length) (ints (flSW (pmR tn tx))), .own u1 3 1 tn (ints tx)]) (vs := [u3, .int .i64 1]) (caps := []) Tcall_30 rfl rfl (Weak.front [.own u5 3 1 tn (ints tx), .own u4 106 3 ((pmR tn tx).length) (ints (flSW (pmR tn tx)))] (.own u3 3 1 tn (ints tx)) [.own u2 106 3 ((pmR tn tx).length) (ints (flSW (pmR tn tx))), .own u1 3 1 tn (ints tx)]) (fun w hs => markIntS_spec (hs.holds _ (.head _)) (by omega) (by omega)) ?_)
    rintro _ _ ⟨rfl, rfl⟩
    show Run _ _ (putF _ _ _ (.int .i64 (1 + ((tn : Nat) : Int) * 1))) [.own u3 3 1 tn (ints (mks 1 (tn * 1))), .own u5 3 1 tn (ints tx), .own u4 106 3 ((pmR tn tx).length) (ints (flSW (pmR tn tx))), .own u2 106 3 ((pmR tn tx).length) (ints (flSW (pmR tn tx))), .own u1 3 1 tn (ints tx)]
    refine Run.q (v := .int .i64 (1 + ((tn : Nat) : Int) * 1)) rfl (OpQ.y (OpY.pure rfl)) ?_
    refine Run.done ?_
    refine Run.seq ?_
    refine Run.seq ?_
    refine Run.region ?_
    refine Run.q (v := .int .i64 (1 + ((tn : Nat) : Int) * 1)) rfl (OpQ.y (OpY.pure rfl)) ?_
    refine Run.q (v := .bool (decide ((1 + ((tn : Nat) : Int) * 1) < 0))) rfl (OpQ.y (OpY.pure rfl)) ?_
    rcases Bool.eq_false_or_eq_true (decide ((1 + ((tn : Nat) : Int) * 1) < 0)) with h48 | h48
    · exact absurd h48 (by simp <;> omega) --DONE
    · refine Run.q (v := .bool false) rfl (OpQ.y (OpY.moveB rfl h48)) ?_
      have p48 := h48; try simp only [decide_eq_true_eq, decide_eq_false_iff_not, beq_iff_eq, bne_iff_ne, beq_eq_false_iff_ne, ne_eq, gt_iff_lt, ge_iff_le, Int.not_lt, Int.not_le, bne_eq_false_iff_eq, Bool.not_eq_true', Bool.not_eq_false', Bool.and_eq_true, Bool.and_eq_false_iff, Bool.or_eq_true, Bool.or_eq_false_iff, Decidable.not_not, List.cons.injEq, and_true] at p48
      refine Run.q (v := u4) rfl (OpQ.y (OpY.pure rfl)) ?_
      refine Run.q (v := u2) rfl (OpQ.y (OpY.pure rfl)) ?_
      refine Run.q (v := .bool true) rfl (OpQ.call (vs := [u4, u2]) (caps := []) Tcall_35 rfl rfl (fun w hs => eqGateS_true (hs.slOwn (.tail _ (.tail _ (List.Mem.head _)))) (hs.slOwn (.tail _ (.tail _ (.tail _ (List.Mem.head _))))) rfl)) ?_
      refine Run.q (v := .bool false) rfl (OpQ.y (OpY.pure rfl)) ?_
      refine Run.q (v := .bool false) rfl (OpQ.y (OpY.pure rfl)) ?_
      refine Run.q (v := .bool false) rfl (OpQ.y (OpY.pure rfl)) ?_
      refine Run.q (v := .bool (pmOk tx tn)) rfl (OpQ.y (OpY.pure rfl)) ?_
      refine Run.q (v := .bool (pmOk tx tn)) rfl (OpQ.y (OpY.pure rfl)) ?_
      refine Run.q (v := .bool false) rfl (OpQ.y (OpY.neqBSame Tbool_4 rfl rfl rfl)) ?_
      refine Run.q (v := .bool false) rfl (OpQ.y (OpY.pure rfl)) ?_
      refine Run.done ?_
      refine Run.cond (b := false) rfl (fun h => nomatch h) (fun _ => ?_)
      refine Run.skip ?_
      refine Run.seq ?_
      refine Run.region ?_
      refine Run.q (v := .int .i64 1) rfl (OpQ.y (OpY.pure rfl)) ?_
      refine Run.done ?_
      refine Run.seq ?_
      refine Run.region ?_
      refine Run.q (v := u4) rfl (OpQ.y (OpY.pure rfl)) ?_
      refine Run.q (v := .int .i64 1) rfl (OpQ.y (OpY.pure rfl)) ?_
      refine Run.step rfl (OpStep.callM (H1 := [.own u4 106 3 ((pmR tn tx).length) (ints (flSW (pmR tn tx)))]) (H2 := [.own u3 3 1 tn (ints (mks 1 (tn * 1))), .own u5 3 1 tn (ints tx), .own u2 106 3 ((pmR tn tx).length) (ints (flSW (pmR tn tx))), .own u1 3 1 tn (ints tx)]) (vs := [u4, .int .i64 1]) (caps := []) Tcall_36 rfl rfl (Weak.front [.own u3 3 1 tn (ints (mks 1 (tn * 1))), .own u5 3 1 tn (ints tx)] (.own u4 106 3 ((pmR tn tx).length) (ints (flSW (pmR tn tx)))) [.own u2 106 3 ((pmR tn tx).length) (ints (flSW (pmR tn tx))), .own u1 3 1 tn (ints tx)]) (fun w hs => markGateS_spec (hs.holds _ (.head _)) (by omega) (by omega)) ?_)
      rintro _ _ ⟨rfl, rfl⟩
      show Run _ _ (putF _ _ _ (.int .i64 (1 + (((pmR tn tx).length : Nat) : Int) * 3))) [.own u4 106 3 ((pmR tn tx).length) (ints (mks 1 (((pmR tn tx).length) * 3))), .own u3 3 1 tn (ints (mks 1 (tn * 1))), .own u5 3 1 tn (ints tx), .own u2 106 3 ((pmR tn tx).length) (ints (flSW (pmR tn tx))), .own u1 3 1 tn (ints tx)]
      refine Run.q (v := .int .i64 (1 + (((pmR tn tx).length : Nat) : Int) * 3)) rfl (OpQ.y (OpY.pure rfl)) ?_
      refine Run.done ?_
      refine Run.seq ?_
      refine Run.region ?_
      refine Run.q (v := .int .i64 1) rfl (OpQ.y (OpY.pure rfl)) ?_
      refine Run.done ?_
      refine Run.seq ?_
      refine Run.region ?_
      refine Run.q (v := u4) rfl (OpQ.y (OpY.pure rfl)) ?_
      refine Run.q (v := .int .i64 1) rfl (OpQ.y (OpY.pure rfl)) ?_
      refine Run.q (v := .int .i64 (1 + (((pmR tn tx).length : Nat) : Int) * 3)) rfl (OpQ.call (vs := [u4, .int .i64 1]) (caps := []) Tcall_37 rfl rfl (fun w hs => heldGateS_true (hs.slOwn (.head _)) (by omega) (by omega) rfl)) ?_
      refine Run.q (v := .int .i64 (1 + (((pmR tn tx).length : Nat) : Int) * 3)) rfl (OpQ.y (OpY.pure rfl)) ?_
      refine Run.done ?_
      refine Run.seq ?_
      refine Run.seq ?_
      refine Run.region ?_
      refine Run.q (v := .int .i64 (1 + (((pmR tn tx).length : Nat) : Int) * 3)) rfl (OpQ.y (OpY.pure rfl)) ?_
      refine Run.q (v := .bool (decide ((1 + (((pmR tn tx).length : Nat) : Int) * 3) < 0))) rfl (OpQ.y (OpY.pure rfl)) ?_
      refine Run.done ?_
      refine Run.cond (b := decide ((1 + (((pmR tn tx).length : Nat) : Int) * 3) < 0)) rfl (fun h66 => ?_) (fun h66 => ?_)
      · have p66 := h66; try simp only [decide_eq_true_eq, decide_eq_false_iff_not, beq_iff_eq, bne_iff_ne, beq_eq_false_iff_ne, ne_eq, gt_iff_lt, ge_iff_le, Int.not_lt, Int.not_le, bne_eq_false_iff_eq, Bool.not_eq_true', Bool.not_eq_false', Bool.and_eq_true, Bool.and_eq_false_iff, Bool.or_eq_true, Bool.or_eq_false_iff, Decidable.not_not, List.cons.injEq, and_true] at p66
        exact absurd h66 (by simp <;> omega) --DONE
      · have p66 := h66; try simp only [decide_eq_true_eq, decide_eq_false_iff_not, beq_iff_eq, bne_iff_ne, beq_eq_false_iff_ne, ne_eq, gt_iff_lt, ge_iff_le, Int.not_lt, Int.not_le, bne_eq_false_iff_eq, Bool.not_eq_true', Bool.not_eq_false', Bool.and_eq_true, Bool.and_eq_false_iff, Bool.or_eq_true, Bool.or_eq_false_iff, Decidable.not_not, List.cons.injEq, and_true] at p66
        refine Run.skip ?_
        refine Run.seq ?_
        refine Run.seq ?_
        refine Run.region ?_
        refine Run.q (v := .int .i64 (1 + (((pmR tn tx).length : Nat) : Int) * 3)) rfl (OpQ.y (OpY.pure rfl)) ?_
        refine Run.q (v := .int .i64 (1 + (((pmR tn tx).length : Nat) : Int) * 3)) rfl (OpQ.y (OpY.pure rfl)) ?_
        refine Run.q (v := .bool false) rfl (OpQ.y (OpY.neqSame rfl rfl rfl)) ?_
        refine Run.done ?_
        refine Run.cond (b := false) rfl (fun h => nomatch h) (fun _ => ?_)
        refine Run.skip ?_
        refine Run.seq ?_
        refine Run.region ?_
        refine Run.q (v := .slice tA tn tc) rfl (OpQ.y (OpY.pure rfl)) ?_
        refine Run.step rfl (OpStep.call (vs := [.slice tA tn tc]) (caps := []) Tcall_20 rfl rfl (fun w hs => toIntS_spec (hs.sl th) (by omega)) ?_)
        rintro u6 _ rfl
        show Run _ _ (putF _ _ _ u6) [.own u6 3 1 tn (ints tx), .own u4 106 3 ((pmR tn tx).length) (ints (mks 1 (((pmR tn tx).length) * 3))), .own u3 3 1 tn (ints (mks 1 (tn * 1))), .own u5 3 1 tn (ints tx), .own u2 106 3 ((pmR tn tx).length) (ints (flSW (pmR tn tx))), .own u1 3 1 tn (ints tx)]
        refine Run.step rfl (OpStep.call (vs := [u6]) (caps := []) Tcall_34 rfl rfl (fun w hs => PermutationGates_spec (hs.slOwn (.head _))) ?_)
        rintro _ _ ⟨u7, hlen, rfl, rfl⟩
        show Run _ _ (putF _ _ _ (.tuple #[u7, .bool (pmOk tx tn)])) [.own u7 106 3 ((pmR tn tx).length) (ints (flSW (pmR tn tx))), .own u6 3 1 tn (ints tx), .own u4 106 3 ((pmR tn tx).length) (ints (mks 1 (((pmR tn tx).length) * 3))), .own u3 3 1 tn (ints (mks 1 (tn * 1))), .own u5 3 1 tn (ints tx), .own u2 106 3 ((pmR tn tx).length) (ints (flSW (pmR tn tx))), .own u1 3 1 tn (ints tx)]
        refine Run.q (v := .tuple #[u7, .bool (pmOk tx tn)]) rfl (OpQ.y (OpY.pure rfl)) ?_
        refine Run.q (v := u7) rfl (OpQ.y (OpY.pure rfl)) ?_
        refine Run.q (v := .bool (pmOk tx tn)) rfl (OpQ.y (OpY.pure rfl)) ?_
        refine Run.q (v := u7) rfl (OpQ.y (OpY.pure rfl)) ?_
        refine Run.q (v := .bool (pmOk tx tn)) rfl (OpQ.y (OpY.pure rfl)) ?_
        refine Run.done ?_
        refine Run.seq ?_
        refine Run.seq ?_
        refine Run.region ?_
        refine Run.q (v := u7) rfl (OpQ.y (OpY.pure rfl)) ?_
        refine Run.q (v := u2) rfl (OpQ.y (OpY.pure rfl)) ?_
        refine Run.q (v := .bool true) rfl (OpQ.call (vs := [u7, u2]) (caps := []) Tcall_35 rfl rfl (fun w hs => eqGateS_true (hs.slOwn (.head _)) (hs.slOwn (.tail _ (.tail _ (.tail _ (.tail _ (.tail _ (List.Mem.head _))))))) rfl)) ?_
        refine Run.q (v := .bool false) rfl (OpQ.y (OpY.pure rfl)) ?_
        refine Run.q (v := .bool false) rfl (OpQ.y (OpY.pure rfl)) ?_
        refine Run.q (v := .bool (pmOk tx tn)) rfl (OpQ.y (OpY.pure rfl)) ?_
        refine Run.q (v := .bool (pmOk tx tn)) rfl (OpQ.y (OpY.pure rfl)) ?_
        refine Run.q (v := .bool false) rfl (OpQ.y (OpY.neqBSame Tbool_4 rfl rfl rfl)) ?_
        refine Run.q (v := .bool false) rfl (OpQ.y (OpY.pure rfl)) ?_
        refine Run.done ?_
        refine Run.cond (b := false) rfl (fun h => nomatch h) (fun _ => ?_)
        refine Run.skip ?_
        refine Run.seq ?_
        refine Run.region ?_
        refine Run.q (v := .int .i64 1) rfl (OpQ.y (OpY.pure rfl)) ?_
        refine Run.done ?_
        refine Run.seq ?_
        refine Run.region ?_
        refine Run.q (v := u4) rfl (OpQ.y (OpY.pure rfl)) ?_
        refine Run.q (v := .int .i64 1) rfl (OpQ.y (OpY.pure rfl)) ?_
        refine Run.q (v := .int .i64 (1 + (((pmR tn tx).length : Nat) : Int) * 3)) rfl (OpQ.call (vs := [u4, .int .i64 1]) (caps := []) Tcall_37 rfl rfl (fun w hs => heldGateS_true (hs.slOwn (.tail _ (.tail _ (List.Mem.head _)))) (by omega) (by omega) rfl)) ?_
        refine Run.q (v := .int .i64 (1 + (((pmR tn tx).length : Nat) : Int) * 3)) rfl (OpQ.y (OpY.pure rfl)) ?_
        refine Run.done ?_
        refine Run.seq ?_
        refine Run.seq ?_
        refine Run.region ?_
        refine Run.q (v := .int .i64 (1 + (((pmR tn tx).length : Nat) : Int) * 3)) rfl (OpQ.y (OpY.pure rfl)) ?_
        refine Run.q (v := .bool (decide ((1 + (((pmR tn tx).length : Nat) : Int) * 3) < 0))) rfl (OpQ.y (OpY.pure rfl)) ?_
        refine Run.done ?_
        refine Run.cond (b := decide ((1 + (((pmR tn tx).length : Nat) : Int) * 3) < 0)) rfl (fun h89 => ?_) (fun h89 => ?_)
        · have p89 := h89; try simp only [decide_eq_true_eq, decide_eq_false_iff_not, beq_iff_eq, bne_iff_ne, beq_eq_false_iff_ne, ne_eq, gt_iff_lt, ge_iff_le, Int.not_lt, Int.not_le, bne_eq_false_iff_eq, Bool.not_eq_true', Bool.not_eq_false', Bool.and_eq_true, Bool.and_eq_false_iff, Bool.or_eq_true, Bool.or_eq_false_iff, Decidable.not_not, List.cons.injEq, and_true] at p89
          exact absurd h89 (by simp <;> omega) --DONE
        · have p89 := h89; try simp only [decide_eq_true_eq, decide_eq_false_iff_not, beq_iff_eq, bne_iff_ne, beq_eq_false_iff_ne, ne_eq, gt_iff_lt, ge_iff_le, Int.not_lt, Int.not_le, bne_eq_false_iff_eq, Bool.not_eq_true', Bool.not_eq_false', Bool.and_eq_true, Bool.and_eq_false_iff, Bool.or_eq_true, Bool.or_eq_false_iff, Decidable.not_not, List.cons.injEq, and_true] at p89
          refine Run.skip ?_
          refine Run.seq ?_
          refine Run.seq ?_
          refine Run.region ?_
          refine Run.q (v := .int .i64 (1 + (((pmR tn tx).length : Nat) : Int) * 3)) rfl (OpQ.y (OpY.pure rfl)) ?_
          refine Run.q (v := .int .i64 (1 + (((pmR tn tx).length : Nat) : Int) * 3)) rfl (OpQ.y (OpY.pure rfl)) ?_
          refine Run.q (v := .bool false) rfl (OpQ.y (OpY.neqSame rfl rfl rfl)) ?_
          refine Run.done ?_
          refine Run.cond (b := false) rfl (fun h => nomatch h) (fun _ => ?_)
          refine Run.skip ?_
          refine Run.seq ?_
          refine Run.region ?_
          refine Run.q (v := .bool true) rfl (OpQ.y (OpY.pure rfl)) ?_
          refine Run.done ?_
          refine Run.ret ?_
          refine ⟨.bool true, [], Out.one rfl rfl, (Some'.weak (.nil _)), ?_⟩
          rfl

end Go.Proofs.Ytbadfklelbapkaa
