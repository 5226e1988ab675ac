/- The walk of the law FnExactEliminateRows. -/
import Derived.Test.YtgoaoifnckhdlaaEl
import Derived.Test.YtgoaoifnckhdlaaProg
set_option linter.unusedSimpArgs false
set_option linter.unusedVariables false
namespace Go.Proofs.Ytgoaoifnckhdlaa
open Go Go.RowKit
namespace L9T
theorem Tbool_4 : Try.prog.underlying 4 = some .bool := by kernel_rfl
theorem Tcall_17 : callable Try.prog 17 = true := by kernel_rfl
theorem Tcall_18 : callable Try.prog 18 = true := by kernel_rfl
theorem Tcall_19 : callable Try.prog 19 = true := by kernel_rfl
theorem Tcall_37 : callable Try.prog 37 = true := by kernel_rfl
theorem Tcall_39 : callable Try.prog 39 = true := by kernel_rfl
theorem Tcall_42 : callable Try.prog 42 = true := by kernel_rfl
theorem Tcall_43 : callable Try.prog 43 = true := by kernel_rfl
theorem Tcall_44 : callable Try.prog 44 = true := by kernel_rfl
theorem Tcall_45 : callable Try.prog 45 = true := by kernel_rfl
theorem Tsl_44 : sliceOf Try.prog 44 = some (3, 1, 8, [.int .i64 0]) := by kernel_rfl
end L9T
open L9T
set_option maxHeartbeats 1000000 in
set_option maxRecDepth 20000 in
theorem law_spec {rv : Value} {rn : Nat} {rx : List Int} {w : World} (rh : Sl w rv 1 rn (ints rx)) (rw : ∀ x ∈ rx, In64 x) : Calls Try.prog 10 #[rv] w (Post No w fun v _ => v = .bool true) := by
  obtain ⟨rA, rc, rfl, _, _⟩ := rh.form0
  refine enter (n := 130) (args := [.slice rA rn rc]) Try.func10 rfl rfl (St.empty _ _) ?_
  refine Run.seq ?_
  refine Run.region ?_
  refine Run.q (v := .bool false) rfl (OpQ.y (OpY.pure rfl)) ?_
  refine Run.done ?_
  refine Run.seq ?_
  refine Run.seq ?_
  refine Run.region ?_
  refine Run.q (v := .slice rA rn rc) rfl (OpQ.y (OpY.pure rfl)) ?_
  refine Run.q (v := .int .i64 (((rn : Nat) : Int))) rfl (OpQ.y (OpY.len Tsl_44 rfl)) ?_
  refine Run.q (v := .bool (decide ((((rn : Nat) : Int)) > 1048576))) rfl (OpQ.y (OpY.pure rfl)) ?_
  refine Run.done ?_
  refine Run.cond (b := decide ((((rn : Nat) : Int)) > 1048576)) rfl (fun h18 => ?_) (fun h18 => ?_)
  · have p18 := h18; try simp only [decide_eq_true_eq, decide_eq_false_iff_not, beq_iff_eq, bne_iff_ne, beq_eq_false_iff_ne, ne_eq, gt_iff_lt, ge_iff_le, Int.not_lt, Int.not_le, bne_eq_false_iff_eq, Bool.not_eq_true', Bool.not_eq_false', Bool.and_eq_true, Bool.and_eq_false_iff, Bool.or_eq_true, Bool.or_eq_false_iff, Decidable.not_not, List.cons.injEq, and_true] at p18
    refine Run.seq ?_
    refine Run.region ?_
    refine Run.q (v := .bool true) rfl (OpQ.y (OpY.pure rfl)) ?_
    refine Run.done ?_
    refine Run.ret ?_
    refine ⟨.bool true, [], Out.one rfl rfl, (Some'.weak (.nil _)), ?_⟩
    rfl
  · have p18 := h18; try simp only [decide_eq_true_eq, decide_eq_false_iff_not, beq_iff_eq, bne_iff_ne, beq_eq_false_iff_ne, ne_eq, gt_iff_lt, ge_iff_le, Int.not_lt, Int.not_le, bne_eq_false_iff_eq, Bool.not_eq_true', Bool.not_eq_false', Bool.and_eq_true, Bool.and_eq_false_iff, Bool.or_eq_true, Bool.or_eq_false_iff, Decidable.not_not, List.cons.injEq, and_true] at p18
    refine Run.skip ?_
    refine Run.seq ?_
    refine Run.region ?_
    refine Run.q (v := .slice rA rn rc) rfl (OpQ.y (OpY.pure rfl)) ?_
    refine Run.step rfl (OpStep.call (vs := [.slice rA rn rc]) (caps := []) Tcall_37 rfl rfl (fun w hs => toIntS_spec (hs.sl rh) (by omega)) ?_)
    rintro u1 _ rfl
    show Run _ _ (putF _ _ _ u1) [.own u1 3 1 rn (ints rx)]
    refine Run.step rfl (OpStep.call (vs := [u1]) (caps := []) Tcall_44 rfl rfl (fun w hs => sEliminateRows_spec (hs.slOwn (.head _))) ?_)
    rintro _ _ ⟨u2, u3, hlen, rfl, rfl⟩
    show Run _ _ (putF _ _ _ (.tuple #[u2, u3, .bool (rowsOk rx rn)])) [.own u2 3 1 ((elR rn rx).length) (ints (elR rn rx)), .own u3 94 3 ((elG rn rx).length) (ints (flCX (elG rn rx))), .own u1 3 1 rn (ints rx)]
    refine Run.q (v := .tuple #[u2, u3, .bool (rowsOk rx rn)]) rfl (OpQ.y (OpY.pure rfl)) ?_
    refine Run.q (v := u2) rfl (OpQ.y (OpY.pure rfl)) ?_
    refine Run.q (v := u3) rfl (OpQ.y (OpY.pure rfl)) ?_
    refine Run.q (v := .bool (rowsOk rx rn)) rfl (OpQ.y (OpY.pure rfl)) ?_
    refine Run.q (v := u2) rfl (OpQ.y (OpY.pure rfl)) ?_
    refine Run.q (v := u3) rfl (OpQ.y (OpY.pure rfl)) ?_
    refine Run.q (v := .bool (rowsOk rx rn)) rfl (OpQ.y (OpY.pure rfl)) ?_
    refine Run.done ?_
    refine Run.seq ?_
    refine Run.region ?_
    refine Run.q (v := .slice rA rn rc) rfl (OpQ.y (OpY.pure rfl)) ?_
    refine Run.step rfl (OpStep.call (vs := [.slice rA rn rc]) (caps := []) Tcall_37 rfl rfl (fun w hs => toIntS_spec (hs.sl rh) (by omega)) ?_)
    rintro u4 _ rfl
    show Run _ _ (putF _ _ _ u4) [.own u4 3 1 rn (ints rx), .own u2 3 1 ((elR rn rx).length) (ints (elR rn rx)), .own u3 94 3 ((elG rn rx).length) (ints (flCX (elG rn rx))), .own u1 3 1 rn (ints rx)]
    refine Run.q (v := u4) rfl (OpQ.y (OpY.pure rfl)) ?_
    refine Run.done ?_
    refine Run.seq ?_
    refine Run.region ?_
    refine Run.q (v := u4) rfl (OpQ.y (OpY.pure rfl)) ?_
    refine Run.step rfl (OpStep.call (vs := [u4]) (caps := []) Tcall_45 rfl rfl (fun w hs => EliminateRows_spec (hs.slOwn (.head _))) ?_)
    rintro _ _ ⟨u5, u6, hlen, rfl, rfl⟩
    show Run _ _ (putF _ _ _ (.tuple #[u5, u6, .bool (rowsOk rx rn)])) [.own u5 3 1 ((elR rn rx).length) (ints (elR rn rx)), .own u6 94 3 ((elG rn rx).length) (ints (flCX (elG rn rx))), .own u4 3 1 rn (ints rx), .own u2 3 1 ((elR rn rx).length) (ints (elR rn rx)), .own u3 94 3 ((elG rn rx).length) (ints (flCX (elG rn rx))), .own u1 3 1 rn (ints rx)]
    refine Run.q (v := .tuple #[u5, u6, .bool (rowsOk rx rn)]) rfl (OpQ.y (OpY.pure rfl)) ?_
    refine Run.q (v := u5) rfl (OpQ.y (OpY.pure rfl)) ?_
    refine Run.q (v := u6) rfl (OpQ.y (OpY.pure rfl)) ?_
    refine Run.q (v := .bool (rowsOk rx rn)) rfl (OpQ.y (OpY.pure rfl)) ?_
    refine Run.q (v := u5) rfl (OpQ.y (OpY.pure rfl)) ?_
    refine Run.q (v := u6) rfl (OpQ.y (OpY.pure rfl)) ?_
    refine Run.q (v := .bool (rowsOk rx rn)) rfl (OpQ.y (OpY.pure rfl)) ?_
    refine Run.done ?_
    refine Run.seq ?_
    refine Run.seq ?_
    refine Run.region ?_
    refine Run.q (v := u5) rfl (OpQ.y (OpY.pure rfl)) ?_
    refine Run.q (v := u2) rfl (OpQ.y (OpY.pure rfl)) ?_
    refine Run.q (v := .bool true) rfl (OpQ.call (vs := [u5, u2]) (caps := []) Tcall_39 rfl rfl (fun w hs => eqIntS_true (hs.slOwn (.head _)) (hs.slOwn (.tail _ (.tail _ (.tail _ (List.Mem.head _))))) rfl)) ?_
    refine Run.q (v := .bool false) rfl (OpQ.y (OpY.pure rfl)) ?_
    refine Run.q (v := .bool false) rfl (OpQ.y (OpY.pure rfl)) ?_
    refine Run.q (v := u6) rfl (OpQ.y (OpY.pure rfl)) ?_
    refine Run.q (v := u3) rfl (OpQ.y (OpY.pure rfl)) ?_
    refine Run.q (v := .bool true) rfl (OpQ.call (vs := [u6, u3]) (caps := []) Tcall_17 rfl rfl (fun w hs => eqGateS_true (hs.slOwn (.tail _ (List.Mem.head _))) (hs.slOwn (.tail _ (.tail _ (.tail _ (.tail _ (List.Mem.head _)))))) rfl)) ?_
    refine Run.q (v := .bool false) rfl (OpQ.y (OpY.pure rfl)) ?_
    refine Run.q (v := .bool false) rfl (OpQ.y (OpY.pure rfl)) ?_
    refine Run.q (v := .bool false) rfl (OpQ.y (OpY.pure rfl)) ?_
    refine Run.q (v := .bool (rowsOk rx rn)) rfl (OpQ.y (OpY.pure rfl)) ?_
    refine Run.q (v := .bool (rowsOk rx rn)) rfl (OpQ.y (OpY.pure rfl)) ?_
    refine Run.q (v := .bool false) rfl (OpQ.y (OpY.neqBSame Tbool_4 rfl rfl rfl)) ?_
    refine Run.q (v := .bool false) rfl (OpQ.y (OpY.pure rfl)) ?_
    refine Run.done ?_
    refine Run.cond (b := false) rfl (fun h => nomatch h) (fun _ => ?_)
    refine Run.skip ?_
    refine Run.seq ?_
    refine Run.seq ?_
    refine Run.region ?_
    refine Run.q (v := u4) rfl (OpQ.y (OpY.pure rfl)) ?_
    refine Run.q (v := .slice rA rn rc) rfl (OpQ.y (OpY.pure rfl)) ?_
    refine Run.step rfl (OpStep.call (vs := [.slice rA rn rc]) (caps := []) Tcall_37 rfl rfl (fun w hs => toIntS_spec (hs.sl rh) (by omega)) ?_)
    rintro u7 _ rfl
    show Run _ _ (putF _ _ _ u7) [.own u7 3 1 rn (ints rx), .own u5 3 1 ((elR rn rx).length) (ints (elR rn rx)), .own u6 94 3 ((elG rn rx).length) (ints (flCX (elG rn rx))), .own u4 3 1 rn (ints rx), .own u2 3 1 ((elR rn rx).length) (ints (elR rn rx)), .own u3 94 3 ((elG rn rx).length) (ints (flCX (elG rn rx))), .own u1 3 1 rn (ints rx)]
    refine Run.q (v := .bool true) rfl (OpQ.call (vs := [u4, u7]) (caps := []) Tcall_39 rfl rfl (fun w hs => eqIntS_true (hs.slOwn (.tail _ (.tail _ (.tail _ (List.Mem.head _))))) (hs.slOwn (.head _)) rfl)) ?_
    refine Run.q (v := .bool false) rfl (OpQ.y (OpY.pure rfl)) ?_
    refine Run.done ?_
    refine Run.cond (b := false) rfl (fun h => nomatch h) (fun _ => ?_)
    refine Run.skip ?_
    refine Run.seq ?_
    refine Run.region ?_
    refine Run.q (v := .int .i64 1) rfl (OpQ.y (OpY.pure rfl)) ?_
    refine Run.done ?_
    refine Run.seq ?_
    refine Run.region ?_
    refine Run.q (v := u4) rfl (OpQ.y (OpY.pure rfl)) ?_
    refine Run.q (v := .int .i64 1) rfl (OpQ.y (OpY.pure rfl)) ?_
    refine Run.step rfl (OpStep.callM (H1 := [.own u4 3 1 rn (ints rx)]) (H2 := [.own u7 3 1 rn (ints rx), .own u5 3 1 ((elR rn rx).length) (ints (elR rn rx)), .own u6 94 3 ((elG rn rx).length) (ints (flCX (elG rn rx))), .own u2 3 1 ((elR rn rx).length) (ints (elR rn rx)), .own u3 94 3 ((elG rn rx).length) (ints (flCX (elG rn rx))), .own u1 3 1 rn (ints rx)]) (vs := [u4, .int .i64 1]) (caps := []) Tcall_42 rfl rfl (Weak.front [.own u7 3 1 rn (ints rx), .own u5 3 1 ((elR rn rx).length) (ints (elR rn rx)), .own u6 94 3 ((elG rn rx).length) (ints (flCX (elG rn rx)))] (.own u4 3 1 rn (ints rx)) [.own u2 3 1 ((elR rn rx).length) (ints (elR rn rx)), .own u3 94 3 ((elG rn rx).length) (ints (flCX (elG rn rx))), .own u1 3 1 rn (ints rx)]) (fun w hs => markIntS_spec (hs.holds _ (.head _)) (by omega) (by omega)) ?_)
    rintro _ _ ⟨rfl, rfl⟩
    show Run _ _ (putF _ _ _ (.int .i64 (1 + ((rn : Nat) : Int) * 1))) [.own u4 3 1 rn (ints (mks 1 (rn * 1))), .own u7 3 1 rn (ints rx), .own u5 3 1 ((elR rn rx).length) (ints (elR rn rx)), .own u6 94 3 ((elG rn rx).length) (ints (flCX (elG rn rx))), .own u2 3 1 ((elR rn rx).length) (ints (elR rn rx)), .own u3 94 3 ((elG rn rx).length) (ints (flCX (elG rn rx))), .own u1 3 1 rn (ints rx)]
    refine Run.q (v := .int .i64 (1 + ((rn : Nat) : Int) * 1)) rfl (OpQ.y (OpY.pure rfl)) ?_
    refine Run.done ?_
    refine Run.seq ?_
    refine Run.seq ?_
    refine Run.region ?_
    refine Run.q (v := .int .i64 (1 + ((rn : Nat) : Int) * 1)) rfl (OpQ.y (OpY.pure rfl)) ?_
    refine Run.q (v := .bool (decide ((1 + ((rn : Nat) : Int) * 1) < 0))) rfl (OpQ.y (OpY.pure rfl)) ?_
    rcases Bool.eq_false_or_eq_true (decide ((1 + ((rn : Nat) : Int) * 1) < 0)) with h59 | h59
    · exact absurd h59 (by simp <;> omega) --DONE
    · refine Run.q (v := .bool false) rfl (OpQ.y (OpY.moveB rfl h59)) ?_
      have p59 := h59; try simp only [decide_eq_true_eq, decide_eq_false_iff_not, beq_iff_eq, bne_iff_ne, beq_eq_false_iff_ne, ne_eq, gt_iff_lt, ge_iff_le, Int.not_lt, Int.not_le, bne_eq_false_iff_eq, Bool.not_eq_true', Bool.not_eq_false', Bool.and_eq_true, Bool.and_eq_false_iff, Bool.or_eq_true, Bool.or_eq_false_iff, Decidable.not_not, List.cons.injEq, and_true] at p59
      refine Run.q (v := u5) rfl (OpQ.y (OpY.pure rfl)) ?_
      refine Run.q (v := u2) rfl (OpQ.y (OpY.pure rfl)) ?_
      refine Run.q (v := .bool true) rfl (OpQ.call (vs := [u5, u2]) (caps := []) Tcall_39 rfl rfl (fun w hs => eqIntS_true (hs.slOwn (.tail _ (.tail _ (List.Mem.head _)))) (hs.slOwn (.tail _ (.tail _ (.tail _ (.tail _ (List.Mem.head _)))))) rfl)) ?_
      refine Run.q (v := .bool false) rfl (OpQ.y (OpY.pure rfl)) ?_
      refine Run.q (v := .bool false) rfl (OpQ.y (OpY.pure rfl)) ?_
      refine Run.q (v := .bool false) rfl (OpQ.y (OpY.pure rfl)) ?_
      refine Run.q (v := u6) rfl (OpQ.y (OpY.pure rfl)) ?_
      refine Run.q (v := u3) rfl (OpQ.y (OpY.pure rfl)) ?_
      refine Run.q (v := .bool true) rfl (OpQ.call (vs := [u6, u3]) (caps := []) Tcall_17 rfl rfl (fun w hs => eqGateS_true (hs.slOwn (.tail _ (.tail _ (.tail _ (List.Mem.head _))))) (hs.slOwn (.tail _ (.tail _ (.tail _ (.tail _ (.tail _ (List.Mem.head _))))))) rfl)) ?_
      refine Run.q (v := .bool false) rfl (OpQ.y (OpY.pure rfl)) ?_
      refine Run.q (v := .bool false) rfl (OpQ.y (OpY.pure rfl)) ?_
      refine Run.q (v := .bool false) rfl (OpQ.y (OpY.pure rfl)) ?_
      refine Run.q (v := .bool (rowsOk rx rn)) rfl (OpQ.y (OpY.pure rfl)) ?_
      refine Run.q (v := .bool (rowsOk rx rn)) rfl (OpQ.y (OpY.pure rfl)) ?_
      refine Run.q (v := .bool false) rfl (OpQ.y (OpY.neqBSame Tbool_4 rfl rfl rfl)) ?_
      refine Run.q (v := .bool false) rfl (OpQ.y (OpY.pure rfl)) ?_
      refine Run.done ?_
      refine Run.cond (b := false) rfl (fun h => nomatch h) (fun _ => ?_)
      refine Run.skip ?_
      refine Run.seq ?_
      refine Run.region ?_
      refine Run.q (v := .int .i64 1) rfl (OpQ.y (OpY.pure rfl)) ?_
      refine Run.done ?_
      refine Run.seq ?_
      refine Run.region ?_
      refine Run.q (v := u5) rfl (OpQ.y (OpY.pure rfl)) ?_
      refine Run.q (v := .int .i64 1) rfl (OpQ.y (OpY.pure rfl)) ?_
      refine Run.step rfl (OpStep.callM (H1 := [.own u5 3 1 ((elR rn rx).length) (ints (elR rn rx))]) (H2 := [.own u4 3 1 rn (ints (mks 1 (rn * 1))), .own u7 3 1 rn (ints rx), .own u6 94 3 ((elG rn rx).length) (ints (flCX (elG rn rx))), .own u2 3 1 ((elR rn rx).length) (ints (elR rn rx)), .own u3 94 3 ((elG rn rx).length) (ints (flCX (elG rn rx))), .own u1 3 1 rn (ints rx)]) (vs := [u5, .int .i64 1]) (caps := []) Tcall_42 rfl rfl (Weak.front [.own u4 3 1 rn (ints (mks 1 (rn * 1))), .own u7 3 1 rn (ints rx)] (.own u5 3 1 ((elR rn rx).length) (ints (elR rn rx))) [.own u6 94 3 ((elG rn rx).length) (ints (flCX (elG rn rx))), .own u2 3 1 ((elR rn rx).length) (ints (elR rn rx)), .own u3 94 3 ((elG rn rx).length) (ints (flCX (elG rn rx))), .own u1 3 1 rn (ints rx)]) (fun w hs => markIntS_spec (hs.holds _ (.head _)) (by omega) (by omega)) ?_)
      rintro _ _ ⟨rfl, rfl⟩
      show Run _ _ (putF _ _ _ (.int .i64 (1 + (((elR rn rx).length : Nat) : Int) * 1))) [.own u5 3 1 ((elR rn rx).length) (ints (mks 1 (((elR rn rx).length) * 1))), .own u4 3 1 rn (ints (mks 1 (rn * 1))), .own u7 3 1 rn (ints rx), .own u6 94 3 ((elG rn rx).length) (ints (flCX (elG rn rx))), .own u2 3 1 ((elR rn rx).length) (ints (elR rn rx)), .own u3 94 3 ((elG rn rx).length) (ints (flCX (elG rn rx))), .own u1 3 1 rn (ints rx)]
      refine Run.q (v := .int .i64 (1 + (((elR rn rx).length : Nat) : Int) * 1)) rfl (OpQ.y (OpY.pure rfl)) ?_
      refine Run.done ?_
      refine Run.seq ?_
      refine Run.region ?_
      refine Run.q (v := u6) rfl (OpQ.y (OpY.pure rfl)) ?_
      refine Run.q (v := .int .i64 (1 + (((elR rn rx).length : Nat) : Int) * 1)) rfl (OpQ.y (OpY.pure rfl)) ?_
      refine Run.step rfl (OpStep.callM (H1 := [.own u6 94 3 ((elG rn rx).length) (ints (flCX (elG rn rx)))]) (H2 := [.own u5 3 1 ((elR rn rx).length) (ints (mks 1 (((elR rn rx).length) * 1))), .own u4 3 1 rn (ints (mks 1 (rn * 1))), .own u7 3 1 rn (ints rx), .own u2 3 1 ((elR rn rx).length) (ints (elR rn rx)), .own u3 94 3 ((elG rn rx).length) (ints (flCX (elG rn rx))), .own u1 3 1 rn (ints rx)]) (vs := [u6, .int .i64 (1 + (((elR rn rx).length : Nat) : Int) * 1)]) (caps := []) Tcall_18 rfl rfl (Weak.front [.own u5 3 1 ((elR rn rx).length) (ints (mks 1 (((elR rn rx).length) * 1))), .own u4 3 1 rn (ints (mks 1 (rn * 1))), .own u7 3 1 rn (ints rx)] (.own u6 94 3 ((elG rn rx).length) (ints (flCX (elG rn rx)))) [.own u2 3 1 ((elR rn rx).length) (ints (elR rn rx)), .own u3 94 3 ((elG rn rx).length) (ints (flCX (elG rn rx))), .own u1 3 1 rn (ints rx)]) (fun w hs => markGateS_spec (hs.holds _ (.head _)) (by omega) (by omega)) ?_)
      rintro _ _ ⟨rfl, rfl⟩
      show Run _ _ (putF _ _ _ (.int .i64 (1 + (((elR rn rx).length : Nat) : Int) * 1 + (((elG rn rx).length : Nat) : Int) * 3))) [.own u6 94 3 ((elG rn rx).length) (ints (mks (1 + (((elR rn rx).length : Nat) : Int) * 1) (((elG rn rx).length) * 3))), .own u5 3 1 ((elR rn rx).length) (ints (mks 1 (((elR rn rx).length) * 1))), .own u4 3 1 rn (ints (mks 1 (rn * 1))), .own u7 3 1 rn (ints rx), .own u2 3 1 ((elR rn rx).length) (ints (elR rn rx)), .own u3 94 3 ((elG rn rx).length) (ints (flCX (elG rn rx))), .own u1 3 1 rn (ints rx)]
      refine Run.q (v := .int .i64 (1 + (((elR rn rx).length : Nat) : Int) * 1 + (((elG rn rx).length : Nat) : Int) * 3)) rfl (OpQ.y (OpY.pure rfl)) ?_
      refine Run.done ?_
      refine Run.seq ?_
      refine Run.region ?_
      refine Run.q (v := .int .i64 1) rfl (OpQ.y (OpY.pure rfl)) ?_
      refine Run.done ?_
      refine Run.seq ?_
      refine Run.region ?_
      refine Run.q (v := u5) rfl (OpQ.y (OpY.pure rfl)) ?_
      refine Run.q (v := .int .i64 1) rfl (OpQ.y (OpY.pure rfl)) ?_
      refine Run.q (v := .int .i64 (1 + (((elR rn rx).length : Nat) : Int) * 1)) rfl (OpQ.call (vs := [u5, .int .i64 1]) (caps := []) Tcall_43 rfl rfl (fun w hs => heldIntS_true (hs.slOwn (.tail _ (List.Mem.head _))) (by omega) (by omega) rfl)) ?_
      refine Run.q (v := .int .i64 (1 + (((elR rn rx).length : Nat) : Int) * 1)) rfl (OpQ.y (OpY.pure rfl)) ?_
      refine Run.done ?_
      refine Run.seq ?_
      refine Run.seq ?_
      refine Run.region ?_
      refine Run.q (v := .int .i64 (1 + (((elR rn rx).length : Nat) : Int) * 1)) rfl (OpQ.y (OpY.pure rfl)) ?_
      refine Run.q (v := .bool (decide ((1 + (((elR rn rx).length : Nat) : Int) * 1) < 0))) rfl (OpQ.y (OpY.pure rfl)) ?_
      refine Run.done ?_
      refine Run.cond (b := decide ((1 + (((elR rn rx).length : Nat) : Int) * 1) < 0)) rfl (fun h86 => ?_) (fun h86 => ?_)
      · have p86 := h86; try simp only [decide_eq_true_eq, decide_eq_false_iff_not, beq_iff_eq, bne_iff_ne, beq_eq_false_iff_ne, ne_eq, gt_iff_lt, ge_iff_le, Int.not_lt, Int.not_le, bne_eq_false_iff_eq, Bool.not_eq_true', Bool.not_eq_false', Bool.and_eq_true, Bool.and_eq_false_iff, Bool.or_eq_true, Bool.or_eq_false_iff, Decidable.not_not, List.cons.injEq, and_true] at p86
        exact absurd h86 (by simp <;> omega) --DONE
      · have p86 := h86; try simp only [decide_eq_true_eq, decide_eq_false_iff_not, beq_iff_eq, bne_iff_ne, beq_eq_false_iff_ne, ne_eq, gt_iff_lt, ge_iff_le, Int.not_lt, Int.not_le, bne_eq_false_iff_eq, Bool.not_eq_true', Bool.not_eq_false', Bool.and_eq_true, Bool.and_eq_false_iff, Bool.or_eq_true, Bool.or_eq_false_iff, Decidable.not_not, List.cons.injEq, and_true] at p86
        refine Run.skip ?_
        refine Run.seq ?_
        refine Run.region ?_
        refine Run.q (v := u6) rfl (OpQ.y (OpY.pure rfl)) ?_
        refine Run.q (v := .int .i64 (1 + (((elR rn rx).length : Nat) : Int) * 1)) rfl (OpQ.y (OpY.pure rfl)) ?_
        refine Run.q (v := .int .i64 (1 + (((elR rn rx).length : Nat) : Int) * 1 + (((elG rn rx).length : Nat) : Int) * 3)) rfl (OpQ.call (vs := [u6, .int .i64 (1 + (((elR rn rx).length : Nat) : Int) * 1)]) (caps := []) Tcall_19 rfl rfl (fun w hs => heldGateS_true (hs.slOwn (.head _)) (by omega) (by omega) rfl)) ?_
        refine Run.q (v := .int .i64 (1 + (((elR rn rx).length : Nat) : Int) * 1 + (((elG rn rx).length : Nat) : Int) * 3)) rfl (OpQ.y (OpY.pure rfl)) ?_
        refine Run.done ?_
        refine Run.seq ?_
        refine Run.seq ?_
        refine Run.region ?_
        refine Run.q (v := .int .i64 (1 + (((elR rn rx).length : Nat) : Int) * 1 + (((elG rn rx).length : Nat) : Int) * 3)) rfl (OpQ.y (OpY.pure rfl)) ?_
        refine Run.q (v := .bool (decide ((1 + (((elR rn rx).length : Nat) : Int) * 1 + (((elG rn rx).length : Nat) : Int) * 3) < 0))) rfl (OpQ.y (OpY.pure rfl)) ?_
        refine Run.done ?_
        refine Run.cond (b := decide ((1 + (((elR rn rx).length : Nat) : Int) * 1 + (((elG rn rx).length : Nat) : Int) * 3) < 0)) rfl (fun h91 => ?_) (fun h91 => ?_)
        · have p91 := h91; try simp only [decide_eq_true_eq, decide_eq_false_iff_not, beq_iff_eq, bne_iff_ne, beq_eq_false_iff_ne, ne_eq, gt_iff_lt, ge_iff_le, Int.not_lt, Int.not_le, bne_eq_false_iff_eq, Bool.not_eq_true', Bool.not_eq_false', Bool.and_eq_true, Bool.and_eq_false_iff, Bool.or_eq_true, Bool.or_eq_false_iff, Decidable.not_not, List.cons.injEq, and_true] at p91
          exact absurd h91 (by simp <;> omega) --DONE
        · have p91 := h91; try simp only [decide_eq_true_eq, decide_eq_false_iff_not, beq_iff_eq, bne_iff_ne, beq_eq_false_iff_ne, ne_eq, gt_iff_lt, ge_iff_le, Int.not_lt, Int.not_le, bne_eq_false_iff_eq, Bool.not_eq_true', Bool.not_eq_false', Bool.and_eq_true, Bool.and_eq_false_iff, Bool.or_eq_true, Bool.or_eq_false_iff, Decidable.not_not, List.cons.injEq, and_true] at p91
          refine Run.skip ?_
          refine Run.seq ?_
          refine Run.seq ?_
          refine Run.region ?_
          refine Run.q (v := .int .i64 (1 + (((elR rn rx).length : Nat) : Int) * 1 + (((elG rn rx).length : Nat) : Int) * 3)) rfl (OpQ.y (OpY.pure rfl)) ?_
          refine Run.q (v := .int .i64 (1 + (((elR rn rx).length : Nat) : Int) * 1 + (((elG rn rx).length : Nat) : Int) * 3)) rfl (OpQ.y (OpY.pure rfl)) ?_
          refine Run.q (v := .bool false) rfl (OpQ.y (OpY.neqSame rfl rfl rfl)) ?_
          refine Run.done ?_
          refine Run.cond (b := false) rfl (fun h => nomatch h) (fun _ => ?_)
          refine Run.skip ?_
          refine Run.seq ?_
          refine Run.region ?_
          refine Run.q (v := .slice rA rn rc) rfl (OpQ.y (OpY.pure rfl)) ?_
          refine Run.step rfl (OpStep.call (vs := [.slice rA rn rc]) (caps := []) Tcall_37 rfl rfl (fun w hs => toIntS_spec (hs.sl rh) (by omega)) ?_)
          rintro u8 _ rfl
          show Run _ _ (putF _ _ _ u8) [.own u8 3 1 rn (ints rx), .own u6 94 3 ((elG rn rx).length) (ints (mks (1 + (((elR rn rx).length : Nat) : Int) * 1) (((elG rn rx).length) * 3))), .own u5 3 1 ((elR rn rx).length) (ints (mks 1 (((elR rn rx).length) * 1))), .own u4 3 1 rn (ints (mks 1 (rn * 1))), .own u7 3 1 rn (ints rx), .own u2 3 1 ((elR rn rx).length) (ints (elR rn rx)), .own u3 94 3 ((elG rn rx).length) (ints (flCX (elG rn rx))), .own u1 3 1 rn (ints rx)]
          refine Run.step rfl (OpStep.call (vs := [u8]) (caps := []) Tcall_45 rfl rfl (fun w hs => EliminateRows_spec (hs.slOwn (.head _))) ?_)
          rintro _ _ ⟨u9, u10, hlen, rfl, rfl⟩
          show Run _ _ (putF _ _ _ (.tuple #[u9, u10, .bool (rowsOk rx rn)])) [.own u9 3 1 ((elR rn rx).length) (ints (elR rn rx)), .own u10 94 3 ((elG rn rx).length) (ints (flCX (elG rn rx))), .own u8 3 1 rn (ints rx), .own u6 94 3 ((elG rn rx).length) (ints (mks (1 + (((elR rn rx).length : Nat) : Int) * 1) (((elG rn rx).length) * 3))), .own u5 3 1 ((elR rn rx).length) (ints (mks 1 (((elR rn rx).length) * 1))), .own u4 3 1 rn (ints (mks 1 (rn * 1))), .own u7 3 1 rn (ints rx), .own u2 3 1 ((elR rn rx).length) (ints (elR rn rx)), .own u3 94 3 ((elG rn rx).length) (ints (flCX (elG rn rx))), .own u1 3 1 rn (ints rx)]
          refine Run.q (v := .tuple #[u9, u10, .bool (rowsOk rx rn)]) rfl (OpQ.y (OpY.pure rfl)) ?_
          refine Run.q (v := u9) rfl (OpQ.y (OpY.pure rfl)) ?_
          refine Run.q (v := u10) rfl (OpQ.y (OpY.pure rfl)) ?_
          refine Run.q (v := .bool (rowsOk rx rn)) rfl (OpQ.y (OpY.pure rfl)) ?_
          refine Run.q (v := u9) rfl (OpQ.y (OpY.pure rfl)) ?_
          refine Run.q (v := u10) rfl (OpQ.y (OpY.pure rfl)) ?_
          refine Run.q (v := .bool (rowsOk rx rn)) rfl (OpQ.y (OpY.pure rfl)) ?_
          refine Run.done ?_
          refine Run.seq ?_
          refine Run.seq ?_
          refine Run.region ?_
          refine Run.q (v := u9) rfl (OpQ.y (OpY.pure rfl)) ?_
          refine Run.q (v := u2) rfl (OpQ.y (OpY.pure rfl)) ?_
          refine Run.q (v := .bool true) rfl (OpQ.call (vs := [u9, u2]) (caps := []) Tcall_39 rfl rfl (fun w hs => eqIntS_true (hs.slOwn (.head _)) (hs.slOwn (.tail _ (.tail _ (.tail _ (.tail _ (.tail _ (.tail _ (.tail _ (List.Mem.head _))))))))) rfl)) ?_
          refine Run.q (v := .bool false) rfl (OpQ.y (OpY.pure rfl)) ?_
          refine Run.q (v := .bool false) rfl (OpQ.y (OpY.pure rfl)) ?_
          refine Run.q (v := u10) rfl (OpQ.y (OpY.pure rfl)) ?_
          refine Run.q (v := u3) rfl (OpQ.y (OpY.pure rfl)) ?_
          refine Run.q (v := .bool true) rfl (OpQ.call (vs := [u10, u3]) (caps := []) Tcall_17 rfl rfl (fun w hs => eqGateS_true (hs.slOwn (.tail _ (List.Mem.head _))) (hs.slOwn (.tail _ (.tail _ (.tail _ (.tail _ (.tail _ (.tail _ (.tail _ (.tail _ (List.Mem.head _)))))))))) rfl)) ?_
          refine Run.q (v := .bool false) rfl (OpQ.y (OpY.pure rfl)) ?_
          refine Run.q (v := .bool false) rfl (OpQ.y (OpY.pure rfl)) ?_
          refine Run.q (v := .bool false) rfl (OpQ.y (OpY.pure rfl)) ?_
          refine Run.q (v := .bool (rowsOk rx rn)) rfl (OpQ.y (OpY.pure rfl)) ?_
          refine Run.q (v := .bool (rowsOk rx rn)) rfl (OpQ.y (OpY.pure rfl)) ?_
          refine Run.q (v := .bool false) rfl (OpQ.y (OpY.neqBSame Tbool_4 rfl rfl rfl)) ?_
          refine Run.q (v := .bool false) rfl (OpQ.y (OpY.pure rfl)) ?_
          refine Run.done ?_
          refine Run.cond (b := false) rfl (fun h => nomatch h) (fun _ => ?_)
          refine Run.skip ?_
          refine Run.seq ?_
          refine Run.region ?_
          refine Run.q (v := .int .i64 1) rfl (OpQ.y (OpY.pure rfl)) ?_
          refine Run.done ?_
          refine Run.seq ?_
          refine Run.region ?_
          refine Run.q (v := u5) rfl (OpQ.y (OpY.pure rfl)) ?_
          refine Run.q (v := .int .i64 1) rfl (OpQ.y (OpY.pure rfl)) ?_
          refine Run.q (v := .int .i64 (1 + (((elR rn rx).length : Nat) : Int) * 1)) rfl (OpQ.call (vs := [u5, .int .i64 1]) (caps := []) Tcall_43 rfl rfl (fun w hs => heldIntS_true (hs.slOwn (.tail _ (.tail _ (.tail _ (.tail _ (List.Mem.head _)))))) (by omega) (by omega) rfl)) ?_
          refine Run.q (v := .int .i64 (1 + (((elR rn rx).length : Nat) : Int) * 1)) rfl (OpQ.y (OpY.pure rfl)) ?_
          refine Run.done ?_
          refine Run.seq ?_
          refine Run.seq ?_
          refine Run.region ?_
          refine Run.q (v := .int .i64 (1 + (((elR rn rx).length : Nat) : Int) * 1)) rfl (OpQ.y (OpY.pure rfl)) ?_
          refine Run.q (v := .bool (decide ((1 + (((elR rn rx).length : Nat) : Int) * 1) < 0))) rfl (OpQ.y (OpY.pure rfl)) ?_
          refine Run.done ?_
          refine Run.cond (b := decide ((1 + (((elR rn rx).length : Nat) : Int) * 1) < 0)) rfl (fun h121 => ?_) (fun h121 => ?_)
          · have p121 := h121; try simp only [decide_eq_true_eq, decide_eq_false_iff_not, beq_iff_eq, bne_iff_ne, beq_eq_false_iff_ne, ne_eq, gt_iff_lt, ge_iff_le, Int.not_lt, Int.not_le, bne_eq_false_iff_eq, Bool.not_eq_true', Bool.not_eq_false', Bool.and_eq_true, Bool.and_eq_false_iff, Bool.or_eq_true, Bool.or_eq_false_iff, Decidable.not_not, List.cons.injEq, and_true] at p121
            exact absurd h121 (by simp <;> omega) --DONE
          · have p121 := h121; try simp only [decide_eq_true_eq, decide_eq_false_iff_not, beq_iff_eq, bne_iff_ne, beq_eq_false_iff_ne, ne_eq, gt_iff_lt, ge_iff_le, Int.not_lt, Int.not_le, bne_eq_false_iff_eq, Bool.not_eq_true', Bool.not_eq_false', Bool.and_eq_true, Bool.and_eq_false_iff, Bool.or_eq_true, Bool.or_eq_false_iff, Decidable.not_not, List.cons.injEq, and_true] at p121
            refine Run.skip ?_
            refine Run.seq ?_
            refine Run.region ?_
            refine Run.q (v := u6) rfl (OpQ.y (OpY.pure rfl)) ?_
            refine Run.q (v := .int .i64 (1 + (((elR rn rx).length : Nat) : Int) * 1)) rfl (OpQ.y (OpY.pure rfl)) ?_
            refine Run.q (v := .int .i64 (1 + (((elR rn rx).length : Nat) : Int) * 1 + (((elG rn rx).length : Nat) : Int) * 3)) rfl (OpQ.call (vs := [u6, .int .i64 (1 + (((elR rn rx).length : Nat) : Int) * 1)]) (caps := []) Tcall_19 rfl rfl (fun w hs => heldGateS_true (hs.slOwn (.tail _ (.tail _ (.tail _ (List.Mem.head _))))) (by omega) (by omega) rfl)) ?_
            refine Run.q (v := .int .i64 (1 + (((elR rn rx).length : Nat) : Int) * 1 + (((elG rn rx).length : Nat) : Int) * 3)) rfl (OpQ.y (OpY.pure rfl)) ?_
            refine Run.done ?_
            refine Run.seq ?_
            refine Run.seq ?_
            refine Run.region ?_
            refine Run.q (v := .int .i64 (1 + (((elR rn rx).length : Nat) : Int) * 1 + (((elG rn rx).length : Nat) : Int) * 3)) rfl (OpQ.y (OpY.pure rfl)) ?_
            refine Run.q (v := .bool (decide ((1 + (((elR rn rx).length : Nat) : Int) * 1 + (((elG rn rx).length : Nat) : Int) * 3) < 0))) rfl (OpQ.y (OpY.pure rfl)) ?_
            refine Run.done ?_
            refine Run.cond (b := decide ((1 + (((elR rn rx).length : Nat) : Int) * 1 + (((elG rn rx).length : Nat) : Int) * 3) < 0)) rfl (fun h126 => ?_) (fun h126 => ?_)
            · have p126 := h126; try simp only [decide_eq_true_eq, decide_eq_false_iff_not, beq_iff_eq, bne_iff_ne, beq_eq_false_iff_ne, ne_eq, gt_iff_lt, ge_iff_le, Int.not_lt, Int.not_le, bne_eq_false_iff_eq, Bool.not_eq_true', Bool.not_eq_false', Bool.and_eq_true, Bool.and_eq_false_iff, Bool.or_eq_true, Bool.or_eq_false_iff, Decidable.not_not, List.cons.injEq, and_true] at p126
              exact absurd h126 (by simp <;> omega) --DONE
            · have p126 := h126; try simp only [decide_eq_true_eq, decide_eq_false_iff_not, beq_iff_eq, bne_iff_ne, beq_eq_false_iff_ne, ne_eq, gt_iff_lt, ge_iff_le, Int.not_lt, Int.not_le, bne_eq_false_iff_eq, Bool.not_eq_true', Bool.not_eq_false', Bool.and_eq_true, Bool.and_eq_false_iff, Bool.or_eq_true, Bool.or_eq_false_iff, Decidable.not_not, List.cons.injEq, and_true] at p126
              refine Run.skip ?_
              refine Run.seq ?_
              refine Run.seq ?_
              refine Run.region ?_
              refine Run.q (v := .int .i64 (1 + (((elR rn rx).length : Nat) : Int) * 1 + (((elG rn rx).length : Nat) : Int) * 3)) rfl (OpQ.y (OpY.pure rfl)) ?_
              refine Run.q (v := .int .i64 (1 + (((elR rn rx).length : Nat) : Int) * 1 + (((elG rn rx).length : Nat) : Int) * 3)) rfl (OpQ.y (OpY.pure rfl)) ?_
              refine Run.q (v := .bool false) rfl (OpQ.y (OpY.neqSame rfl rfl rfl)) ?_
              refine Run.done ?_
              refine Run.cond (b := false) rfl (fun h => nomatch h) (fun _ => ?_)
              refine Run.skip ?_
              refine Run.seq ?_
              refine Run.region ?_
              refine Run.q (v := .bool true) rfl (OpQ.y (OpY.pure rfl)) ?_
              refine Run.done ?_
              refine Run.ret ?_
              refine ⟨.bool true, [], Out.one rfl rfl, (Some'.weak (.nil _)), ?_⟩
              rfl

end Go.Proofs.Ytgoaoifnckhdlaa
