/- Walks: valid gates and circuits, the qubits of a gate. -/
import Derived.Test.YteehfidjofcfmaaW1
import Derived.Test.YteehfidjofcfmaaFind
import Derived.Test.YteehfidjofcfmaaProg
set_option linter.unusedSimpArgs false
set_option linter.unusedVariables false
namespace Go.Proofs.Yteehfidjofcfmaa
open Go Go.RowKit
namespace CiT
theorem Tagg_71 : aggOf Try.prog 71 = some 3 := by kernel_rfl
theorem Tcall_100 : callable Try.prog 100 = true := by kernel_rfl
theorem Tcall_106 : callable Try.prog 106 = true := by kernel_rfl
theorem Tcall_107 : callable Try.prog 107 = true := by kernel_rfl
theorem Tcall_108 : callable Try.prog 108 = true := by kernel_rfl
theorem Tcall_129 : callable Try.prog 129 = true := by kernel_rfl
theorem Tcall_130 : callable Try.prog 130 = true := by kernel_rfl
theorem Tcall_131 : callable Try.prog 131 = true := by kernel_rfl
theorem Tcall_54 : callable Try.prog 54 = true := by kernel_rfl
theorem Tcall_55 : callable Try.prog 55 = true := by kernel_rfl
theorem Tcall_56 : callable Try.prog 56 = true := by kernel_rfl
theorem Tcall_73 : callable Try.prog 73 = true := by kernel_rfl
theorem Tfo_38_0 : fieldOff Try.prog 38 0 = some 0 := by kernel_rfl
theorem Tfo_38_1 : fieldOff Try.prog 38 1 = some 1 := by kernel_rfl
theorem Tfo_71_0 : fieldOff Try.prog 71 0 = some 0 := by kernel_rfl
theorem Tfo_71_1 : fieldOff Try.prog 71 1 = some 1 := by kernel_rfl
theorem Tfo_71_2 : fieldOff Try.prog 71 2 = some 2 := by kernel_rfl
theorem Tone_3 : oneOf Try.prog 3 = true := by kernel_rfl
theorem Tone_36 : oneOf Try.prog 36 = true := by kernel_rfl
theorem Tsize_71 : (Try.prog.info? 71).map (·.size) = some 3 := by kernel_rfl
theorem Tsl_36 : sliceOf Try.prog 36 = some (71, 3, 24, [.int .i64 0, .int .i64 0, .int .i64 0]) := by kernel_rfl
theorem Tzero_71 : zeroOf Try.prog 71 = some [.int .i64 0, .int .i64 0, .int .i64 0] := by kernel_rfl
end CiT
open CiT
set_option maxHeartbeats 1000000 in
set_option maxRecDepth 20000 in
theorem eqCircuit_true {Qubits : Int} {vGates : Value} {nGates : Nat} {xsGates : List Int} {qvGates : Value} {w : World} (hGates : Sl w vGates 3 nGates (ints xsGates)) (qhGates : Sl w qvGates 3 nGates (ints xsGates)) : Calls Try.prog 20 #[.agg #[.int .i64 Qubits, vGates], .agg #[.int .i64 Qubits, qvGates]] w (Post No w fun v _ => v = .bool true) := by
  refine enter (n := 16) (args := [.agg #[.int .i64 Qubits, vGates], .agg #[.int .i64 Qubits, qvGates]]) Try.func20 rfl rfl (St.empty _ _) ?_
  refine Run.seq ?_
  refine Run.region ?_
  refine Run.step rfl (OpStep.box (us := [.int .i64 Qubits, vGates]) rfl fun b1 => ?_)
  refine Run.step rfl (OpStep.box (us := [.int .i64 Qubits, qvGates]) rfl fun b2 => ?_)
  refine Run.q (v := .bool false) rfl (OpQ.y (OpY.pure rfl)) ?_
  refine Run.done ?_
  refine Run.seq ?_
  refine Run.seq ?_
  refine Run.region ?_
  refine Run.q (v := .pointer (some ⟨b1, 0, none⟩)) rfl (OpQ.y (OpY.fieldAddr Tfo_38_0 rfl rfl)) ?_
  refine Run.q (v := .int .i64 Qubits) rfl (OpQ.y (OpY.load1 Tone_3 rfl (Cells.blk (.tail _ (List.Mem.head _)) ⟨rfl, trivial⟩))) ?_
  refine Run.q (v := .pointer (some ⟨b2, 0, none⟩)) rfl (OpQ.y (OpY.fieldAddr Tfo_38_0 rfl rfl)) ?_
  refine Run.q (v := .int .i64 Qubits) rfl (OpQ.y (OpY.load1 Tone_3 rfl (Cells.blk (.head _) ⟨rfl, trivial⟩))) ?_
  refine Run.q (v := .bool false) rfl (OpQ.y (OpY.neqSame rfl rfl rfl)) ?_
  refine Run.done ?_
  refine Run.cond (b := false) rfl (fun h => nomatch h) (fun _ => ?_)
  refine Run.skip ?_
  refine Run.seq ?_
  refine Run.seq ?_
  refine Run.region ?_
  refine Run.q (v := .pointer (some ⟨b1, 1, none⟩)) rfl (OpQ.y (OpY.fieldAddr Tfo_38_1 rfl rfl)) ?_
  refine Run.q (v := vGates) rfl (OpQ.y (OpY.load1 Tone_36 rfl (Cells.blk (.tail _ (List.Mem.head _)) ⟨rfl, trivial⟩))) ?_
  refine Run.q (v := .pointer (some ⟨b2, 1, none⟩)) rfl (OpQ.y (OpY.fieldAddr Tfo_38_1 rfl rfl)) ?_
  refine Run.q (v := qvGates) rfl (OpQ.y (OpY.load1 Tone_36 rfl (Cells.blk (.head _) ⟨rfl, trivial⟩))) ?_
  refine Run.q (v := .bool true) rfl (OpQ.call (vs := [vGates, qvGates]) (caps := []) Tcall_54 rfl rfl (fun w hs => eqGateS_true (hs.sl hGates) (hs.sl qhGates) rfl)) ?_
  refine Run.q (v := .bool false) rfl (OpQ.y (OpY.pure rfl)) ?_
  refine Run.done ?_
  refine Run.cond (b := false) rfl (fun h => nomatch h) (fun _ => ?_)
  refine Run.skip ?_
  refine Run.seq ?_
  refine Run.region ?_
  refine Run.q (v := .bool true) rfl (OpQ.y (OpY.pure rfl)) ?_
  refine Run.done ?_
  refine Run.ret ?_
  refine ⟨.bool true, [], Out.one rfl rfl, (Some'.weak (.nil _)), ?_⟩
  rfl

set_option maxHeartbeats 1000000 in
set_option maxRecDepth 20000 in
theorem markCircuit_spec {Qubits : Int} {vGates : Value} {nGates : Nat} {xsGates : List Int} {k : Int} {w : World} (hst : St (Of [.own vGates 71 3 nGates (ints xsGates)]) w w [.own vGates 71 3 nGates (ints xsGates)]) (h0 : 0 ≤ k) (hk : k + ((nGates : Nat) : Int) * 3 < 4611686018427387904) :
    Calls Try.prog 22 #[.agg #[.int .i64 Qubits, vGates], .int .i64 k] w (Post (Of [.own vGates 71 3 nGates (ints xsGates)]) w fun v H => v = .int .i64 (k + ((nGates : Nat) : Int) * 3) ∧ H = [.own vGates 71 3 nGates (ints (mks (k) (nGates * 3)))]) := by
  refine enter (n := 10) (args := [.agg #[.int .i64 Qubits, vGates], .int .i64 k]) Try.func22 rfl rfl (hst) ?_
  refine Run.seq ?_
  refine Run.region ?_
  refine Run.step rfl (OpStep.box (us := [.int .i64 Qubits, vGates]) rfl fun b1 => ?_)
  refine Run.q (v := .int .i64 0) rfl (OpQ.y (OpY.pure rfl)) ?_
  refine Run.done ?_
  refine Run.seq ?_
  refine Run.region ?_
  refine Run.q (v := .pointer (some ⟨b1, 1, none⟩)) rfl (OpQ.y (OpY.fieldAddr Tfo_38_1 rfl rfl)) ?_
  refine Run.q (v := vGates) rfl (OpQ.y (OpY.load1 Tone_36 rfl (Cells.blk (.head _) ⟨rfl, trivial⟩))) ?_
  refine Run.q (v := .int .i64 k) rfl (OpQ.y (OpY.pure rfl)) ?_
  refine Run.step rfl (OpStep.callM (H1 := [.own vGates 71 3 nGates (ints xsGates)]) (H2 := [.blk b1 38 [.int .i64 Qubits, vGates]]) (vs := [vGates, .int .i64 k]) (caps := []) Tcall_55 rfl rfl (Weak.front [.blk b1 38 [.int .i64 Qubits, vGates]] (.own vGates 71 3 nGates (ints xsGates)) []) (fun w hs => markGateS_spec (hs.holds _ (.head _)) (by omega) (by omega)) ?_)
  rintro _ _ ⟨rfl, rfl⟩
  show Run _ _ (putF _ _ _ (.int .i64 (k + ((nGates : Nat) : Int) * 3))) [.own vGates 71 3 nGates (ints (mks k (nGates * 3))), .blk b1 38 [.int .i64 Qubits, vGates]]
  refine Run.q (v := .int .i64 (k + ((nGates : Nat) : Int) * 3)) rfl (OpQ.y (OpY.pure rfl)) ?_
  refine Run.done ?_
  refine Run.seq ?_
  refine Run.region ?_
  refine Run.q (v := .int .i64 (k + ((nGates : Nat) : Int) * 3)) rfl (OpQ.y (OpY.pure rfl)) ?_
  refine Run.q (v := .int .i64 (k + ((nGates : Nat) : Int) * 3)) rfl (OpQ.y (OpY.pure rfl)) ?_
  refine Run.done ?_
  refine Run.ret ?_
  refine ⟨.int .i64 (k + ((nGates : Nat) : Int) * 3), [.own vGates 71 3 nGates (ints (mks (k) (nGates * 3)))], Out.one rfl rfl, (Some'.weak (.takeEq (by first | rfl | simp) (.nil _))), ?_⟩
  exact ⟨rfl, rfl⟩

set_option maxHeartbeats 1000000 in
set_option maxRecDepth 20000 in
theorem heldCircuit_true {Qubits : Int} {vGates : Value} {nGates : Nat} {xsGates : List Int} {k : Int} {w : World} (hGates : Sl w vGates 3 nGates (ints xsGates)) (h0 : 0 ≤ k) (hk : k + ((nGates : Nat) : Int) * 3 < 4611686018427387904) (heGates : xsGates = mks (k) (nGates * 3)) :
    Calls Try.prog 23 #[.agg #[.int .i64 Qubits, vGates], .int .i64 k] w (Post No w fun v _ => v = .int .i64 (k + ((nGates : Nat) : Int) * 3)) := by
  refine enter (n := 12) (args := [.agg #[.int .i64 Qubits, vGates], .int .i64 k]) Try.func23 rfl rfl (St.empty _ _) ?_
  refine Run.seq ?_
  refine Run.region ?_
  refine Run.step rfl (OpStep.box (us := [.int .i64 Qubits, vGates]) rfl fun b1 => ?_)
  refine Run.q (v := .int .i64 0) rfl (OpQ.y (OpY.pure rfl)) ?_
  refine Run.done ?_
  refine Run.seq ?_
  refine Run.region ?_
  refine Run.q (v := .pointer (some ⟨b1, 1, none⟩)) rfl (OpQ.y (OpY.fieldAddr Tfo_38_1 rfl rfl)) ?_
  refine Run.q (v := vGates) rfl (OpQ.y (OpY.load1 Tone_36 rfl (Cells.blk (.head _) ⟨rfl, trivial⟩))) ?_
  refine Run.q (v := .int .i64 k) rfl (OpQ.y (OpY.pure rfl)) ?_
  refine Run.q (v := .int .i64 (k + ((nGates : Nat) : Int) * 3)) rfl (OpQ.call (vs := [vGates, .int .i64 k]) (caps := []) Tcall_56 rfl rfl (fun w hs => heldGateS_true (hs.sl hGates) (by omega) (by omega) heGates)) ?_
  refine Run.q (v := .int .i64 (k + ((nGates : Nat) : Int) * 3)) rfl (OpQ.y (OpY.pure rfl)) ?_
  refine Run.done ?_
  refine Run.seq ?_
  refine Run.seq ?_
  refine Run.region ?_
  refine Run.q (v := .int .i64 (k + ((nGates : Nat) : Int) * 3)) rfl (OpQ.y (OpY.pure rfl)) ?_
  refine Run.q (v := .bool (decide ((k + ((nGates : Nat) : Int) * 3) < 0))) rfl (OpQ.y (OpY.pure rfl)) ?_
  refine Run.done ?_
  refine Run.cond (b := decide ((k + ((nGates : Nat) : Int) * 3) < 0)) rfl (fun h10 => ?_) (fun h10 => ?_)
  · have p10 := h10; try simp only [bs] at p10
    exact absurd h10 (by simp <;> omega) --DONE
  · have p10 := h10; try simp only [bs] at p10
    refine Run.skip ?_
    refine Run.seq ?_
    refine Run.region ?_
    refine Run.q (v := .int .i64 (k + ((nGates : Nat) : Int) * 3)) rfl (OpQ.y (OpY.pure rfl)) ?_
    refine Run.q (v := .int .i64 (k + ((nGates : Nat) : Int) * 3)) rfl (OpQ.y (OpY.pure rfl)) ?_
    refine Run.done ?_
    refine Run.ret ?_
    refine ⟨.int .i64 (k + ((nGates : Nat) : Int) * 3), [], Out.one rfl rfl, (Some'.weak (.nil _)), ?_⟩
    rfl


def gateOk (n k a b : Int) : Bool := decide ((1 ≤ k ∧ k ≤ 8 ∧ 0 ≤ a ∧ a < n ∧ b = 0) ∨ (9 ≤ k ∧ k ≤ 11 ∧ 0 ≤ a ∧ a < n ∧ 0 ≤ b ∧ b < n ∧ a ≠ b) ∨ (k = 12 ∧ a = 0 ∧ b = 0))
def gateAt (n : Int) (xs : List Int) (i : Nat) : Bool := gateOk n (ix xs (i * 3)) (ix xs (i * 3 + 1)) (ix xs (i * 3 + 2))
def circOk (N : Int) (xs : List Int) (n : Nat) : Bool := within N 1 5 && decide (n ≤ 400) && allI (gateAt N xs) n
theorem circOk_N {N : Int} {xs : List Int} {n : Nat} (h : circOk N xs n = true) : 1 ≤ N ∧ N ≤ 5 := by
  simp only [circOk, Bool.and_eq_true] at h; exact within_iff.1 h.1.1
theorem circOk_n {N : Int} {xs : List Int} {n : Nat} (h : circOk N xs n = true) : n ≤ 400 := by
  simp only [circOk, Bool.and_eq_true, decide_eq_true_eq] at h; exact h.1.2
theorem circOk_gate {N : Int} {xs : List Int} {n : Nat} (h : circOk N xs n = true) {i : Nat} (hi : i < n) : gateAt N xs i = true := by
  simp only [circOk, Bool.and_eq_true] at h; exact allI_iff.1 h.2 i hi
theorem gateOk_split {n k a b : Int} (h : gateOk n k a b = true) : (1 ≤ k ∧ k ≤ 8 ∧ 0 ≤ a ∧ a < n ∧ b = 0) ∨ (9 ≤ k ∧ k ≤ 11 ∧ 0 ≤ a ∧ a < n ∧ 0 ≤ b ∧ b < n ∧ a ≠ b) ∨ (k = 12 ∧ a = 0 ∧ b = 0) := of_decide_eq_true h
/-- The qubits of a gate. -/
def qs (k a b : Int) : List Int := if k = 12 then [] else if 9 ≤ k ∧ k ≤ 11 then [a, b] else [a]
theorem qs_le (k a b : Int) : (qs k a b).length ≤ 2 := by unfold qs; split <;> (try split) <;> simp

set_option maxHeartbeats 1000000 in
set_option maxRecDepth 20000 in
theorem isTwo_spec (k : Int) (w : World) : Calls Try.prog 130 #[.int .i64 k] w (Post No w fun v _ => v = .bool (decide (9 ≤ k ∧ k ≤ 11))) := by
  refine enter (n := 5) (args := [.int .i64 k]) Try.func130 rfl rfl (St.empty _ _) ?_
  refine Run.seq ?_
  refine Run.region ?_
  refine Run.q (v := .bool false) rfl (OpQ.y (OpY.pure rfl)) ?_
  refine Run.done ?_
  refine Run.seq ?_
  refine Run.region ?_
  refine Run.q (v := .int .i64 k) rfl (OpQ.y (OpY.pure rfl)) ?_
  refine Run.q (v := .bool (within k 9 11)) rfl (OpQ.call (vs := [.int .i64 k, .int .i64 9, .int .i64 11]) (caps := []) Tcall_73 rfl rfl (fun w hs => within_spec _ _ _ w)) ?_
  refine Run.q (v := .bool (within k 9 11)) rfl (OpQ.y (OpY.pure rfl)) ?_
  refine Run.done ?_
  refine Run.ret ?_
  refine ⟨.bool (within k 9 11), [], Out.one rfl rfl, (Some'.weak (.nil _)), ?_⟩
  show _ = _; rw [within, Bool.decide_and]

set_option maxHeartbeats 1000000 in
set_option maxRecDepth 20000 in
theorem l4Gate_spec {n k a b : Int} (hn : 1 ≤ n ∧ n ≤ 5) (w : World) : Calls Try.prog 131 #[.int .i64 n, .agg #[.int .i64 k, .int .i64 a, .int .i64 b]] w (Post No w fun v _ => v = .bool (gateOk n k a b)) := by
  have hn5 := within_iff.2 hn
  refine enter (n := 55) (args := [.int .i64 n, .agg #[.int .i64 k, .int .i64 a, .int .i64 b]]) Try.func131 rfl rfl (St.empty _ _) ?_
  refine Run.seq ?_
  refine Run.region ?_
  refine Run.step rfl (OpStep.box (us := [.int .i64 k, .int .i64 a, .int .i64 b]) rfl fun b1 => ?_)
  refine Run.q (v := .bool false) rfl (OpQ.y (OpY.pure rfl)) ?_
  refine Run.done ?_
  refine Run.seq ?_
  refine Run.block ?_
  refine Run.seq ?_
  refine Run.region ?_
  refine Run.q (v := .pointer (some ⟨b1, 0, none⟩)) rfl (OpQ.y (OpY.fieldAddr Tfo_71_0 rfl rfl)) ?_
  refine Run.q (v := .int .i64 k) rfl (OpQ.y (OpY.load1 Tone_3 rfl (Cells.blk (.head _) ⟨rfl, trivial⟩))) ?_
  refine Run.q (v := .bool (within k 1 8)) rfl (OpQ.call (vs := [.int .i64 k, .int .i64 1, .int .i64 8]) (caps := []) Tcall_100 rfl rfl (fun w hs => l1In_spec _ _ _ w)) ?_
  refine Run.q (v := .bool (within k 1 8)) rfl (OpQ.y (OpY.pure rfl)) ?_
  refine Run.done ?_
  refine Run.cond (b := within k 1 8) rfl (fun h5 => ?_) (fun h5 => ?_)
  · have p5 := h5; try simp only [bs] at p5
    refine Run.seq ?_
    refine Run.region ?_
    refine Run.q (v := .pointer (some ⟨b1, 1, none⟩)) rfl (OpQ.y (OpY.fieldAddr Tfo_71_1 rfl rfl)) ?_
    refine Run.q (v := .int .i64 a) rfl (OpQ.y (OpY.load1 Tone_3 rfl (Cells.blk (.head _) ⟨rfl, trivial⟩))) ?_
    refine Run.q (v := .int .i64 n) rfl (OpQ.y (OpY.pure rfl)) ?_
    refine Run.q (v := .int .i64 (n - 1)) rfl (OpQ.y (OpY.sub rfl rfl rfl (by omega) (by omega))) ?_
    refine Run.q (v := .bool (within a 0 (n - 1))) rfl (OpQ.call (vs := [.int .i64 a, .int .i64 0, .int .i64 (n - 1)]) (caps := []) Tcall_100 rfl rfl (fun w hs => l1In_spec _ _ _ w)) ?_
    rcases Bool.eq_false_or_eq_true (within a 0 (n - 1)) with h14 | h14
    · refine Run.q (v := .bool true) rfl (OpQ.y (OpY.moveB rfl h14)) ?_
      have p14 := h14; try simp only [bs] at p14
      refine Run.q (v := .pointer (some ⟨b1, 2, none⟩)) rfl (OpQ.y (OpY.fieldAddr Tfo_71_2 rfl rfl)) ?_
      refine Run.q (v := .int .i64 b) rfl (OpQ.y (OpY.load1 Tone_3 rfl (Cells.blk (.head _) ⟨rfl, trivial⟩))) ?_
      refine Run.q (v := .bool (b == 0)) rfl (OpQ.y (OpY.pure rfl)) ?_
      refine Run.q (v := .bool (b == 0)) rfl (OpQ.y (OpY.pure rfl)) ?_
      refine Run.q (v := .bool (b == 0)) rfl (OpQ.y (OpY.pure rfl)) ?_
      refine Run.done ?_
      refine Run.ret ?_
      refine ⟨.bool (b == 0), [], Out.one rfl rfl, (Some'.weak (.nil _)), ?_⟩
      show _ = _; congr 1; rw [eq_comm]; simp only [within, Bool.and_eq_true, Bool.and_eq_false_iff, decide_eq_true_eq, decide_eq_false_iff_not, beq_iff_eq, Bool.not_eq_true', Bool.not_eq_false', bne_iff_ne, ne_eq, beq_eq_false_iff_ne, bne_eq_false_iff_eq] at *; unfold gateOk; first | (rw [decide_eq_true_iff]; omega) | (rw [decide_eq_false_iff_not]; omega) | (rw [Bool.eq_iff_iff, decide_eq_true_iff, beq_iff_eq]; omega) | (rw [Bool.eq_iff_iff, decide_eq_true_iff, bne_iff_ne]; omega) | (rw [Bool.eq_iff_iff, decide_eq_true_iff, within_iff]; omega)
    · refine Run.q (v := .bool false) rfl (OpQ.y (OpY.moveB rfl h14)) ?_
      have p14 := h14; try simp only [bs] at p14
      refine Run.pass rfl ?_
      refine Run.pass rfl ?_
      refine Run.pass rfl ?_
      refine Run.q (v := .bool false) rfl (OpQ.y (OpY.pure rfl)) ?_
      refine Run.q (v := .bool false) rfl (OpQ.y (OpY.pure rfl)) ?_
      refine Run.done ?_
      refine Run.ret ?_
      refine ⟨.bool false, [], Out.one rfl rfl, (Some'.weak (.nil _)), ?_⟩
      show _ = _; congr 1; rw [eq_comm]; simp only [within, Bool.and_eq_true, Bool.and_eq_false_iff, decide_eq_true_eq, decide_eq_false_iff_not, beq_iff_eq, Bool.not_eq_true', Bool.not_eq_false', bne_iff_ne, ne_eq, beq_eq_false_iff_ne, bne_eq_false_iff_eq] at *; unfold gateOk; first | (rw [decide_eq_true_iff]; omega) | (rw [decide_eq_false_iff_not]; omega) | (rw [Bool.eq_iff_iff, decide_eq_true_iff, beq_iff_eq]; omega) | (rw [Bool.eq_iff_iff, decide_eq_true_iff, bne_iff_ne]; omega) | (rw [Bool.eq_iff_iff, decide_eq_true_iff, within_iff]; omega)
  · have p5 := h5; try simp only [bs] at p5
    refine Run.seq ?_
    refine Run.region ?_
    refine Run.q (v := .pointer (some ⟨b1, 0, none⟩)) rfl (OpQ.y (OpY.fieldAddr Tfo_71_0 rfl rfl)) ?_
    refine Run.q (v := .int .i64 k) rfl (OpQ.y (OpY.load1 Tone_3 rfl (Cells.blk (.head _) ⟨rfl, trivial⟩))) ?_
    refine Run.q (v := .bool (within k 9 11)) rfl (OpQ.call (vs := [.int .i64 k, .int .i64 9, .int .i64 11]) (caps := []) Tcall_100 rfl rfl (fun w hs => l1In_spec _ _ _ w)) ?_
    refine Run.q (v := .bool (within k 9 11)) rfl (OpQ.y (OpY.pure rfl)) ?_
    refine Run.done ?_
    refine Run.cond (b := within k 9 11) rfl (fun h19 => ?_) (fun h19 => ?_)
    · have p19 := h19; try simp only [bs] at p19
      refine Run.seq ?_
      refine Run.region ?_
      refine Run.q (v := .pointer (some ⟨b1, 1, none⟩)) rfl (OpQ.y (OpY.fieldAddr Tfo_71_1 rfl rfl)) ?_
      refine Run.q (v := .int .i64 a) rfl (OpQ.y (OpY.load1 Tone_3 rfl (Cells.blk (.head _) ⟨rfl, trivial⟩))) ?_
      refine Run.q (v := .int .i64 n) rfl (OpQ.y (OpY.pure rfl)) ?_
      refine Run.q (v := .int .i64 (n - 1)) rfl (OpQ.y (OpY.sub rfl rfl rfl (by omega) (by omega))) ?_
      refine Run.q (v := .bool (within a 0 (n - 1))) rfl (OpQ.call (vs := [.int .i64 a, .int .i64 0, .int .i64 (n - 1)]) (caps := []) Tcall_100 rfl rfl (fun w hs => l1In_spec _ _ _ w)) ?_
      rcases Bool.eq_false_or_eq_true (within a 0 (n - 1)) with h28 | h28
      · refine Run.q (v := .bool true) rfl (OpQ.y (OpY.moveB rfl h28)) ?_
        have p28 := h28; try simp only [bs] at p28
        refine Run.q (v := .pointer (some ⟨b1, 2, none⟩)) rfl (OpQ.y (OpY.fieldAddr Tfo_71_2 rfl rfl)) ?_
        refine Run.q (v := .int .i64 b) rfl (OpQ.y (OpY.load1 Tone_3 rfl (Cells.blk (.head _) ⟨rfl, trivial⟩))) ?_
        refine Run.q (v := .int .i64 n) rfl (OpQ.y (OpY.pure rfl)) ?_
        refine Run.q (v := .int .i64 (n - 1)) rfl (OpQ.y (OpY.sub rfl rfl rfl (by omega) (by omega))) ?_
        refine Run.q (v := .bool (within b 0 (n - 1))) rfl (OpQ.call (vs := [.int .i64 b, .int .i64 0, .int .i64 (n - 1)]) (caps := []) Tcall_100 rfl rfl (fun w hs => l1In_spec _ _ _ w)) ?_
        refine Run.q (v := .bool (within b 0 (n - 1))) rfl (OpQ.y (OpY.pure rfl)) ?_
        rcases Bool.eq_false_or_eq_true (within b 0 (n - 1)) with h35 | h35
        · refine Run.q (v := .bool true) rfl (OpQ.y (OpY.moveB rfl h35)) ?_
          have p35 := h35; try simp only [bs] at p35
          refine Run.q (v := .pointer (some ⟨b1, 1, none⟩)) rfl (OpQ.y (OpY.fieldAddr Tfo_71_1 rfl rfl)) ?_
          refine Run.q (v := .int .i64 a) rfl (OpQ.y (OpY.load1 Tone_3 rfl (Cells.blk (.head _) ⟨rfl, trivial⟩))) ?_
          refine Run.q (v := .pointer (some ⟨b1, 2, none⟩)) rfl (OpQ.y (OpY.fieldAddr Tfo_71_2 rfl rfl)) ?_
          refine Run.q (v := .int .i64 b) rfl (OpQ.y (OpY.load1 Tone_3 rfl (Cells.blk (.head _) ⟨rfl, trivial⟩))) ?_
          refine Run.q (v := .bool (a != b)) rfl (OpQ.y (OpY.pure rfl)) ?_
          refine Run.q (v := .bool (a != b)) rfl (OpQ.y (OpY.pure rfl)) ?_
          refine Run.q (v := .bool (a != b)) rfl (OpQ.y (OpY.pure rfl)) ?_
          refine Run.done ?_
          refine Run.ret ?_
          refine ⟨.bool (a != b), [], Out.one rfl rfl, (Some'.weak (.nil _)), ?_⟩
          show _ = _; congr 1; rw [eq_comm]; simp only [within, Bool.and_eq_true, Bool.and_eq_false_iff, decide_eq_true_eq, decide_eq_false_iff_not, beq_iff_eq, Bool.not_eq_true', Bool.not_eq_false', bne_iff_ne, ne_eq, beq_eq_false_iff_ne, bne_eq_false_iff_eq] at *; unfold gateOk; first | (rw [decide_eq_true_iff]; omega) | (rw [decide_eq_false_iff_not]; omega) | (rw [Bool.eq_iff_iff, decide_eq_true_iff, beq_iff_eq]; omega) | (rw [Bool.eq_iff_iff, decide_eq_true_iff, bne_iff_ne]; omega) | (rw [Bool.eq_iff_iff, decide_eq_true_iff, within_iff]; omega)
        · refine Run.q (v := .bool false) rfl (OpQ.y (OpY.moveB rfl h35)) ?_
          have p35 := h35; try simp only [bs] at p35
          refine Run.pass rfl ?_
          refine Run.pass rfl ?_
          refine Run.pass rfl ?_
          refine Run.pass rfl ?_
          refine Run.pass rfl ?_
          refine Run.q (v := .bool false) rfl (OpQ.y (OpY.pure rfl)) ?_
          refine Run.q (v := .bool false) rfl (OpQ.y (OpY.pure rfl)) ?_
          refine Run.done ?_
          refine Run.ret ?_
          refine ⟨.bool false, [], Out.one rfl rfl, (Some'.weak (.nil _)), ?_⟩
          show _ = _; congr 1; rw [eq_comm]; simp only [within, Bool.and_eq_true, Bool.and_eq_false_iff, decide_eq_true_eq, decide_eq_false_iff_not, beq_iff_eq, Bool.not_eq_true', Bool.not_eq_false', bne_iff_ne, ne_eq, beq_eq_false_iff_ne, bne_eq_false_iff_eq] at *; unfold gateOk; first | (rw [decide_eq_true_iff]; omega) | (rw [decide_eq_false_iff_not]; omega) | (rw [Bool.eq_iff_iff, decide_eq_true_iff, beq_iff_eq]; omega) | (rw [Bool.eq_iff_iff, decide_eq_true_iff, bne_iff_ne]; omega) | (rw [Bool.eq_iff_iff, decide_eq_true_iff, within_iff]; omega)
      · refine Run.q (v := .bool false) rfl (OpQ.y (OpY.moveB rfl h28)) ?_
        have p28 := h28; try simp only [bs] at p28
        refine Run.pass rfl ?_
        refine Run.pass rfl ?_
        refine Run.pass rfl ?_
        refine Run.pass rfl ?_
        refine Run.pass rfl ?_
        refine Run.q (v := .bool false) rfl (OpQ.y (OpY.pure rfl)) ?_
        refine Run.q (v := .bool false) rfl (OpQ.y (OpY.pure rfl)) ?_
        refine Run.pass rfl ?_
        refine Run.pass rfl ?_
        refine Run.pass rfl ?_
        refine Run.pass rfl ?_
        refine Run.pass rfl ?_
        refine Run.q (v := .bool false) rfl (OpQ.y (OpY.pure rfl)) ?_
        refine Run.q (v := .bool false) rfl (OpQ.y (OpY.pure rfl)) ?_
        refine Run.done ?_
        refine Run.ret ?_
        refine ⟨.bool false, [], Out.one rfl rfl, (Some'.weak (.nil _)), ?_⟩
        show _ = _; congr 1; rw [eq_comm]; simp only [within, Bool.and_eq_true, Bool.and_eq_false_iff, decide_eq_true_eq, decide_eq_false_iff_not, beq_iff_eq, Bool.not_eq_true', Bool.not_eq_false', bne_iff_ne, ne_eq, beq_eq_false_iff_ne, bne_eq_false_iff_eq] at *; unfold gateOk; first | (rw [decide_eq_true_iff]; omega) | (rw [decide_eq_false_iff_not]; omega) | (rw [Bool.eq_iff_iff, decide_eq_true_iff, beq_iff_eq]; omega) | (rw [Bool.eq_iff_iff, decide_eq_true_iff, bne_iff_ne]; omega) | (rw [Bool.eq_iff_iff, decide_eq_true_iff, within_iff]; omega)
    · have p19 := h19; try simp only [bs] at p19
      refine Run.skip ?_
      refine Run.blockEnd ?_
      refine Run.seq ?_
      refine Run.region ?_
      refine Run.q (v := .pointer (some ⟨b1, 0, none⟩)) rfl (OpQ.y (OpY.fieldAddr Tfo_71_0 rfl rfl)) ?_
      refine Run.q (v := .int .i64 k) rfl (OpQ.y (OpY.load1 Tone_3 rfl (Cells.blk (.head _) ⟨rfl, trivial⟩))) ?_
      refine Run.q (v := .bool (k == 12)) rfl (OpQ.y (OpY.pure rfl)) ?_
      rcases Bool.eq_false_or_eq_true (k == 12) with h45 | h45
      · refine Run.q (v := .bool true) rfl (OpQ.y (OpY.moveB rfl h45)) ?_
        have p45 := h45; try simp only [bs] at p45
        refine Run.q (v := .pointer (some ⟨b1, 1, none⟩)) rfl (OpQ.y (OpY.fieldAddr Tfo_71_1 rfl rfl)) ?_
        refine Run.q (v := .int .i64 a) rfl (OpQ.y (OpY.load1 Tone_3 rfl (Cells.blk (.head _) ⟨rfl, trivial⟩))) ?_
        refine Run.q (v := .bool (a == 0)) rfl (OpQ.y (OpY.pure rfl)) ?_
        refine Run.q (v := .bool (a == 0)) rfl (OpQ.y (OpY.pure rfl)) ?_
        rcases Bool.eq_false_or_eq_true (a == 0) with h50 | h50
        · refine Run.q (v := .bool true) rfl (OpQ.y (OpY.moveB rfl h50)) ?_
          have p50 := h50; try simp only [bs] at p50
          refine Run.q (v := .pointer (some ⟨b1, 2, none⟩)) rfl (OpQ.y (OpY.fieldAddr Tfo_71_2 rfl rfl)) ?_
          refine Run.q (v := .int .i64 b) rfl (OpQ.y (OpY.load1 Tone_3 rfl (Cells.blk (.head _) ⟨rfl, trivial⟩))) ?_
          refine Run.q (v := .bool (b == 0)) rfl (OpQ.y (OpY.pure rfl)) ?_
          refine Run.q (v := .bool (b == 0)) rfl (OpQ.y (OpY.pure rfl)) ?_
          refine Run.q (v := .bool (b == 0)) rfl (OpQ.y (OpY.pure rfl)) ?_
          refine Run.done ?_
          refine Run.ret ?_
          refine ⟨.bool (b == 0), [], Out.one rfl rfl, (Some'.weak (.nil _)), ?_⟩
          show _ = _; congr 1; rw [eq_comm]; simp only [within, Bool.and_eq_true, Bool.and_eq_false_iff, decide_eq_true_eq, decide_eq_false_iff_not, beq_iff_eq, Bool.not_eq_true', Bool.not_eq_false', bne_iff_ne, ne_eq, beq_eq_false_iff_ne, bne_eq_false_iff_eq] at *; unfold gateOk; first | (rw [decide_eq_true_iff]; omega) | (rw [decide_eq_false_iff_not]; omega) | (rw [Bool.eq_iff_iff, decide_eq_true_iff, beq_iff_eq]; omega) | (rw [Bool.eq_iff_iff, decide_eq_true_iff, bne_iff_ne]; omega) | (rw [Bool.eq_iff_iff, decide_eq_true_iff, within_iff]; omega)
        · refine Run.q (v := .bool false) rfl (OpQ.y (OpY.moveB rfl h50)) ?_
          have p50 := h50; try simp only [bs] at p50
          refine Run.pass rfl ?_
          refine Run.pass rfl ?_
          refine Run.pass rfl ?_
          refine Run.q (v := .bool false) rfl (OpQ.y (OpY.pure rfl)) ?_
          refine Run.q (v := .bool false) rfl (OpQ.y (OpY.pure rfl)) ?_
          refine Run.done ?_
          refine Run.ret ?_
          refine ⟨.bool false, [], Out.one rfl rfl, (Some'.weak (.nil _)), ?_⟩
          show _ = _; congr 1; rw [eq_comm]; simp only [within, Bool.and_eq_true, Bool.and_eq_false_iff, decide_eq_true_eq, decide_eq_false_iff_not, beq_iff_eq, Bool.not_eq_true', Bool.not_eq_false', bne_iff_ne, ne_eq, beq_eq_false_iff_ne, bne_eq_false_iff_eq] at *; unfold gateOk; first | (rw [decide_eq_true_iff]; omega) | (rw [decide_eq_false_iff_not]; omega) | (rw [Bool.eq_iff_iff, decide_eq_true_iff, beq_iff_eq]; omega) | (rw [Bool.eq_iff_iff, decide_eq_true_iff, bne_iff_ne]; omega) | (rw [Bool.eq_iff_iff, decide_eq_true_iff, within_iff]; omega)
      · refine Run.q (v := .bool false) rfl (OpQ.y (OpY.moveB rfl h45)) ?_
        have p45 := h45; try simp only [bs] at p45
        refine Run.pass rfl ?_
        refine Run.pass rfl ?_
        refine Run.pass rfl ?_
        refine Run.q (v := .bool false) rfl (OpQ.y (OpY.pure rfl)) ?_
        refine Run.q (v := .bool false) rfl (OpQ.y (OpY.pure rfl)) ?_
        refine Run.pass rfl ?_
        refine Run.pass rfl ?_
        refine Run.pass rfl ?_
        refine Run.q (v := .bool false) rfl (OpQ.y (OpY.pure rfl)) ?_
        refine Run.q (v := .bool false) rfl (OpQ.y (OpY.pure rfl)) ?_
        refine Run.done ?_
        refine Run.ret ?_
        refine ⟨.bool false, [], Out.one rfl rfl, (Some'.weak (.nil _)), ?_⟩
        show _ = _; congr 1; rw [eq_comm]; simp only [within, Bool.and_eq_true, Bool.and_eq_false_iff, decide_eq_true_eq, decide_eq_false_iff_not, beq_iff_eq, Bool.not_eq_true', Bool.not_eq_false', bne_iff_ne, ne_eq, beq_eq_false_iff_ne, bne_eq_false_iff_eq] at *; unfold gateOk; first | (rw [decide_eq_true_iff]; omega) | (rw [decide_eq_false_iff_not]; omega) | (rw [Bool.eq_iff_iff, decide_eq_true_iff, beq_iff_eq]; omega) | (rw [Bool.eq_iff_iff, decide_eq_true_iff, bne_iff_ne]; omega) | (rw [Bool.eq_iff_iff, decide_eq_true_iff, within_iff]; omega)

set_option maxHeartbeats 1000000 in
set_option maxRecDepth 20000 in
theorem IsValidGate_spec {n k a b : Int} (hn : 1 ≤ n ∧ n ≤ 5) (w : World) : Calls Try.prog 108 #[.int .i64 n, .agg #[.int .i64 k, .int .i64 a, .int .i64 b]] w (Post No w fun v _ => v = .bool (gateOk n k a b)) := by
  have hn5 := within_iff.2 hn
  refine enter (n := 60) (args := [.int .i64 n, .agg #[.int .i64 k, .int .i64 a, .int .i64 b]]) Try.func108 rfl rfl (St.empty _ _) ?_
  refine Run.seq ?_
  refine Run.region ?_
  refine Run.step rfl (OpStep.box (us := [.int .i64 k, .int .i64 a, .int .i64 b]) rfl fun b1 => ?_)
  refine Run.q (v := .bool false) rfl (OpQ.y (OpY.pure rfl)) ?_
  refine Run.done ?_
  refine Run.seq ?_
  refine Run.block ?_
  refine Run.seq ?_
  refine Run.region ?_
  refine Run.q (v := .int .i64 n) rfl (OpQ.y (OpY.pure rfl)) ?_
  refine Run.q (v := .bool (within n 1 5)) rfl (OpQ.call (vs := [.int .i64 n, .int .i64 1, .int .i64 5]) (caps := []) Tcall_73 rfl rfl (fun w hs => within_spec _ _ _ w)) ?_
  refine Run.q (v := .bool (!(within n 1 5))) rfl (OpQ.y (OpY.pure rfl)) ?_
  rcases Bool.eq_false_or_eq_true (!(within n 1 5)) with h9 | h9
  · refine Run.q (v := .bool true) rfl (OpQ.y (OpY.moveB rfl h9)) ?_
    have p9 := h9; try simp only [bs] at p9
    refine Run.pass rfl ?_
    refine Run.pass rfl ?_
    refine Run.pass rfl ?_
    refine Run.pass rfl ?_
    refine Run.q (v := .bool true) rfl (OpQ.y (OpY.pure rfl)) ?_
    refine Run.q (v := .bool true) rfl (OpQ.y (OpY.pure rfl)) ?_
    refine Run.done ?_
    refine Run.cond (b := true) rfl (fun _ => ?_) (fun h => nomatch h)
    refine Run.seq ?_
    refine Run.region ?_
    refine Run.q (v := .bool false) rfl (OpQ.y (OpY.pure rfl)) ?_
    refine Run.done ?_
    refine Run.ret ?_
    refine ⟨.bool false, [], Out.one rfl rfl, (Some'.weak (.nil _)), ?_⟩
    show _ = _; congr 1; rw [eq_comm]; simp only [within, Bool.and_eq_true, Bool.and_eq_false_iff, decide_eq_true_eq, decide_eq_false_iff_not, beq_iff_eq, Bool.not_eq_true', Bool.not_eq_false', bne_iff_ne, ne_eq, beq_eq_false_iff_ne, bne_eq_false_iff_eq] at *; unfold gateOk; first | (rw [decide_eq_true_iff]; omega) | (rw [decide_eq_false_iff_not]; omega) | (rw [Bool.eq_iff_iff, decide_eq_true_iff, beq_iff_eq]; omega) | (rw [Bool.eq_iff_iff, decide_eq_true_iff, bne_iff_ne]; omega) | (rw [Bool.eq_iff_iff, decide_eq_true_iff, within_iff]; omega)
  · refine Run.q (v := .bool false) rfl (OpQ.y (OpY.moveB rfl h9)) ?_
    have p9 := h9; try simp only [bs] at p9
    refine Run.q (v := .pointer (some ⟨b1, 0, none⟩)) rfl (OpQ.y (OpY.fieldAddr Tfo_71_0 rfl rfl)) ?_
    refine Run.q (v := .int .i64 k) rfl (OpQ.y (OpY.load1 Tone_3 rfl (Cells.blk (.head _) ⟨rfl, trivial⟩))) ?_
    refine Run.q (v := .bool (within k 1 12)) rfl (OpQ.call (vs := [.int .i64 k, .int .i64 1, .int .i64 12]) (caps := []) Tcall_73 rfl rfl (fun w hs => within_spec _ _ _ w)) ?_
    refine Run.q (v := .bool (!(within k 1 12))) rfl (OpQ.y (OpY.pure rfl)) ?_
    refine Run.q (v := .bool (!(within k 1 12))) rfl (OpQ.y (OpY.pure rfl)) ?_
    refine Run.q (v := .bool (!(within k 1 12))) rfl (OpQ.y (OpY.pure rfl)) ?_
    refine Run.done ?_
    refine Run.cond (b := !(within k 1 12)) rfl (fun h5 => ?_) (fun h5 => ?_)
    · have p5 := h5; try simp only [bs] at p5
      refine Run.seq ?_
      refine Run.region ?_
      refine Run.q (v := .bool false) rfl (OpQ.y (OpY.pure rfl)) ?_
      refine Run.done ?_
      refine Run.ret ?_
      refine ⟨.bool false, [], Out.one rfl rfl, (Some'.weak (.nil _)), ?_⟩
      show _ = _; congr 1; rw [eq_comm]; simp only [within, Bool.and_eq_true, Bool.and_eq_false_iff, decide_eq_true_eq, decide_eq_false_iff_not, beq_iff_eq, Bool.not_eq_true', Bool.not_eq_false', bne_iff_ne, ne_eq, beq_eq_false_iff_ne, bne_eq_false_iff_eq] at *; unfold gateOk; first | (rw [decide_eq_true_iff]; omega) | (rw [decide_eq_false_iff_not]; omega) | (rw [Bool.eq_iff_iff, decide_eq_true_iff, beq_iff_eq]; omega) | (rw [Bool.eq_iff_iff, decide_eq_true_iff, bne_iff_ne]; omega) | (rw [Bool.eq_iff_iff, decide_eq_true_iff, within_iff]; omega)
    · have p5 := h5; try simp only [bs] at p5
      refine Run.seq ?_
      refine Run.region ?_
      refine Run.q (v := .pointer (some ⟨b1, 0, none⟩)) rfl (OpQ.y (OpY.fieldAddr Tfo_71_0 rfl rfl)) ?_
      refine Run.q (v := .int .i64 k) rfl (OpQ.y (OpY.load1 Tone_3 rfl (Cells.blk (.head _) ⟨rfl, trivial⟩))) ?_
      refine Run.q (v := .bool (k == 12)) rfl (OpQ.y (OpY.pure rfl)) ?_
      refine Run.q (v := .bool (k == 12)) rfl (OpQ.y (OpY.pure rfl)) ?_
      refine Run.done ?_
      refine Run.cond (b := k == 12) rfl (fun h15 => ?_) (fun h15 => ?_)
      · have p15 := h15; try simp only [bs] at p15
        refine Run.seq ?_
        refine Run.region ?_
        refine Run.q (v := .pointer (some ⟨b1, 1, none⟩)) rfl (OpQ.y (OpY.fieldAddr Tfo_71_1 rfl rfl)) ?_
        refine Run.q (v := .int .i64 a) rfl (OpQ.y (OpY.load1 Tone_3 rfl (Cells.blk (.head _) ⟨rfl, trivial⟩))) ?_
        refine Run.q (v := .bool (a == 0)) rfl (OpQ.y (OpY.pure rfl)) ?_
        rcases Bool.eq_false_or_eq_true (a == 0) with h22 | h22
        · refine Run.q (v := .bool true) rfl (OpQ.y (OpY.moveB rfl h22)) ?_
          have p22 := h22; try simp only [bs] at p22
          refine Run.q (v := .pointer (some ⟨b1, 2, none⟩)) rfl (OpQ.y (OpY.fieldAddr Tfo_71_2 rfl rfl)) ?_
          refine Run.q (v := .int .i64 b) rfl (OpQ.y (OpY.load1 Tone_3 rfl (Cells.blk (.head _) ⟨rfl, trivial⟩))) ?_
          refine Run.q (v := .bool (b == 0)) rfl (OpQ.y (OpY.pure rfl)) ?_
          refine Run.q (v := .bool (b == 0)) rfl (OpQ.y (OpY.pure rfl)) ?_
          refine Run.q (v := .bool (b == 0)) rfl (OpQ.y (OpY.pure rfl)) ?_
          refine Run.done ?_
          refine Run.ret ?_
          refine ⟨.bool (b == 0), [], Out.one rfl rfl, (Some'.weak (.nil _)), ?_⟩
          show _ = _; congr 1; rw [eq_comm]; simp only [within, Bool.and_eq_true, Bool.and_eq_false_iff, decide_eq_true_eq, decide_eq_false_iff_not, beq_iff_eq, Bool.not_eq_true', Bool.not_eq_false', bne_iff_ne, ne_eq, beq_eq_false_iff_ne, bne_eq_false_iff_eq] at *; unfold gateOk; first | (rw [decide_eq_true_iff]; omega) | (rw [decide_eq_false_iff_not]; omega) | (rw [Bool.eq_iff_iff, decide_eq_true_iff, beq_iff_eq]; omega) | (rw [Bool.eq_iff_iff, decide_eq_true_iff, bne_iff_ne]; omega) | (rw [Bool.eq_iff_iff, decide_eq_true_iff, within_iff]; omega)
        · refine Run.q (v := .bool false) rfl (OpQ.y (OpY.moveB rfl h22)) ?_
          have p22 := h22; try simp only [bs] at p22
          refine Run.pass rfl ?_
          refine Run.pass rfl ?_
          refine Run.pass rfl ?_
          refine Run.q (v := .bool false) rfl (OpQ.y (OpY.pure rfl)) ?_
          refine Run.q (v := .bool false) rfl (OpQ.y (OpY.pure rfl)) ?_
          refine Run.done ?_
          refine Run.ret ?_
          refine ⟨.bool false, [], Out.one rfl rfl, (Some'.weak (.nil _)), ?_⟩
          show _ = _; congr 1; rw [eq_comm]; simp only [within, Bool.and_eq_true, Bool.and_eq_false_iff, decide_eq_true_eq, decide_eq_false_iff_not, beq_iff_eq, Bool.not_eq_true', Bool.not_eq_false', bne_iff_ne, ne_eq, beq_eq_false_iff_ne, bne_eq_false_iff_eq] at *; unfold gateOk; first | (rw [decide_eq_true_iff]; omega) | (rw [decide_eq_false_iff_not]; omega) | (rw [Bool.eq_iff_iff, decide_eq_true_iff, beq_iff_eq]; omega) | (rw [Bool.eq_iff_iff, decide_eq_true_iff, bne_iff_ne]; omega) | (rw [Bool.eq_iff_iff, decide_eq_true_iff, within_iff]; omega)
      · have p15 := h15; try simp only [bs] at p15
        refine Run.seq ?_
        refine Run.region ?_
        refine Run.q (v := .pointer (some ⟨b1, 0, none⟩)) rfl (OpQ.y (OpY.fieldAddr Tfo_71_0 rfl rfl)) ?_
        refine Run.q (v := .int .i64 k) rfl (OpQ.y (OpY.load1 Tone_3 rfl (Cells.blk (.head _) ⟨rfl, trivial⟩))) ?_
        refine Run.q (v := .bool (decide (9 ≤ k ∧ k ≤ 11))) rfl (OpQ.call (vs := [.int .i64 k]) (caps := []) Tcall_130 rfl rfl (fun w hs => isTwo_spec _ w)) ?_
        refine Run.q (v := .bool (decide (9 ≤ k ∧ k ≤ 11))) rfl (OpQ.y (OpY.pure rfl)) ?_
        refine Run.done ?_
        refine Run.cond (b := decide (9 ≤ k ∧ k ≤ 11)) rfl (fun h27 => ?_) (fun h27 => ?_)
        · have p27 := h27; try simp only [bs] at p27
          refine Run.seq ?_
          refine Run.region ?_
          refine Run.q (v := .pointer (some ⟨b1, 1, none⟩)) rfl (OpQ.y (OpY.fieldAddr Tfo_71_1 rfl rfl)) ?_
          refine Run.q (v := .int .i64 a) rfl (OpQ.y (OpY.load1 Tone_3 rfl (Cells.blk (.head _) ⟨rfl, trivial⟩))) ?_
          refine Run.q (v := .int .i64 n) rfl (OpQ.y (OpY.pure rfl)) ?_
          refine Run.q (v := .int .i64 (n - 1)) rfl (OpQ.y (OpY.sub rfl rfl rfl (by omega) (by omega))) ?_
          refine Run.q (v := .bool (within a 0 (n - 1))) rfl (OpQ.call (vs := [.int .i64 a, .int .i64 0, .int .i64 (n - 1)]) (caps := []) Tcall_73 rfl rfl (fun w hs => within_spec _ _ _ w)) ?_
          rcases Bool.eq_false_or_eq_true (within a 0 (n - 1)) with h36 | h36
          · refine Run.q (v := .bool true) rfl (OpQ.y (OpY.moveB rfl h36)) ?_
            have p36 := h36; try simp only [bs] at p36
            refine Run.q (v := .pointer (some ⟨b1, 2, none⟩)) rfl (OpQ.y (OpY.fieldAddr Tfo_71_2 rfl rfl)) ?_
            refine Run.q (v := .int .i64 b) rfl (OpQ.y (OpY.load1 Tone_3 rfl (Cells.blk (.head _) ⟨rfl, trivial⟩))) ?_
            refine Run.q (v := .int .i64 n) rfl (OpQ.y (OpY.pure rfl)) ?_
            refine Run.q (v := .int .i64 (n - 1)) rfl (OpQ.y (OpY.sub rfl rfl rfl (by omega) (by omega))) ?_
            refine Run.q (v := .bool (within b 0 (n - 1))) rfl (OpQ.call (vs := [.int .i64 b, .int .i64 0, .int .i64 (n - 1)]) (caps := []) Tcall_73 rfl rfl (fun w hs => within_spec _ _ _ w)) ?_
            refine Run.q (v := .bool (within b 0 (n - 1))) rfl (OpQ.y (OpY.pure rfl)) ?_
            rcases Bool.eq_false_or_eq_true (within b 0 (n - 1)) with h43 | h43
            · refine Run.q (v := .bool true) rfl (OpQ.y (OpY.moveB rfl h43)) ?_
              have p43 := h43; try simp only [bs] at p43
              refine Run.q (v := .pointer (some ⟨b1, 1, none⟩)) rfl (OpQ.y (OpY.fieldAddr Tfo_71_1 rfl rfl)) ?_
              refine Run.q (v := .int .i64 a) rfl (OpQ.y (OpY.load1 Tone_3 rfl (Cells.blk (.head _) ⟨rfl, trivial⟩))) ?_
              refine Run.q (v := .pointer (some ⟨b1, 2, none⟩)) rfl (OpQ.y (OpY.fieldAddr Tfo_71_2 rfl rfl)) ?_
              refine Run.q (v := .int .i64 b) rfl (OpQ.y (OpY.load1 Tone_3 rfl (Cells.blk (.head _) ⟨rfl, trivial⟩))) ?_
              refine Run.q (v := .bool (a != b)) rfl (OpQ.y (OpY.pure rfl)) ?_
              refine Run.q (v := .bool (a != b)) rfl (OpQ.y (OpY.pure rfl)) ?_
              refine Run.q (v := .bool (a != b)) rfl (OpQ.y (OpY.pure rfl)) ?_
              refine Run.done ?_
              refine Run.ret ?_
              refine ⟨.bool (a != b), [], Out.one rfl rfl, (Some'.weak (.nil _)), ?_⟩
              show _ = _; congr 1; rw [eq_comm]; simp only [within, Bool.and_eq_true, Bool.and_eq_false_iff, decide_eq_true_eq, decide_eq_false_iff_not, beq_iff_eq, Bool.not_eq_true', Bool.not_eq_false', bne_iff_ne, ne_eq, beq_eq_false_iff_ne, bne_eq_false_iff_eq] at *; unfold gateOk; first | (rw [decide_eq_true_iff]; omega) | (rw [decide_eq_false_iff_not]; omega) | (rw [Bool.eq_iff_iff, decide_eq_true_iff, beq_iff_eq]; omega) | (rw [Bool.eq_iff_iff, decide_eq_true_iff, bne_iff_ne]; omega) | (rw [Bool.eq_iff_iff, decide_eq_true_iff, within_iff]; omega)
            · refine Run.q (v := .bool false) rfl (OpQ.y (OpY.moveB rfl h43)) ?_
              have p43 := h43; try simp only [bs] at p43
              refine Run.pass rfl ?_
              refine Run.pass rfl ?_
              refine Run.pass rfl ?_
              refine Run.pass rfl ?_
              refine Run.pass rfl ?_
              refine Run.q (v := .bool false) rfl (OpQ.y (OpY.pure rfl)) ?_
              refine Run.q (v := .bool false) rfl (OpQ.y (OpY.pure rfl)) ?_
              refine Run.done ?_
              refine Run.ret ?_
              refine ⟨.bool false, [], Out.one rfl rfl, (Some'.weak (.nil _)), ?_⟩
              show _ = _; congr 1; rw [eq_comm]; simp only [within, Bool.and_eq_true, Bool.and_eq_false_iff, decide_eq_true_eq, decide_eq_false_iff_not, beq_iff_eq, Bool.not_eq_true', Bool.not_eq_false', bne_iff_ne, ne_eq, beq_eq_false_iff_ne, bne_eq_false_iff_eq] at *; unfold gateOk; first | (rw [decide_eq_true_iff]; omega) | (rw [decide_eq_false_iff_not]; omega) | (rw [Bool.eq_iff_iff, decide_eq_true_iff, beq_iff_eq]; omega) | (rw [Bool.eq_iff_iff, decide_eq_true_iff, bne_iff_ne]; omega) | (rw [Bool.eq_iff_iff, decide_eq_true_iff, within_iff]; omega)
          · refine Run.q (v := .bool false) rfl (OpQ.y (OpY.moveB rfl h36)) ?_
            have p36 := h36; try simp only [bs] at p36
            refine Run.pass rfl ?_
            refine Run.pass rfl ?_
            refine Run.pass rfl ?_
            refine Run.pass rfl ?_
            refine Run.pass rfl ?_
            refine Run.q (v := .bool false) rfl (OpQ.y (OpY.pure rfl)) ?_
            refine Run.q (v := .bool false) rfl (OpQ.y (OpY.pure rfl)) ?_
            refine Run.pass rfl ?_
            refine Run.pass rfl ?_
            refine Run.pass rfl ?_
            refine Run.pass rfl ?_
            refine Run.pass rfl ?_
            refine Run.q (v := .bool false) rfl (OpQ.y (OpY.pure rfl)) ?_
            refine Run.q (v := .bool false) rfl (OpQ.y (OpY.pure rfl)) ?_
            refine Run.done ?_
            refine Run.ret ?_
            refine ⟨.bool false, [], Out.one rfl rfl, (Some'.weak (.nil _)), ?_⟩
            show _ = _; congr 1; rw [eq_comm]; simp only [within, Bool.and_eq_true, Bool.and_eq_false_iff, decide_eq_true_eq, decide_eq_false_iff_not, beq_iff_eq, Bool.not_eq_true', Bool.not_eq_false', bne_iff_ne, ne_eq, beq_eq_false_iff_ne, bne_eq_false_iff_eq] at *; unfold gateOk; first | (rw [decide_eq_true_iff]; omega) | (rw [decide_eq_false_iff_not]; omega) | (rw [Bool.eq_iff_iff, decide_eq_true_iff, beq_iff_eq]; omega) | (rw [Bool.eq_iff_iff, decide_eq_true_iff, bne_iff_ne]; omega) | (rw [Bool.eq_iff_iff, decide_eq_true_iff, within_iff]; omega)
        · have p27 := h27; try simp only [bs] at p27
          refine Run.skip ?_
          refine Run.blockEnd ?_
          refine Run.seq ?_
          refine Run.region ?_
          refine Run.q (v := .pointer (some ⟨b1, 1, none⟩)) rfl (OpQ.y (OpY.fieldAddr Tfo_71_1 rfl rfl)) ?_
          refine Run.q (v := .int .i64 a) rfl (OpQ.y (OpY.load1 Tone_3 rfl (Cells.blk (.head _) ⟨rfl, trivial⟩))) ?_
          refine Run.q (v := .int .i64 n) rfl (OpQ.y (OpY.pure rfl)) ?_
          refine Run.q (v := .int .i64 (n - 1)) rfl (OpQ.y (OpY.sub rfl rfl rfl (by omega) (by omega))) ?_
          refine Run.q (v := .bool (within a 0 (n - 1))) rfl (OpQ.call (vs := [.int .i64 a, .int .i64 0, .int .i64 (n - 1)]) (caps := []) Tcall_73 rfl rfl (fun w hs => within_spec _ _ _ w)) ?_
          rcases Bool.eq_false_or_eq_true (within a 0 (n - 1)) with h55 | h55
          · refine Run.q (v := .bool true) rfl (OpQ.y (OpY.moveB rfl h55)) ?_
            have p55 := h55; try simp only [bs] at p55
            refine Run.q (v := .pointer (some ⟨b1, 2, none⟩)) rfl (OpQ.y (OpY.fieldAddr Tfo_71_2 rfl rfl)) ?_
            refine Run.q (v := .int .i64 b) rfl (OpQ.y (OpY.load1 Tone_3 rfl (Cells.blk (.head _) ⟨rfl, trivial⟩))) ?_
            refine Run.q (v := .bool (b == 0)) rfl (OpQ.y (OpY.pure rfl)) ?_
            refine Run.q (v := .bool (b == 0)) rfl (OpQ.y (OpY.pure rfl)) ?_
            refine Run.q (v := .bool (b == 0)) rfl (OpQ.y (OpY.pure rfl)) ?_
            refine Run.done ?_
            refine Run.ret ?_
            refine ⟨.bool (b == 0), [], Out.one rfl rfl, (Some'.weak (.nil _)), ?_⟩
            show _ = _; congr 1; rw [eq_comm]; simp only [within, Bool.and_eq_true, Bool.and_eq_false_iff, decide_eq_true_eq, decide_eq_false_iff_not, beq_iff_eq, Bool.not_eq_true', Bool.not_eq_false', bne_iff_ne, ne_eq, beq_eq_false_iff_ne, bne_eq_false_iff_eq] at *; unfold gateOk; first | (rw [decide_eq_true_iff]; omega) | (rw [decide_eq_false_iff_not]; omega) | (rw [Bool.eq_iff_iff, decide_eq_true_iff, beq_iff_eq]; omega) | (rw [Bool.eq_iff_iff, decide_eq_true_iff, bne_iff_ne]; omega) | (rw [Bool.eq_iff_iff, decide_eq_true_iff, within_iff]; omega)
          · refine Run.q (v := .bool false) rfl (OpQ.y (OpY.moveB rfl h55)) ?_
            have p55 := h55; try simp only [bs] at p55
            refine Run.pass rfl ?_
            refine Run.pass rfl ?_
            refine Run.pass rfl ?_
            refine Run.q (v := .bool false) rfl (OpQ.y (OpY.pure rfl)) ?_
            refine Run.q (v := .bool false) rfl (OpQ.y (OpY.pure rfl)) ?_
            refine Run.done ?_
            refine Run.ret ?_
            refine ⟨.bool false, [], Out.one rfl rfl, (Some'.weak (.nil _)), ?_⟩
            show _ = _; congr 1; rw [eq_comm]; simp only [within, Bool.and_eq_true, Bool.and_eq_false_iff, decide_eq_true_eq, decide_eq_false_iff_not, beq_iff_eq, Bool.not_eq_true', Bool.not_eq_false', bne_iff_ne, ne_eq, beq_eq_false_iff_ne, bne_eq_false_iff_eq] at *; unfold gateOk; first | (rw [decide_eq_true_iff]; omega) | (rw [decide_eq_false_iff_not]; omega) | (rw [Bool.eq_iff_iff, decide_eq_true_iff, beq_iff_eq]; omega) | (rw [Bool.eq_iff_iff, decide_eq_true_iff, bne_iff_ne]; omega) | (rw [Bool.eq_iff_iff, decide_eq_true_iff, within_iff]; omega)

set_option maxHeartbeats 1000000 in
set_option maxRecDepth 20000 in
theorem validClosure_spec {N k a b : Int} {vg : Value} {w : World} (hN : 1 ≤ N ∧ N ≤ 5) {p : Nat} (hc : Sl w (.slice (some ⟨p, 0, none⟩) 1 1) 2 1 [.int .i64 N, vg]) : Calls Try.prog 107 #[.agg #[.int .i64 k, .int .i64 a, .int .i64 b], .pointer (some ⟨p, 0, none⟩)] w (Post No w fun v _ => v = .bool (!gateOk N k a b)) := by
  refine enter (n := 9) (args := [.agg #[.int .i64 k, .int .i64 a, .int .i64 b], .pointer (some ⟨p, 0, none⟩)]) Try.func107 rfl rfl (St.empty _ _) ?_
  refine Run.seq ?_
  refine Run.region ?_
  refine Run.step rfl (OpStep.box (us := [.int .i64 k, .int .i64 a, .int .i64 b]) rfl fun b1 => ?_)
  refine Run.q (v := .bool false) rfl (OpQ.y (OpY.pure rfl)) ?_
  refine Run.done ?_
  refine Run.seq ?_
  refine Run.region ?_
  refine Run.q (v := .pointer (some ⟨p, 0, none⟩)) rfl (OpQ.y (OpY.fieldAddr Tfo_38_0 rfl rfl)) ?_
  refine Run.q (v := .int .i64 N) rfl (OpQ.y (OpY.load1 Tone_3 rfl (Cells.env (k := 0) hc rfl (by decide) ⟨rfl, trivial⟩))) ?_
  refine Run.q (v := .agg #[.int .i64 k, .int .i64 a, .int .i64 b]) rfl (OpQ.y (OpY.loadN (cs := [.int .i64 k, .int .i64 a, .int .i64 b]) Tagg_71 rfl (Cells.blk (.head _) ⟨rfl, rfl, rfl, trivial⟩))) ?_
  refine Run.q (v := .bool (gateOk N k a b)) rfl (OpQ.call (vs := [.int .i64 N, .agg #[.int .i64 k, .int .i64 a, .int .i64 b]]) (caps := []) Tcall_108 rfl rfl (fun w hs => IsValidGate_spec hN w)) ?_
  refine Run.q (v := .bool (!(gateOk N k a b))) rfl (OpQ.y (OpY.pure rfl)) ?_
  refine Run.q (v := .bool (!(gateOk N k a b))) rfl (OpQ.y (OpY.pure rfl)) ?_
  refine Run.done ?_
  refine Run.ret ?_
  refine ⟨.bool (!(gateOk N k a b)), [], Out.one rfl rfl, (Some'.weak (.nil _)), ?_⟩
  rfl

set_option maxHeartbeats 1000000 in
set_option maxRecDepth 20000 in
theorem IndexFuncValid_spec {N : Int} {va vg : Value} {n : Nat} {xs : List Int} {w : World} (hN : 1 ≤ N ∧ N ≤ 5) (ha : Sl w va 3 n (ints xs)) {p : Nat} (hc : Sl w (.slice (some ⟨p, 0, none⟩) 1 1) 2 1 [.int .i64 N, vg]) : Calls Try.prog 129 #[va, .func (.func 107) #[] #[.pointer (some ⟨p, 0, none⟩)]] w (Post No w fun v _ => v = .int .i64 (findI (fun i => !gateAt N xs i) n)) := by
  have hxl := ha.len
  have hn := ha.le
  obtain ⟨A, c, rfl, _, _⟩ := ha.form0
  refine enter (n := 19) (args := [.slice A n c, .func (.func 107) #[] #[.pointer (some ⟨p, 0, none⟩)]]) Try.func129 rfl rfl (St.empty _ _) ?_
  refine Run.seq ?_
  refine Run.region ?_
  refine Run.q (v := .int .i64 0) rfl (OpQ.y (OpY.pure rfl)) ?_
  refine Run.done ?_
  refine Run.seq ?_
  refine Run.seq ?_
  refine Run.region ?_
  refine Run.q (v := .slice A n c) rfl (OpQ.y (OpY.pure rfl)) ?_
  refine Run.q (v := .int .i64 (((n : Nat) : Int))) rfl (OpQ.y (OpY.len Tsl_36 rfl)) ?_
  refine Run.q (v := .int .i64 0) rfl (OpQ.y (OpY.pure rfl)) ?_
  refine Run.done ?_
  refine Run.block ?_
  refine Run.loop (ι := Nat) [4, 5, 8, 9, 10, 11, 12, 13, 14, 15, 16, 17, 18] (fun k => [(8, .int .i64 (((k : Nat) : Int)))]) (fun k => []) (fun k => k ≤ n ∧ (∀ i, i < k → (!gateAt N xs i) = false)) (fun k => n - k) 0 ?_ ?_ ?_ ?_
  · exact ⟨Nat.zero_le _, by first | trivial | (intro i hi; omega)⟩
  · exact ⟨rfl, trivial⟩
  · exact (Some'.weak (.nil _))
  · rintro k fr hinv
    show Run _ _ (over _ _ [(8, .int .i64 (((k : Nat) : Int)))] fr) []
    try dsimp only at hinv
    refine Run.seq ?_
    refine Run.region ?_
    refine Run.q (v := .bool (decide ((((k : Nat) : Int)) < (((n : Nat) : Int))))) rfl (OpQ.y (OpY.pure rfl)) ?_
    refine Run.done ?_
    refine Run.seq ?_
    refine Run.cond (b := decide ((((k : Nat) : Int)) < (((n : Nat) : Int)))) rfl (fun h9 => ?_) (fun h9 => ?_)
    · have p9 := h9; try simp only [bs] at p9
      have hltk : k < n := by omega
      obtain ⟨b, o, rfl⟩ := ha.opn (by omega)
      refine Run.skip ?_
      refine Run.seq ?_
      refine Run.block ?_
      refine Run.seq ?_
      refine Run.region ?_
      refine Run.q (v := .int .i64 (((k : Nat) : Int))) rfl (OpQ.y (OpY.pure rfl)) ?_
      refine Run.q (v := .int .i64 (((k : Nat) : Int))) rfl (OpQ.y (OpY.pure rfl)) ?_
      refine Run.done ?_
      refine Run.seq ?_
      refine Run.region ?_
      refine Run.q (v := .func (.func 107) #[] #[.pointer (some ⟨p, 0, none⟩)]) rfl (OpQ.y (OpY.pure rfl)) ?_
      refine Run.q (v := .slice (some ⟨b, o, none⟩) n c) rfl (OpQ.y (OpY.pure rfl)) ?_
      refine Run.q (v := .int .i64 (((k : Nat) : Int))) rfl (OpQ.y (OpY.pure rfl)) ?_
      refine Run.q (v := .pointer (some ⟨b, o + k * 3, none⟩)) rfl (OpQ.y (OpY.index (kk := k) Tsl_36 rfl rfl (by omega) (by omega) (by first | rfl | omega))) ?_
      refine Run.q (v := .agg #[.int .i64 (ix xs (k * 3)), .int .i64 (ix xs (k * 3 + 1)), .int .i64 (ix xs (k * 3 + 2))]) rfl (OpQ.y (OpY.loadN (cs := [.int .i64 (ix xs (k * 3)), .int .i64 (ix xs (k * 3 + 1)), .int .i64 (ix xs (k * 3 + 2))]) Tagg_71 rfl (Cells.arg (k := k * 3) ha rfl (by omega) (pre3 (by omega))))) ?_
      refine Run.q (v := .bool (!gateOk N (ix xs (k * 3)) (ix xs (k * 3 + 1)) (ix xs (k * 3 + 2)))) rfl (OpQ.call (vs := [.agg #[.int .i64 (ix xs (k * 3)), .int .i64 (ix xs (k * 3 + 1)), .int .i64 (ix xs (k * 3 + 2))], .pointer (some ⟨p, 0, none⟩)]) (caps := [.pointer (some ⟨p, 0, none⟩)]) Tcall_107 rfl rfl (fun w hs => validClosure_spec hN (hs.sl hc))) ?_
      refine Run.done ?_
      refine Run.cond (b := !gateOk N (ix xs (k * 3)) (ix xs (k * 3 + 1)) (ix xs (k * 3 + 2))) rfl (fun h16 => ?_) (fun h16 => ?_)
      · have p16 := h16; try simp only [bs] at p16
        refine Run.seq ?_
        have hres : findI (fun i => !gateAt N xs i) n = k := findI_hit hinv.2 h16 hltk
        refine Run.region ?_
        refine Run.q (v := .int .i64 (((k : Nat) : Int))) rfl (OpQ.y (OpY.pure rfl)) ?_
        refine Run.q (v := .int .i64 (((k : Nat) : Int))) rfl (OpQ.y (OpY.pure rfl)) ?_
        refine Run.done ?_
        refine Run.ret ?_
        refine ⟨.int .i64 (((k : Nat) : Int)), [], Out.one rfl rfl, (Some'.weak (.nil _)), ?_⟩
        show _ = _; rw [hres]
      · have p16 := h16; try simp only [bs] at p16
        refine Run.skip ?_
        refine Run.blockEnd ?_
        have hgood : (!gateAt N xs k) = false := h16
        refine Run.region ?_
        refine Run.q (v := .int .i64 ((((k : Nat) : Int)) + 1)) rfl (OpQ.y (OpY.add rfl rfl rfl (by omega) (by omega))) ?_
        refine Run.q (v := .int .i64 ((((k : Nat) : Int)) + 1)) rfl (OpQ.y (OpY.pure rfl)) ?_
        refine Run.done ?_
        refine Run.goal ⟨(by repeat (first | exact Same.refl _ _ | refine Same.put rfl ?_ | refine Same.over rfl rfl ?_)), k + 1, ?_, ?_, ?_, ?_⟩
        · refine ⟨by omega, ?_⟩
          intro i hi
          rcases Nat.lt_succ_iff_lt_or_eq.1 hi with h | h
          · exact hinv.2 i h
          · rw [h]; exact hgood
        · omega
        · exact ⟨(by first | rfl | (congr 1; omega) | simp), trivial⟩
        · exact (Some'.weak (.nil _))
    · have p9 := h9; try simp only [bs] at p9
      have hknk : k = n := by omega
      have hres : findI (fun i => !gateAt N xs i) n = -1 := by rw [← hknk]; exact findI_none hinv.2
      refine Run.exit rfl ?_
      refine Run.seq ?_
      refine Run.region ?_
      refine Run.q (v := .int .i64 (-1)) rfl (OpQ.y (OpY.pure rfl)) ?_
      refine Run.done ?_
      refine Run.ret ?_
      refine ⟨.int .i64 (-1), [], Out.one rfl rfl, (Some'.weak (.nil _)), ?_⟩
      show _ = _; rw [hres]

set_option maxHeartbeats 1000000 in
set_option maxRecDepth 20000 in
theorem ContainsFuncValid_spec {N : Int} {va vg : Value} {n : Nat} {xs : List Int} {w : World} (hN : 1 ≤ N ∧ N ≤ 5) (ha : Sl w va 3 n (ints xs)) {p : Nat} (hc : Sl w (.slice (some ⟨p, 0, none⟩) 1 1) 2 1 [.int .i64 N, vg]) : Calls Try.prog 106 #[va, .func (.func 107) #[] #[.pointer (some ⟨p, 0, none⟩)]] w (Post No w fun v _ => v = .bool (!allI (gateAt N xs) n)) := by
  refine enter (n := 9) (args := [va, .func (.func 107) #[] #[.pointer (some ⟨p, 0, none⟩)]]) Try.func106 rfl rfl (St.empty _ _) ?_
  refine Run.seq ?_
  refine Run.region ?_
  refine Run.q (v := .bool false) rfl (OpQ.y (OpY.pure rfl)) ?_
  refine Run.done ?_
  refine Run.seq ?_
  refine Run.region ?_
  refine Run.q (v := va) rfl (OpQ.y (OpY.pure rfl)) ?_
  refine Run.q (v := .func (.func 107) #[] #[.pointer (some ⟨p, 0, none⟩)]) rfl (OpQ.y (OpY.pure rfl)) ?_
  refine Run.q (v := .int .i64 (findI (fun i => !gateAt N xs i) n)) rfl (OpQ.call (vs := [va, .func (.func 107) #[] #[.pointer (some ⟨p, 0, none⟩)]]) (caps := []) Tcall_129 rfl rfl (fun w hs => IndexFuncValid_spec hN (hs.sl ha) (hs.sl hc))) ?_
  refine Run.q (v := .bool (decide ((findI (fun i => !gateAt N xs i) n) ≥ 0))) rfl (OpQ.y (OpY.pure rfl)) ?_
  refine Run.q (v := .bool (decide ((findI (fun i => !gateAt N xs i) n) ≥ 0))) rfl (OpQ.y (OpY.pure rfl)) ?_
  refine Run.done ?_
  refine Run.ret ?_
  refine ⟨.bool (decide ((findI (fun i => !gateAt N xs i) n) ≥ 0)), [], Out.one rfl rfl, (Some'.weak (.nil _)), ?_⟩
  show _ = _; rw [findI_ge, allI, Bool.not_not]

set_option maxHeartbeats 1000000 in
set_option maxRecDepth 20000 in
theorem IsValidCircuit_spec {N : Int} {va : Value} {n : Nat} {xs : List Int} {w : World} (ha : Sl w va 3 n (ints xs)) : Calls Try.prog 66 #[.agg #[.int .i64 N, va]] w (Post No w fun v _ => v = .bool (circOk N xs n)) := by
  have hxl := ha.len
  have hn := ha.le
  obtain ⟨A, c, rfl, _, _⟩ := ha.form0
  refine enter (n := 19) (args := [.agg #[.int .i64 N, .slice A n c]]) Try.func66 rfl rfl (St.empty _ _) ?_
  refine Run.seq ?_
  refine Run.region ?_
  refine Run.step rfl (OpStep.box (us := [.int .i64 N, .slice A n c]) rfl fun b1 => ?_)
  refine Run.q (v := .bool false) rfl (OpQ.y (OpY.pure rfl)) ?_
  refine Run.done ?_
  refine Run.seq ?_
  refine Run.region ?_
  refine Run.q (v := .pointer (some ⟨b1, 0, none⟩)) rfl (OpQ.y (OpY.fieldAddr Tfo_38_0 rfl rfl)) ?_
  refine Run.q (v := .int .i64 N) rfl (OpQ.y (OpY.load1 Tone_3 rfl (Cells.blk (.head _) ⟨rfl, trivial⟩))) ?_
  refine Run.q (v := .bool (within N 1 5)) rfl (OpQ.call (vs := [.int .i64 N, .int .i64 1, .int .i64 5]) (caps := []) Tcall_73 rfl rfl (fun w hs => within_spec _ _ _ w)) ?_
  rcases Bool.eq_false_or_eq_true (within N 1 5) with h6 | h6
  · refine Run.q (v := .bool true) rfl (OpQ.y (OpY.moveB rfl h6)) ?_
    have p6 := h6; try simp only [bs] at p6
    refine Run.q (v := .pointer (some ⟨b1, 1, none⟩)) rfl (OpQ.y (OpY.fieldAddr Tfo_38_1 rfl rfl)) ?_
    refine Run.q (v := .slice A n c) rfl (OpQ.y (OpY.load1 Tone_36 rfl (Cells.blk (.head _) ⟨rfl, trivial⟩))) ?_
    refine Run.q (v := .int .i64 (((n : Nat) : Int))) rfl (OpQ.y (OpY.len Tsl_36 rfl)) ?_
    refine Run.q (v := .bool (decide ((((n : Nat) : Int)) ≤ 400))) rfl (OpQ.y (OpY.pure rfl)) ?_
    refine Run.q (v := .bool (decide ((((n : Nat) : Int)) ≤ 400))) rfl (OpQ.y (OpY.pure rfl)) ?_
    rcases Bool.eq_false_or_eq_true (decide ((((n : Nat) : Int)) ≤ 400)) with h12 | h12
    · refine Run.q (v := .bool true) rfl (OpQ.y (OpY.moveB rfl h12)) ?_
      have p12 := h12; try simp only [bs] at p12
      refine Run.q (v := .pointer (some ⟨b1, 1, none⟩)) rfl (OpQ.y (OpY.fieldAddr Tfo_38_1 rfl rfl)) ?_
      refine Run.q (v := .slice A n c) rfl (OpQ.y (OpY.load1 Tone_36 rfl (Cells.blk (.head _) ⟨rfl, trivial⟩))) ?_
      refine Run.q (v := .func (.func 107) #[] #[.pointer (some ⟨b1, 0, none⟩)]) rfl (OpQ.y (OpY.makeFunc (caps := [.pointer (some ⟨b1, 0, none⟩)]) rfl)) ?_
      refine Run.q (v := .bool (!allI (gateAt N xs) n)) rfl (OpQ.call (vs := [.slice A n c, .func (.func 107) #[] #[.pointer (some ⟨b1, 0, none⟩)]]) (caps := []) Tcall_106 rfl rfl (fun w hs => ContainsFuncValid_spec (within_iff.1 p6) (hs.sl ha) (hs.slBlk (.head _)))) ?_
      refine Run.q (v := .bool (!(!allI (gateAt N xs) n))) rfl (OpQ.y (OpY.pure rfl)) ?_
      refine Run.q (v := .bool (!(!allI (gateAt N xs) n))) rfl (OpQ.y (OpY.pure rfl)) ?_
      refine Run.q (v := .bool (!(!allI (gateAt N xs) n))) rfl (OpQ.y (OpY.pure rfl)) ?_
      refine Run.done ?_
      refine Run.ret ?_
      refine ⟨.bool (!(!allI (gateAt N xs) n)), [], Out.one rfl rfl, (Some'.weak (.nil _)), ?_⟩
      show _ = _; simp only [circOk] at *; simp_all; try omega
    · refine Run.q (v := .bool false) rfl (OpQ.y (OpY.moveB rfl h12)) ?_
      have p12 := h12; try simp only [bs] at p12
      refine Run.pass rfl ?_
      refine Run.pass rfl ?_
      refine Run.pass rfl ?_
      refine Run.pass rfl ?_
      refine Run.pass rfl ?_
      refine Run.q (v := .bool false) rfl (OpQ.y (OpY.pure rfl)) ?_
      refine Run.q (v := .bool false) rfl (OpQ.y (OpY.pure rfl)) ?_
      refine Run.done ?_
      refine Run.ret ?_
      refine ⟨.bool false, [], Out.one rfl rfl, (Some'.weak (.nil _)), ?_⟩
      show _ = _; simp only [circOk] at *; simp_all; try omega
  · refine Run.q (v := .bool false) rfl (OpQ.y (OpY.moveB rfl h6)) ?_
    have p6 := h6; try simp only [bs] at p6
    refine Run.pass rfl ?_
    refine Run.pass rfl ?_
    refine Run.pass rfl ?_
    refine Run.pass rfl ?_
    refine Run.q (v := .bool false) rfl (OpQ.y (OpY.pure rfl)) ?_
    refine Run.q (v := .bool false) rfl (OpQ.y (OpY.pure rfl)) ?_
    refine Run.pass rfl ?_
    refine Run.pass rfl ?_
    refine Run.pass rfl ?_
    refine Run.pass rfl ?_
    refine Run.pass rfl ?_
    refine Run.q (v := .bool false) rfl (OpQ.y (OpY.pure rfl)) ?_
    refine Run.q (v := .bool false) rfl (OpQ.y (OpY.pure rfl)) ?_
    refine Run.done ?_
    refine Run.ret ?_
    refine ⟨.bool false, [], Out.one rfl rfl, (Some'.weak (.nil _)), ?_⟩
    show _ = _; simp only [circOk] at *; simp_all; try omega

set_option maxHeartbeats 1000000 in
set_option maxRecDepth 20000 in
theorem l4Good_spec {N : Int} {va : Value} {n : Nat} {xs : List Int} {w : World} (ha : Sl w va 3 n (ints xs)) : Calls Try.prog 110 #[.agg #[.int .i64 N, va]] w (Post No w fun v _ => v = .bool (circOk N xs n)) := by
  have hxl := ha.len
  have hn := ha.le
  obtain ⟨A, c, rfl, _, _⟩ := ha.form0
  refine enter (n := 28) (args := [.agg #[.int .i64 N, .slice A n c]]) Try.func110 rfl rfl (St.empty _ _) ?_
  refine Run.seq ?_
  refine Run.region ?_
  refine Run.step rfl (OpStep.box (us := [.int .i64 N, .slice A n c]) rfl fun b1 => ?_)
  refine Run.q (v := .bool false) rfl (OpQ.y (OpY.pure rfl)) ?_
  refine Run.done ?_
  refine Run.seq ?_
  refine Run.seq ?_
  refine Run.region ?_
  refine Run.q (v := .pointer (some ⟨b1, 0, none⟩)) rfl (OpQ.y (OpY.fieldAddr Tfo_38_0 rfl rfl)) ?_
  refine Run.q (v := .int .i64 N) rfl (OpQ.y (OpY.load1 Tone_3 rfl (Cells.blk (.head _) ⟨rfl, trivial⟩))) ?_
  refine Run.q (v := .bool (within N 1 5)) rfl (OpQ.call (vs := [.int .i64 N, .int .i64 1, .int .i64 5]) (caps := []) Tcall_100 rfl rfl (fun w hs => l1In_spec _ _ _ w)) ?_
  refine Run.q (v := .bool (!(within N 1 5))) rfl (OpQ.y (OpY.pure rfl)) ?_
  rcases Bool.eq_false_or_eq_true (!(within N 1 5)) with h9 | h9
  · refine Run.q (v := .bool true) rfl (OpQ.y (OpY.moveB rfl h9)) ?_
    have p9 := h9; try simp only [bs] at p9
    refine Run.pass rfl ?_
    refine Run.pass rfl ?_
    refine Run.pass rfl ?_
    refine Run.pass rfl ?_
    refine Run.q (v := .bool true) rfl (OpQ.y (OpY.pure rfl)) ?_
    refine Run.done ?_
    refine Run.cond (b := true) rfl (fun _ => ?_) (fun h => nomatch h)
    refine Run.seq ?_
    refine Run.region ?_
    refine Run.q (v := .bool false) rfl (OpQ.y (OpY.pure rfl)) ?_
    refine Run.done ?_
    refine Run.ret ?_
    refine ⟨.bool false, [], Out.one rfl rfl, (Some'.weak (.nil _)), ?_⟩
    show _ = _; simp only [circOk] at *; simp_all; try omega
  · refine Run.q (v := .bool false) rfl (OpQ.y (OpY.moveB rfl h9)) ?_
    have p9 := h9; try simp only [bs] at p9
    refine Run.q (v := .pointer (some ⟨b1, 1, none⟩)) rfl (OpQ.y (OpY.fieldAddr Tfo_38_1 rfl rfl)) ?_
    refine Run.q (v := .slice A n c) rfl (OpQ.y (OpY.load1 Tone_36 rfl (Cells.blk (.head _) ⟨rfl, trivial⟩))) ?_
    refine Run.q (v := .int .i64 (((n : Nat) : Int))) rfl (OpQ.y (OpY.len Tsl_36 rfl)) ?_
    refine Run.q (v := .bool (decide ((((n : Nat) : Int)) > 400))) rfl (OpQ.y (OpY.pure rfl)) ?_
    refine Run.q (v := .bool (decide ((((n : Nat) : Int)) > 400))) rfl (OpQ.y (OpY.pure rfl)) ?_
    refine Run.done ?_
    refine Run.cond (b := decide ((((n : Nat) : Int)) > 400)) rfl (fun h14 => ?_) (fun h14 => ?_)
    · have p14 := h14; try simp only [bs] at p14
      refine Run.seq ?_
      refine Run.region ?_
      refine Run.q (v := .bool false) rfl (OpQ.y (OpY.pure rfl)) ?_
      refine Run.done ?_
      refine Run.ret ?_
      refine ⟨.bool false, [], Out.one rfl rfl, (Some'.weak (.nil _)), ?_⟩
      show _ = _; simp only [circOk] at *; simp_all; try omega
    · have p14 := h14; try simp only [bs] at p14
      refine Run.skip ?_
      refine Run.seq ?_
      refine Run.seq ?_
      have hwi : within N 1 5 = true := by simpa using p9
      refine Run.region ?_
      refine Run.q (v := .pointer (some ⟨b1, 1, none⟩)) rfl (OpQ.y (OpY.fieldAddr Tfo_38_1 rfl rfl)) ?_
      refine Run.q (v := .slice A n c) rfl (OpQ.y (OpY.load1 Tone_36 rfl (Cells.blk (.head _) ⟨rfl, trivial⟩))) ?_
      refine Run.q (v := .int .i64 (((n : Nat) : Int))) rfl (OpQ.y (OpY.len Tsl_36 rfl)) ?_
      refine Run.q (v := .int .i64 0) rfl (OpQ.y (OpY.pure rfl)) ?_
      refine Run.done ?_
      refine Run.block ?_
      refine Run.loop (ι := Nat) [2, 4, 18, 19, 20, 21, 22, 23, 24, 25, 26, 27] (fun k => [(18, .int .i64 (((k : Nat) : Int)))]) (fun k => [.blk b1 38 [.int .i64 N, .slice A n c]]) (fun k => k ≤ n ∧ (∀ i, i < k → gateAt N xs i = true)) (fun k => n - k) 0 ?_ ?_ ?_ ?_
      · exact ⟨Nat.zero_le _, by first | trivial | (intro i hi; omega)⟩
      · exact ⟨rfl, trivial⟩
      · exact (Some'.weak (.take (.nil _)))
      · rintro k fr hinv
        show Run _ _ (over _ _ [(18, .int .i64 (((k : Nat) : Int)))] fr) [.blk b1 38 [.int .i64 N, .slice A n c]]
        try dsimp only at hinv
        refine Run.seq ?_
        refine Run.region ?_
        refine Run.q (v := .bool (decide ((((k : Nat) : Int)) < (((n : Nat) : Int))))) rfl (OpQ.y (OpY.pure rfl)) ?_
        refine Run.done ?_
        refine Run.seq ?_
        refine Run.cond (b := decide ((((k : Nat) : Int)) < (((n : Nat) : Int)))) rfl (fun h19 => ?_) (fun h19 => ?_)
        · have p19 := h19; try simp only [bs] at p19
          have hltk : k < n := by omega
          obtain ⟨b, o, rfl⟩ := ha.opn (by omega)
          refine Run.skip ?_
          refine Run.seq ?_
          refine Run.block ?_
          refine Run.seq ?_
          refine Run.region ?_
          refine Run.q (v := .pointer (some ⟨b, o + k * 3, none⟩)) rfl (OpQ.y (OpY.index (kk := k) Tsl_36 rfl rfl (by omega) (by omega) (by first | rfl | omega))) ?_
          refine Run.q (v := .agg #[.int .i64 (ix xs (k * 3)), .int .i64 (ix xs (k * 3 + 1)), .int .i64 (ix xs (k * 3 + 2))]) rfl (OpQ.y (OpY.loadN (cs := [.int .i64 (ix xs (k * 3)), .int .i64 (ix xs (k * 3 + 1)), .int .i64 (ix xs (k * 3 + 2))]) Tagg_71 rfl (Cells.arg (k := k * 3) ha rfl (by omega) (pre3 (by omega))))) ?_
          refine Run.step rfl (OpStep.alloc (zs := [.int .i64 0, .int .i64 0, .int .i64 0]) Tzero_71 fun b2 => ?_)
          refine Run.step rfl (OpStep.storeAll (us := [.int .i64 (ix xs (k * 3)), .int .i64 (ix xs (k * 3 + 1)), .int .i64 (ix xs (k * 3 + 2))]) Tsize_71 rfl rfl rfl (.here _) rfl ?_)
          refine Run.done ?_
          refine Run.seq ?_
          refine Run.region ?_
          refine Run.q (v := .pointer (some ⟨b1, 0, none⟩)) rfl (OpQ.y (OpY.fieldAddr Tfo_38_0 rfl rfl)) ?_
          refine Run.q (v := .int .i64 N) rfl (OpQ.y (OpY.load1 Tone_3 rfl (Cells.blk (.tail _ (List.Mem.head _)) ⟨rfl, trivial⟩))) ?_
          refine Run.q (v := .agg #[.int .i64 (ix xs (k * 3)), .int .i64 (ix xs (k * 3 + 1)), .int .i64 (ix xs (k * 3 + 2))]) rfl (OpQ.y (OpY.loadN (cs := [.int .i64 (ix xs (k * 3)), .int .i64 (ix xs (k * 3 + 1)), .int .i64 (ix xs (k * 3 + 2))]) Tagg_71 rfl (Cells.blk (.head _) ⟨rfl, rfl, rfl, trivial⟩))) ?_
          refine Run.q (v := .bool (gateOk N (ix xs (k * 3)) (ix xs (k * 3 + 1)) (ix xs (k * 3 + 2)))) rfl (OpQ.call (vs := [.int .i64 N, .agg #[.int .i64 (ix xs (k * 3)), .int .i64 (ix xs (k * 3 + 1)), .int .i64 (ix xs (k * 3 + 2))]]) (caps := []) Tcall_131 rfl rfl (fun w hs => l4Gate_spec (within_iff.1 hwi) w)) ?_
          refine Run.q (v := .bool (!(gateOk N (ix xs (k * 3)) (ix xs (k * 3 + 1)) (ix xs (k * 3 + 2))))) rfl (OpQ.y (OpY.pure rfl)) ?_
          refine Run.done ?_
          refine Run.cond (b := !(gateOk N (ix xs (k * 3)) (ix xs (k * 3 + 1)) (ix xs (k * 3 + 2)))) rfl (fun h26 => ?_) (fun h26 => ?_)
          · have p26 := h26; try simp only [bs] at p26
            refine Run.seq ?_
            have hres : allI (gateAt N xs) n = false := allI_false hltk (by simpa [gateAt] using p26)
            refine Run.region ?_
            refine Run.q (v := .bool false) rfl (OpQ.y (OpY.pure rfl)) ?_
            refine Run.done ?_
            refine Run.ret ?_
            refine ⟨.bool false, [], Out.one rfl rfl, (Some'.weak (.nil _)), ?_⟩
            show _ = _; simp only [circOk] at *; simp_all; try omega
          · have p26 := h26; try simp only [bs] at p26
            refine Run.skip ?_
            refine Run.blockEnd ?_
            have hgood : gateAt N xs k = true := by simpa [gateAt] using p26
            refine Run.region ?_
            refine Run.q (v := .int .i64 ((((k : Nat) : Int)) + 1)) rfl (OpQ.y (OpY.add rfl rfl rfl (by omega) (by omega))) ?_
            refine Run.q (v := .int .i64 ((((k : Nat) : Int)) + 1)) rfl (OpQ.y (OpY.pure rfl)) ?_
            refine Run.done ?_
            refine Run.goal ⟨(by repeat (first | exact Same.refl _ _ | refine Same.put rfl ?_ | refine Same.over rfl rfl ?_)), k + 1, ?_, ?_, ?_, ?_⟩
            · refine ⟨by omega, ?_⟩
              intro i hi
              rcases Nat.lt_succ_iff_lt_or_eq.1 hi with h | h
              · exact hinv.2 i h
              · rw [h]; exact hgood
            · omega
            · exact ⟨(by first | rfl | (congr 1; omega) | simp), trivial⟩
            · exact (Some'.weak (.skip (.takeEq (by first | rfl | simp) (.nil _))))
        · have p19 := h19; try simp only [bs] at p19
          have hknk : k = n := by omega
          have hres : allI (gateAt N xs) n = true := by rw [← hknk]; exact allI_iff.2 hinv.2
          refine Run.exit rfl ?_
          refine Run.seq ?_
          refine Run.region ?_
          refine Run.q (v := .bool true) rfl (OpQ.y (OpY.pure rfl)) ?_
          refine Run.done ?_
          refine Run.ret ?_
          refine ⟨.bool true, [], Out.one rfl rfl, (Some'.weak (.nil _)), ?_⟩
          show _ = _; simp only [circOk] at *; simp_all; try omega

set_option maxHeartbeats 1000000 in
set_option maxRecDepth 20000 in
theorem l1Most_spec (a b : Int) (w : World) : Calls Try.prog 115 #[.int .i64 a, .int .i64 b] w (Post No w fun v _ => v = .int .i64 (max a b)) := by
  refine enter (n := 10) (args := [.int .i64 a, .int .i64 b]) Try.func115 rfl rfl (St.empty _ _) ?_
  refine Run.seq ?_
  refine Run.region ?_
  refine Run.q (v := .int .i64 0) rfl (OpQ.y (OpY.pure rfl)) ?_
  refine Run.done ?_
  refine Run.seq ?_
  refine Run.seq ?_
  refine Run.region ?_
  refine Run.q (v := .int .i64 a) rfl (OpQ.y (OpY.pure rfl)) ?_
  refine Run.q (v := .int .i64 b) rfl (OpQ.y (OpY.pure rfl)) ?_
  refine Run.q (v := .bool (decide (a > b))) rfl (OpQ.y (OpY.pure rfl)) ?_
  refine Run.done ?_
  refine Run.cond (b := decide (a > b)) rfl (fun h7 => ?_) (fun h7 => ?_)
  · have p7 := h7; try simp only [bs] at p7
    refine Run.seq ?_
    refine Run.region ?_
    refine Run.q (v := .int .i64 a) rfl (OpQ.y (OpY.pure rfl)) ?_
    refine Run.q (v := .int .i64 a) rfl (OpQ.y (OpY.pure rfl)) ?_
    refine Run.done ?_
    refine Run.ret ?_
    refine ⟨.int .i64 a, [], Out.one rfl rfl, (Some'.weak (.nil _)), ?_⟩
    show _ = _; congr 1; omega
  · have p7 := h7; try simp only [bs] at p7
    refine Run.skip ?_
    refine Run.seq ?_
    refine Run.region ?_
    refine Run.q (v := .int .i64 b) rfl (OpQ.y (OpY.pure rfl)) ?_
    refine Run.q (v := .int .i64 b) rfl (OpQ.y (OpY.pure rfl)) ?_
    refine Run.done ?_
    refine Run.ret ?_
    refine ⟨.int .i64 b, [], Out.one rfl rfl, (Some'.weak (.nil _)), ?_⟩
    show _ = _; congr 1; omega

end Go.Proofs.Yteehfidjofcfmaa
