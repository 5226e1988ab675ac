/- Walks: valid gates and circuits, the qubits of a gate. -/
import Derived.Test.YtadobifnhcafpaaW1
import Derived.Test.YtadobifnhcafpaaFind
import Derived.Test.YtadobifnhcafpaaProg
set_option linter.unusedSimpArgs false
set_option linter.unusedVariables false
namespace Go.Proofs.Ytadobifnhcafpaa
open Go Go.RowKit

def gateOk (n k a b : Int) : Bool := decide ((1 ≤ k ∧ k ≤ 8 ∧ 0 ≤ a ∧ a < n ∧ b = 0) ∨ (9 ≤ k ∧ k ≤ 11 ∧ 0 ≤ a ∧ a < n ∧ 0 ≤ b ∧ b < n ∧ a ≠ b) ∨ (k = 12 ∧ a = 0 ∧ b = 0))
def gateAt (n : Int) (xs : List Int) (i : Nat) : Bool := gateOk n (ix xs (i * 3)) (ix xs (i * 3 + 1)) (ix xs (i * 3 + 2))
def circOk (N : Int) (xs : List Int) (n : Nat) : Bool := within N 1 5 && decide (n ≤ 400) && allI (gateAt N xs) n
theorem circOk_N {N : Int} {xs : List Int} {n : Nat} (h : circOk N xs n = true) : 1 ≤ N ∧ N ≤ 5 := by
  simp only [circOk, Bool.and_eq_true] at h; exact within_iff.1 h.1.1
theorem circOk_n {N : Int} {xs : List Int} {n : Nat} (h : circOk N xs n = true) : n ≤ 400 := by
  simp only [circOk, Bool.and_eq_true, decide_eq_true_eq] at h; exact h.1.2
theorem circOk_gate {N : Int} {xs : List Int} {n : Nat} (h : circOk N xs n = true) {i : Nat} (hi : i < n) : gateAt N xs i = true := by
  simp only [circOk, Bool.and_eq_true] at h; exact allI_iff.1 h.2 i hi
theorem gateOk_split {n k a b : Int} (h : gateOk n k a b = true) : (1 ≤ k ∧ k ≤ 8 ∧ 0 ≤ a ∧ a < n ∧ b = 0) ∨ (9 ≤ k ∧ k ≤ 11 ∧ 0 ≤ a ∧ a < n ∧ 0 ≤ b ∧ b < n ∧ a ≠ b) ∨ (k = 12 ∧ a = 0 ∧ b = 0) := of_decide_eq_true h
/-- The qubits of a gate. -/
def qs (k a b : Int) : List Int := if k = 12 then [] else if 9 ≤ k ∧ k ≤ 11 then [a, b] else [a]
theorem qs_le (k a b : Int) : (qs k a b).length ≤ 2 := by unfold qs; split <;> (try split) <;> simp

set_option maxHeartbeats 1000000 in
set_option maxRecDepth 20000 in
theorem l1Most_spec (a b : Int) (w : World) : Calls Try.prog 22 #[.int .i64 a, .int .i64 b] w (Post No w fun v _ => v = .int .i64 (max a b)) := by
  refine enter (n := 10) (args := [.int .i64 a, .int .i64 b]) Try.func22 rfl rfl (St.empty _ _) ?_
  refine Run.seq ?_
  refine Run.region ?_
  refine Run.q (v := .int .i64 0) rfl (OpQ.y (OpY.pure rfl)) ?_
  refine Run.done ?_
  refine Run.seq ?_
  refine Run.seq ?_
  refine Run.region ?_
  refine Run.q (v := .int .i64 a) rfl (OpQ.y (OpY.pure rfl)) ?_
  refine Run.q (v := .int .i64 b) rfl (OpQ.y (OpY.pure rfl)) ?_
  refine Run.q (v := .bool (decide (a > b))) rfl (OpQ.y (OpY.pure rfl)) ?_
  refine Run.done ?_
  refine Run.cond (b := decide (a > b)) rfl (fun h7 => ?_) (fun h7 => ?_)
  · have p7 := h7; try simp only [bs] at p7
    refine Run.seq ?_
    refine Run.region ?_
    refine Run.q (v := .int .i64 a) rfl (OpQ.y (OpY.pure rfl)) ?_
    refine Run.q (v := .int .i64 a) rfl (OpQ.y (OpY.pure rfl)) ?_
    refine Run.done ?_
    refine Run.ret ?_
    refine ⟨.int .i64 a, [], Out.one rfl rfl, (Some'.weak (.nil _)), ?_⟩
    show _ = _; congr 1; omega
  · have p7 := h7; try simp only [bs] at p7
    refine Run.skip ?_
    refine Run.seq ?_
    refine Run.region ?_
    refine Run.q (v := .int .i64 b) rfl (OpQ.y (OpY.pure rfl)) ?_
    refine Run.q (v := .int .i64 b) rfl (OpQ.y (OpY.pure rfl)) ?_
    refine Run.done ?_
    refine Run.ret ?_
    refine ⟨.int .i64 b, [], Out.one rfl rfl, (Some'.weak (.nil _)), ?_⟩
    show _ = _; congr 1; omega

end Go.Proofs.Ytadobifnhcafpaa
