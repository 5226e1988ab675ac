/- Walks: valid gates and circuits, the qubits of a gate. -/
import Derived.Test.YtgpkpopbajkklaaGreatDoorV2
import Derived.Test.YtgpkpopbajkklaaGreatDoorProg
import Derived.Shelf.Strconv.Atoi
import Derived.Shelf.Strconv.Itoa0
import Derived.Shelf.Strconv.Itoa1
import Derived.Shelf.LaysM
import Derived.Shelf.Strconv.Itoa2
import Derived.Shelf.Strconv.Itoa3
import Derived.Shelf.Strconv.AtoiErrFast
import Derived.Shelf.Strconv.ParseIntEmpty
import Derived.Shelf.Strconv.AtoiFail
import Derived.Shelf.Strconv.Clone
import Derived.Shelf.Strconv.SyntaxError
import Derived.Shelf.LaysC
import Derived.Shelf.Strconv.ToError
import Derived.Shelf.Strconv.Lower
import Derived.Shelf.Strconv.ParseUint10
import Derived.Shelf.Strconv.ParseUint10Empty
import Derived.Shelf.Strconv.ParseUint10Any
import Derived.Shelf.Strconv.ParseInt10
import Derived.Shelf.Strconv.AtoiLong
import Derived.Shelf.Strconv.AtoiInnerAll
import Derived.Shelf.Strconv.RangeError
import Derived.Shelf.Strconv.ToErrorRange
import Derived.Shelf.Strconv.AtoiAll
import Derived.Shelf.Strconv.ErrVarAll
import Derived.Shelf.Strings.Search1
import Derived.Shelf.Strings.Search2
import Derived.Shelf.Strings.Search3
import Derived.Shelf.Strings.Count
import Derived.Shelf.Strings.Shaped
import Derived.Shelf.Strings.Prefix
import Derived.Shelf.Strings.Split
import Derived.Shelf.Strings.SplitShaped
import Derived.Shelf.Unicode.DecodeSlow
import Derived.Ground.SlgnProg
import Derived.Shelf.SlicesG.Turned
import Derived.Shelf.SlicesE.Index
set_option linter.unusedSimpArgs false
set_option linter.unusedVariables false
namespace Go.Proofs.YtgpkpopbajkklaaGreatDoor
open Go Go.RowKit
namespace CiT
theorem Tagg_69 : aggOf Tryz.prog 69 = some 3 := by kernel_rfl
theorem Tcall_62 : callable Tryz.prog 62 = true := by kernel_rfl
theorem Tcall_63 : callable Tryz.prog 63 = true := by kernel_rfl
theorem Tcall_64 : callable Tryz.prog 64 = true := by kernel_rfl
theorem Tcall_65 : callable Tryz.prog 65 = true := by kernel_rfl
theorem Tcall_68 : callable Tryz.prog 68 = true := by kernel_rfl
theorem Tcall_69 : callable Tryz.prog 69 = true := by kernel_rfl
theorem Tcall_94 : callable Tryz.prog 94 = true := by kernel_rfl
theorem Tcall_95 : callable Tryz.prog 95 = true := by kernel_rfl
theorem Tfo_24_0 : fieldOff Tryz.prog 24 0 = some 0 := by kernel_rfl
theorem Tfo_24_1 : fieldOff Tryz.prog 24 1 = some 1 := by kernel_rfl
theorem Tfo_69_0 : fieldOff Tryz.prog 69 0 = some 0 := by kernel_rfl
theorem Tfo_69_1 : fieldOff Tryz.prog 69 1 = some 1 := by kernel_rfl
theorem Tfo_69_2 : fieldOff Tryz.prog 69 2 = some 2 := by kernel_rfl
theorem Tone_22 : oneOf Tryz.prog 22 = true := by kernel_rfl
theorem Tone_3 : oneOf Tryz.prog 3 = true := by kernel_rfl
theorem Tsize_69 : (Tryz.prog.info? 69).map (·.size) = some 3 := by kernel_rfl
theorem Tsl_22 : sliceOf Tryz.prog 22 = some (69, 3, 24, [.int .i64 0, .int .i64 0, .int .i64 0]) := by kernel_rfl
theorem Tzero_69 : zeroOf Tryz.prog 69 = some [.int .i64 0, .int .i64 0, .int .i64 0] := by kernel_rfl
end CiT
open CiT
def gateOk (n k a b : Int) : Bool := decide ((1 ≤ k ∧ k ≤ 8 ∧ 0 ≤ a ∧ a < n ∧ b = 0) ∨ (9 ≤ k ∧ k ≤ 11 ∧ 0 ≤ a ∧ a < n ∧ 0 ≤ b ∧ b < n ∧ a ≠ b) ∨ (k = 12 ∧ a = 0 ∧ b = 0))
def gateAt (n : Int) (xs : List Int) (i : Nat) : Bool := gateOk n (ix xs (i * 3)) (ix xs (i * 3 + 1)) (ix xs (i * 3 + 2))
def circOk (N : Int) (xs : List Int) (n : Nat) : Bool := within N 1 5 && decide (n ≤ 400) && allI (gateAt N xs) n
theorem circOk_N {N : Int} {xs : List Int} {n : Nat} (h : circOk N xs n = true) : 1 ≤ N ∧ N ≤ 5 := by
  simp only [circOk, Bool.and_eq_true] at h; exact within_iff.1 h.1.1
theorem circOk_n {N : Int} {xs : List Int} {n : Nat} (h : circOk N xs n = true) : n ≤ 400 := by
  simp only [circOk, Bool.and_eq_true, decide_eq_true_eq] at h; exact h.1.2
theorem circOk_gate {N : Int} {xs : List Int} {n : Nat} (h : circOk N xs n = true) {i : Nat} (hi : i < n) : gateAt N xs i = true := by
  simp only [circOk, Bool.and_eq_true] at h; exact allI_iff.1 h.2 i hi
theorem gateOk_split {n k a b : Int} (h : gateOk n k a b = true) : (1 ≤ k ∧ k ≤ 8 ∧ 0 ≤ a ∧ a < n ∧ b = 0) ∨ (9 ≤ k ∧ k ≤ 11 ∧ 0 ≤ a ∧ a < n ∧ 0 ≤ b ∧ b < n ∧ a ≠ b) ∨ (k = 12 ∧ a = 0 ∧ b = 0) := of_decide_eq_true h
/-- The qubits of a gate. -/
def qs (k a b : Int) : List Int := if k = 12 then [] else if 9 ≤ k ∧ k ≤ 11 then [a, b] else [a]
set_option maxHeartbeats 1000000 in
set_option maxRecDepth 20000 in
theorem isTwo_spec (k : Int) (w : World) : Calls Tryz.prog 95 #[.int .i64 k] w (Post No w fun v _ => v = .bool (decide (9 ≤ k ∧ k ≤ 11))) := by
 refine enter (n := 5) (args := [.int .i64 k]) Tryz.func95 rfl rfl (St.empty _ _) ?_
 refine .sr ?_
 refine .m ?_
 refine .dsr ?_
 refine .m ?_
 refine .c (.bool (within k 9 11)) [.int .i64 k, .int .i64 9, .int .i64 11] Tcall_62 (fun w hs => within_spec _ _ _ w) ?_
 refine .m ?_
 refine .done ?_
 refine .ret ?_
 refine ⟨.bool (within k 9 11), [], Out.one rfl rfl, (Some'.weak (.nil _)), ?_⟩
 show _ = _; rw [within, Bool.decide_and]

set_option maxHeartbeats 1000000 in
set_option maxRecDepth 20000 in
theorem l22Two_spec (k a b : Int) (w : World) : Calls Tryz.prog 99 #[.agg #[.int .i64 k, .int .i64 a, .int .i64 b]] w (Post No w fun v _ => v = .bool (decide (9 ≤ k ∧ k ≤ 11))) := by
 refine enter (n := 16) (args := [.agg #[.int .i64 k, .int .i64 a, .int .i64 b]]) Tryz.func99 rfl rfl (St.empty _ _) ?_
 refine .sr ?_
 refine .step rfl (.box (us := [.int .i64 k, .int .i64 a, .int .i64 b]) rfl fun b1 => ?_)
 refine .m ?_
 refine .dsr ?_
 refine .fa Tfo_69_0 ?_
 refine .u (.int .i64 k) (.load1 Tone_3 rfl (.b (.head _))) ?_
 refine .w (.bool (k == 9)) ?_
 rcases Bool.eq_false_or_eq_true (k == 9) with h6 | h6
 ·refine .mb h6 ?_
  have p6 := h6; try simp only [bs] at p6
  iterate 3 refine .pass rfl ?_
  refine .w (.bool true) ?_
  refine .m ?_
  iterate 3 refine .pass rfl ?_
  refine .w (.bool true) ?_
  refine .m ?_
  refine .done ?_
  refine .ret ?_
  refine ⟨.bool true, [], Out.one rfl rfl, (Some'.weak (.nil _)), ?_⟩
  show _ = _; congr 1; rw [eq_comm]; first | (rw [decide_eq_true_iff]; omega) | (rw [decide_eq_false_iff_not]; omega) | (rw [Bool.eq_iff_iff, decide_eq_true_iff, beq_iff_eq]; omega)
 refine .mb h6 ?_
 have p6 := h6; try simp only [bs] at p6
 refine .fa Tfo_69_0 ?_
 refine .u (.int .i64 k) (.load1 Tone_3 rfl (.b (.head _))) ?_
 refine .w (.bool (k == 10)) ?_
 refine .w (.bool (k == 10)) ?_
 rcases Bool.eq_false_or_eq_true (k == 10) with h11 | h11
 ·refine .mb h11 ?_
  have p11 := h11; try simp only [bs] at p11
  iterate 3 refine .pass rfl ?_
  refine .w (.bool true) ?_
  refine .m ?_
  refine .done ?_
  refine .ret ?_
  refine ⟨.bool true, [], Out.one rfl rfl, (Some'.weak (.nil _)), ?_⟩
  show _ = _; congr 1; rw [eq_comm]; first | (rw [decide_eq_true_iff]; omega) | (rw [decide_eq_false_iff_not]; omega) | (rw [Bool.eq_iff_iff, decide_eq_true_iff, beq_iff_eq]; omega)
 refine .mb h11 ?_
 have p11 := h11; try simp only [bs] at p11
 refine .fa Tfo_69_0 ?_
 refine .u (.int .i64 k) (.load1 Tone_3 rfl (.b (.head _))) ?_
 refine .w (.bool (k == 11)) ?_
 refine .w (.bool (k == 11)) ?_
 refine .m ?_
 refine .done ?_
 refine .ret ?_
 refine ⟨.bool (k == 11), [], Out.one rfl rfl, (Some'.weak (.nil _)), ?_⟩
 show _ = _; congr 1; rw [eq_comm]; first | (rw [decide_eq_true_iff]; omega) | (rw [decide_eq_false_iff_not]; omega) | (rw [Bool.eq_iff_iff, decide_eq_true_iff, beq_iff_eq]; omega)

set_option maxHeartbeats 1000000 in
set_option maxRecDepth 20000 in
theorem l4Gate_spec {n k a b : Int} (hn : 1 ≤ n ∧ n ≤ 5) (w : World) : Calls Tryz.prog 69 #[.int .i64 n, .agg #[.int .i64 k, .int .i64 a, .int .i64 b]] w (Post No w fun v _ => v = .bool (gateOk n k a b)) := by
 have hn5 := within_iff.2 hn
 refine enter (n := 55) (args := [.int .i64 n, .agg #[.int .i64 k, .int .i64 a, .int .i64 b]]) Tryz.func69 rfl rfl (St.empty _ _) ?_
 refine .sr ?_
 refine .step rfl (.box (us := [.int .i64 k, .int .i64 a, .int .i64 b]) rfl fun b1 => ?_)
 refine .m ?_
 refine .done ?_
 refine .seq ?_
 refine .block ?_
 refine .sr ?_
 refine .fa Tfo_69_0 ?_
 refine .u (.int .i64 k) (.load1 Tone_3 rfl (.b (.head _))) ?_
 refine .c (.bool (within k 1 8)) [.int .i64 k, .int .i64 1, .int .i64 8] Tcall_68 (fun w hs => l1In_spec _ _ _ w) ?_
 refine .m ?_
 refine .done ?_
 refine .cond (b := within k 1 8) rfl (fun h5 => ?_) (fun h5 => ?_)
 ·have p5 := h5; try simp only [bs] at p5
  refine .sr ?_
  refine .fa Tfo_69_1 ?_
  refine .u (.int .i64 a) (.load1 Tone_3 rfl (.b (.head _))) ?_
  refine .m ?_
  refine .u (.int .i64 (n - 1)) (.sub rfl rfl rfl (by omega) (by omega)) ?_
  refine .c (.bool (within a 0 (n - 1))) [.int .i64 a, .int .i64 0, .int .i64 (n - 1)] Tcall_68 (fun w hs => l1In_spec _ _ _ w) ?_
  rcases Bool.eq_false_or_eq_true (within a 0 (n - 1)) with h14 | h14
  ·refine .mb h14 ?_
   have p14 := h14; try simp only [bs] at p14
   refine .fa Tfo_69_2 ?_
   refine .u (.int .i64 b) (.load1 Tone_3 rfl (.b (.head _))) ?_
   refine .w (.bool (b == 0)) ?_
   refine .w (.bool (b == 0)) ?_
   refine .m ?_
   refine .done ?_
   refine .ret ?_
   refine ⟨.bool (b == 0), [], Out.one rfl rfl, (Some'.weak (.nil _)), ?_⟩
   show _ = _; congr 1; rw [eq_comm]; simp only [within, bs] at *; unfold gateOk; first | (rw [decide_eq_true_iff]; omega) | (rw [decide_eq_false_iff_not]; omega) | (rw [Bool.eq_iff_iff, decide_eq_true_iff, beq_iff_eq]; omega) | (rw [Bool.eq_iff_iff, decide_eq_true_iff, bne_iff_ne]; omega) | (rw [Bool.eq_iff_iff, decide_eq_true_iff, within_iff]; omega)
  refine .mb h14 ?_
  have p14 := h14; try simp only [bs] at p14
  iterate 3 refine .pass rfl ?_
  refine .w (.bool false) ?_
  refine .m ?_
  refine .done ?_
  refine .ret ?_
  refine ⟨.bool false, [], Out.one rfl rfl, (Some'.weak (.nil _)), ?_⟩
  show _ = _; congr 1; rw [eq_comm]; simp only [within, bs] at *; unfold gateOk; first | (rw [decide_eq_true_iff]; omega) | (rw [decide_eq_false_iff_not]; omega) | (rw [Bool.eq_iff_iff, decide_eq_true_iff, beq_iff_eq]; omega) | (rw [Bool.eq_iff_iff, decide_eq_true_iff, bne_iff_ne]; omega) | (rw [Bool.eq_iff_iff, decide_eq_true_iff, within_iff]; omega)
 have p5 := h5; try simp only [bs] at p5
 refine .sr ?_
 refine .fa Tfo_69_0 ?_
 refine .u (.int .i64 k) (.load1 Tone_3 rfl (.b (.head _))) ?_
 refine .c (.bool (within k 9 11)) [.int .i64 k, .int .i64 9, .int .i64 11] Tcall_68 (fun w hs => l1In_spec _ _ _ w) ?_
 refine .m ?_
 refine .done ?_
 refine .cond (b := within k 9 11) rfl (fun h19 => ?_) (fun h19 => ?_)
 ·have p19 := h19; try simp only [bs] at p19
  refine .sr ?_
  refine .fa Tfo_69_1 ?_
  refine .u (.int .i64 a) (.load1 Tone_3 rfl (.b (.head _))) ?_
  refine .m ?_
  refine .u (.int .i64 (n - 1)) (.sub rfl rfl rfl (by omega) (by omega)) ?_
  refine .c (.bool (within a 0 (n - 1))) [.int .i64 a, .int .i64 0, .int .i64 (n - 1)] Tcall_68 (fun w hs => l1In_spec _ _ _ w) ?_
  rcases Bool.eq_false_or_eq_true (within a 0 (n - 1)) with h28 | h28
  ·refine .mb h28 ?_
   have p28 := h28; try simp only [bs] at p28
   refine .fa Tfo_69_2 ?_
   refine .u (.int .i64 b) (.load1 Tone_3 rfl (.b (.head _))) ?_
   refine .m ?_
   refine .u (.int .i64 (n - 1)) (.sub rfl rfl rfl (by omega) (by omega)) ?_
   refine .c (.bool (within b 0 (n - 1))) [.int .i64 b, .int .i64 0, .int .i64 (n - 1)] Tcall_68 (fun w hs => l1In_spec _ _ _ w) ?_
   refine .w (.bool (within b 0 (n - 1))) ?_
   rcases Bool.eq_false_or_eq_true (within b 0 (n - 1)) with h35 | h35
   ·refine .mb h35 ?_
    have p35 := h35; try simp only [bs] at p35
    refine .fa Tfo_69_1 ?_
    refine .u (.int .i64 a) (.load1 Tone_3 rfl (.b (.head _))) ?_
    refine .fa Tfo_69_2 ?_
    refine .u (.int .i64 b) (.load1 Tone_3 rfl (.b (.head _))) ?_
    refine .w (.bool (a != b)) ?_
    refine .w (.bool (a != b)) ?_
    refine .m ?_
    refine .done ?_
    refine .ret ?_
    refine ⟨.bool (a != b), [], Out.one rfl rfl, (Some'.weak (.nil _)), ?_⟩
    show _ = _; congr 1; rw [eq_comm]; simp only [within, bs] at *; unfold gateOk; first | (rw [decide_eq_true_iff]; omega) | (rw [decide_eq_false_iff_not]; omega) | (rw [Bool.eq_iff_iff, decide_eq_true_iff, beq_iff_eq]; omega) | (rw [Bool.eq_iff_iff, decide_eq_true_iff, bne_iff_ne]; omega) | (rw [Bool.eq_iff_iff, decide_eq_true_iff, within_iff]; omega)
   refine .mb h35 ?_
   have p35 := h35; try simp only [bs] at p35
   iterate 5 refine .pass rfl ?_
   refine .w (.bool false) ?_
   refine .m ?_
   refine .done ?_
   refine .ret ?_
   refine ⟨.bool false, [], Out.one rfl rfl, (Some'.weak (.nil _)), ?_⟩
   show _ = _; congr 1; rw [eq_comm]; simp only [within, bs] at *; unfold gateOk; first | (rw [decide_eq_true_iff]; omega) | (rw [decide_eq_false_iff_not]; omega) | (rw [Bool.eq_iff_iff, decide_eq_true_iff, beq_iff_eq]; omega) | (rw [Bool.eq_iff_iff, decide_eq_true_iff, bne_iff_ne]; omega) | (rw [Bool.eq_iff_iff, decide_eq_true_iff, within_iff]; omega)
  refine .mb h28 ?_
  have p28 := h28; try simp only [bs] at p28
  iterate 5 refine .pass rfl ?_
  refine .w (.bool false) ?_
  refine .m ?_
  iterate 5 refine .pass rfl ?_
  refine .w (.bool false) ?_
  refine .m ?_
  refine .done ?_
  refine .ret ?_
  refine ⟨.bool false, [], Out.one rfl rfl, (Some'.weak (.nil _)), ?_⟩
  show _ = _; congr 1; rw [eq_comm]; simp only [within, bs] at *; unfold gateOk; first | (rw [decide_eq_true_iff]; omega) | (rw [decide_eq_false_iff_not]; omega) | (rw [Bool.eq_iff_iff, decide_eq_true_iff, beq_iff_eq]; omega) | (rw [Bool.eq_iff_iff, decide_eq_true_iff, bne_iff_ne]; omega) | (rw [Bool.eq_iff_iff, decide_eq_true_iff, within_iff]; omega)
 have p19 := h19; try simp only [bs] at p19
 refine .skip ?_
 refine .blockEnd ?_
 refine .sr ?_
 refine .fa Tfo_69_0 ?_
 refine .u (.int .i64 k) (.load1 Tone_3 rfl (.b (.head _))) ?_
 refine .w (.bool (k == 12)) ?_
 rcases Bool.eq_false_or_eq_true (k == 12) with h45 | h45
 ·refine .mb h45 ?_
  have p45 := h45; try simp only [bs] at p45
  refine .fa Tfo_69_1 ?_
  refine .u (.int .i64 a) (.load1 Tone_3 rfl (.b (.head _))) ?_
  refine .w (.bool (a == 0)) ?_
  refine .w (.bool (a == 0)) ?_
  rcases Bool.eq_false_or_eq_true (a == 0) with h50 | h50
  ·refine .mb h50 ?_
   have p50 := h50; try simp only [bs] at p50
   refine .fa Tfo_69_2 ?_
   refine .u (.int .i64 b) (.load1 Tone_3 rfl (.b (.head _))) ?_
   refine .w (.bool (b == 0)) ?_
   refine .w (.bool (b == 0)) ?_
   refine .m ?_
   refine .done ?_
   refine .ret ?_
   refine ⟨.bool (b == 0), [], Out.one rfl rfl, (Some'.weak (.nil _)), ?_⟩
   show _ = _; congr 1; rw [eq_comm]; simp only [within, bs] at *; unfold gateOk; first | (rw [decide_eq_true_iff]; omega) | (rw [decide_eq_false_iff_not]; omega) | (rw [Bool.eq_iff_iff, decide_eq_true_iff, beq_iff_eq]; omega) | (rw [Bool.eq_iff_iff, decide_eq_true_iff, bne_iff_ne]; omega) | (rw [Bool.eq_iff_iff, decide_eq_true_iff, within_iff]; omega)
  refine .mb h50 ?_
  have p50 := h50; try simp only [bs] at p50
  iterate 3 refine .pass rfl ?_
  refine .w (.bool false) ?_
  refine .m ?_
  refine .done ?_
  refine .ret ?_
  refine ⟨.bool false, [], Out.one rfl rfl, (Some'.weak (.nil _)), ?_⟩
  show _ = _; congr 1; rw [eq_comm]; simp only [within, bs] at *; unfold gateOk; first | (rw [decide_eq_true_iff]; omega) | (rw [decide_eq_false_iff_not]; omega) | (rw [Bool.eq_iff_iff, decide_eq_true_iff, beq_iff_eq]; omega) | (rw [Bool.eq_iff_iff, decide_eq_true_iff, bne_iff_ne]; omega) | (rw [Bool.eq_iff_iff, decide_eq_true_iff, within_iff]; omega)
 refine .mb h45 ?_
 have p45 := h45; try simp only [bs] at p45
 iterate 3 refine .pass rfl ?_
 refine .w (.bool false) ?_
 refine .m ?_
 iterate 3 refine .pass rfl ?_
 refine .w (.bool false) ?_
 refine .m ?_
 refine .done ?_
 refine .ret ?_
 refine ⟨.bool false, [], Out.one rfl rfl, (Some'.weak (.nil _)), ?_⟩
 show _ = _; congr 1; rw [eq_comm]; simp only [within, bs] at *; unfold gateOk; first | (rw [decide_eq_true_iff]; omega) | (rw [decide_eq_false_iff_not]; omega) | (rw [Bool.eq_iff_iff, decide_eq_true_iff, beq_iff_eq]; omega) | (rw [Bool.eq_iff_iff, decide_eq_true_iff, bne_iff_ne]; omega) | (rw [Bool.eq_iff_iff, decide_eq_true_iff, within_iff]; omega)

set_option maxHeartbeats 1000000 in
set_option maxRecDepth 20000 in
theorem IsValidGate_spec {n k a b : Int} (hn : 1 ≤ n ∧ n ≤ 5) (w : World) : Calls Tryz.prog 65 #[.int .i64 n, .agg #[.int .i64 k, .int .i64 a, .int .i64 b]] w (Post No w fun v _ => v = .bool (gateOk n k a b)) := by
 have hn5 := within_iff.2 hn
 refine enter (n := 60) (args := [.int .i64 n, .agg #[.int .i64 k, .int .i64 a, .int .i64 b]]) Tryz.func65 rfl rfl (St.empty _ _) ?_
 refine .sr ?_
 refine .step rfl (.box (us := [.int .i64 k, .int .i64 a, .int .i64 b]) rfl fun b1 => ?_)
 refine .m ?_
 refine .done ?_
 refine .seq ?_
 refine .block ?_
 refine .sr ?_
 refine .m ?_
 refine .c (.bool (within n 1 5)) [.int .i64 n, .int .i64 1, .int .i64 5] Tcall_62 (fun w hs => within_spec _ _ _ w) ?_
 refine .w (.bool (!(within n 1 5))) ?_
 rcases Bool.eq_false_or_eq_true (!(within n 1 5)) with h9 | h9
 ·refine .mb h9 ?_
  have p9 := h9; try simp only [bs] at p9
  iterate 4 refine .pass rfl ?_
  refine .w (.bool true) ?_
  refine .m ?_
  refine .done ?_
  refine .cond (b := true) rfl (fun _ => ?_) (fun h => nomatch h)
  refine .sr ?_
  refine .m ?_
  refine .done ?_
  refine .ret ?_
  refine ⟨.bool false, [], Out.one rfl rfl, (Some'.weak (.nil _)), ?_⟩
  show _ = _; congr 1; rw [eq_comm]; simp only [within, bs] at *; unfold gateOk; first | (rw [decide_eq_true_iff]; omega) | (rw [decide_eq_false_iff_not]; omega) | (rw [Bool.eq_iff_iff, decide_eq_true_iff, beq_iff_eq]; omega) | (rw [Bool.eq_iff_iff, decide_eq_true_iff, bne_iff_ne]; omega) | (rw [Bool.eq_iff_iff, decide_eq_true_iff, within_iff]; omega)
 refine .mb h9 ?_
 have p9 := h9; try simp only [bs] at p9
 refine .fa Tfo_69_0 ?_
 refine .u (.int .i64 k) (.load1 Tone_3 rfl (.b (.head _))) ?_
 refine .c (.bool (within k 1 12)) [.int .i64 k, .int .i64 1, .int .i64 12] Tcall_62 (fun w hs => within_spec _ _ _ w) ?_
 refine .w (.bool (!(within k 1 12))) ?_
 refine .w (.bool (!(within k 1 12))) ?_
 refine .m ?_
 refine .done ?_
 refine .cond (b := !(within k 1 12)) rfl (fun h5 => ?_) (fun h5 => ?_)
 ·have p5 := h5; try simp only [bs] at p5
  refine .sr ?_
  refine .m ?_
  refine .done ?_
  refine .ret ?_
  refine ⟨.bool false, [], Out.one rfl rfl, (Some'.weak (.nil _)), ?_⟩
  show _ = _; congr 1; rw [eq_comm]; simp only [within, bs] at *; unfold gateOk; first | (rw [decide_eq_true_iff]; omega) | (rw [decide_eq_false_iff_not]; omega) | (rw [Bool.eq_iff_iff, decide_eq_true_iff, beq_iff_eq]; omega) | (rw [Bool.eq_iff_iff, decide_eq_true_iff, bne_iff_ne]; omega) | (rw [Bool.eq_iff_iff, decide_eq_true_iff, within_iff]; omega)
 have p5 := h5; try simp only [bs] at p5
 refine .sr ?_
 refine .fa Tfo_69_0 ?_
 refine .u (.int .i64 k) (.load1 Tone_3 rfl (.b (.head _))) ?_
 refine .w (.bool (k == 12)) ?_
 refine .m ?_
 refine .done ?_
 refine .cond (b := k == 12) rfl (fun h15 => ?_) (fun h15 => ?_)
 ·have p15 := h15; try simp only [bs] at p15
  refine .sr ?_
  refine .fa Tfo_69_1 ?_
  refine .u (.int .i64 a) (.load1 Tone_3 rfl (.b (.head _))) ?_
  refine .w (.bool (a == 0)) ?_
  rcases Bool.eq_false_or_eq_true (a == 0) with h22 | h22
  ·refine .mb h22 ?_
   have p22 := h22; try simp only [bs] at p22
   refine .fa Tfo_69_2 ?_
   refine .u (.int .i64 b) (.load1 Tone_3 rfl (.b (.head _))) ?_
   refine .w (.bool (b == 0)) ?_
   refine .w (.bool (b == 0)) ?_
   refine .m ?_
   refine .done ?_
   refine .ret ?_
   refine ⟨.bool (b == 0), [], Out.one rfl rfl, (Some'.weak (.nil _)), ?_⟩
   show _ = _; congr 1; rw [eq_comm]; simp only [within, bs] at *; unfold gateOk; first | (rw [decide_eq_true_iff]; omega) | (rw [decide_eq_false_iff_not]; omega) | (rw [Bool.eq_iff_iff, decide_eq_true_iff, beq_iff_eq]; omega) | (rw [Bool.eq_iff_iff, decide_eq_true_iff, bne_iff_ne]; omega) | (rw [Bool.eq_iff_iff, decide_eq_true_iff, within_iff]; omega)
  refine .mb h22 ?_
  have p22 := h22; try simp only [bs] at p22
  iterate 3 refine .pass rfl ?_
  refine .w (.bool false) ?_
  refine .m ?_
  refine .done ?_
  refine .ret ?_
  refine ⟨.bool false, [], Out.one rfl rfl, (Some'.weak (.nil _)), ?_⟩
  show _ = _; congr 1; rw [eq_comm]; simp only [within, bs] at *; unfold gateOk; first | (rw [decide_eq_true_iff]; omega) | (rw [decide_eq_false_iff_not]; omega) | (rw [Bool.eq_iff_iff, decide_eq_true_iff, beq_iff_eq]; omega) | (rw [Bool.eq_iff_iff, decide_eq_true_iff, bne_iff_ne]; omega) | (rw [Bool.eq_iff_iff, decide_eq_true_iff, within_iff]; omega)
 have p15 := h15; try simp only [bs] at p15
 refine .sr ?_
 refine .fa Tfo_69_0 ?_
 refine .u (.int .i64 k) (.load1 Tone_3 rfl (.b (.head _))) ?_
 refine .c (.bool (decide (9 ≤ k ∧ k ≤ 11))) [.int .i64 k] Tcall_95 (fun w hs => isTwo_spec _ w) ?_
 refine .m ?_
 refine .done ?_
 refine .cond (b := decide (9 ≤ k ∧ k ≤ 11)) rfl (fun h27 => ?_) (fun h27 => ?_)
 ·have p27 := h27; try simp only [bs] at p27
  refine .sr ?_
  refine .fa Tfo_69_1 ?_
  refine .u (.int .i64 a) (.load1 Tone_3 rfl (.b (.head _))) ?_
  refine .m ?_
  refine .u (.int .i64 (n - 1)) (.sub rfl rfl rfl (by omega) (by omega)) ?_
  refine .c (.bool (within a 0 (n - 1))) [.int .i64 a, .int .i64 0, .int .i64 (n - 1)] Tcall_62 (fun w hs => within_spec _ _ _ w) ?_
  rcases Bool.eq_false_or_eq_true (within a 0 (n - 1)) with h36 | h36
  ·refine .mb h36 ?_
   have p36 := h36; try simp only [bs] at p36
   refine .fa Tfo_69_2 ?_
   refine .u (.int .i64 b) (.load1 Tone_3 rfl (.b (.head _))) ?_
   refine .m ?_
   refine .u (.int .i64 (n - 1)) (.sub rfl rfl rfl (by omega) (by omega)) ?_
   refine .c (.bool (within b 0 (n - 1))) [.int .i64 b, .int .i64 0, .int .i64 (n - 1)] Tcall_62 (fun w hs => within_spec _ _ _ w) ?_
   refine .w (.bool (within b 0 (n - 1))) ?_
   rcases Bool.eq_false_or_eq_true (within b 0 (n - 1)) with h43 | h43
   ·refine .mb h43 ?_
    have p43 := h43; try simp only [bs] at p43
    refine .fa Tfo_69_1 ?_
    refine .u (.int .i64 a) (.load1 Tone_3 rfl (.b (.head _))) ?_
    refine .fa Tfo_69_2 ?_
    refine .u (.int .i64 b) (.load1 Tone_3 rfl (.b (.head _))) ?_
    refine .w (.bool (a != b)) ?_
    refine .w (.bool (a != b)) ?_
    refine .m ?_
    refine .done ?_
    refine .ret ?_
    refine ⟨.bool (a != b), [], Out.one rfl rfl, (Some'.weak (.nil _)), ?_⟩
    show _ = _; congr 1; rw [eq_comm]; simp only [within, bs] at *; unfold gateOk; first | (rw [decide_eq_true_iff]; omega) | (rw [decide_eq_false_iff_not]; omega) | (rw [Bool.eq_iff_iff, decide_eq_true_iff, beq_iff_eq]; omega) | (rw [Bool.eq_iff_iff, decide_eq_true_iff, bne_iff_ne]; omega) | (rw [Bool.eq_iff_iff, decide_eq_true_iff, within_iff]; omega)
   refine .mb h43 ?_
   have p43 := h43; try simp only [bs] at p43
   iterate 5 refine .pass rfl ?_
   refine .w (.bool false) ?_
   refine .m ?_
   refine .done ?_
   refine .ret ?_
   refine ⟨.bool false, [], Out.one rfl rfl, (Some'.weak (.nil _)), ?_⟩
   show _ = _; congr 1; rw [eq_comm]; simp only [within, bs] at *; unfold gateOk; first | (rw [decide_eq_true_iff]; omega) | (rw [decide_eq_false_iff_not]; omega) | (rw [Bool.eq_iff_iff, decide_eq_true_iff, beq_iff_eq]; omega) | (rw [Bool.eq_iff_iff, decide_eq_true_iff, bne_iff_ne]; omega) | (rw [Bool.eq_iff_iff, decide_eq_true_iff, within_iff]; omega)
  refine .mb h36 ?_
  have p36 := h36; try simp only [bs] at p36
  iterate 5 refine .pass rfl ?_
  refine .w (.bool false) ?_
  refine .m ?_
  iterate 5 refine .pass rfl ?_
  refine .w (.bool false) ?_
  refine .m ?_
  refine .done ?_
  refine .ret ?_
  refine ⟨.bool false, [], Out.one rfl rfl, (Some'.weak (.nil _)), ?_⟩
  show _ = _; congr 1; rw [eq_comm]; simp only [within, bs] at *; unfold gateOk; first | (rw [decide_eq_true_iff]; omega) | (rw [decide_eq_false_iff_not]; omega) | (rw [Bool.eq_iff_iff, decide_eq_true_iff, beq_iff_eq]; omega) | (rw [Bool.eq_iff_iff, decide_eq_true_iff, bne_iff_ne]; omega) | (rw [Bool.eq_iff_iff, decide_eq_true_iff, within_iff]; omega)
 have p27 := h27; try simp only [bs] at p27
 refine .skip ?_
 refine .blockEnd ?_
 refine .sr ?_
 refine .fa Tfo_69_1 ?_
 refine .u (.int .i64 a) (.load1 Tone_3 rfl (.b (.head _))) ?_
 refine .m ?_
 refine .u (.int .i64 (n - 1)) (.sub rfl rfl rfl (by omega) (by omega)) ?_
 refine .c (.bool (within a 0 (n - 1))) [.int .i64 a, .int .i64 0, .int .i64 (n - 1)] Tcall_62 (fun w hs => within_spec _ _ _ w) ?_
 rcases Bool.eq_false_or_eq_true (within a 0 (n - 1)) with h55 | h55
 ·refine .mb h55 ?_
  have p55 := h55; try simp only [bs] at p55
  refine .fa Tfo_69_2 ?_
  refine .u (.int .i64 b) (.load1 Tone_3 rfl (.b (.head _))) ?_
  refine .w (.bool (b == 0)) ?_
  refine .w (.bool (b == 0)) ?_
  refine .m ?_
  refine .done ?_
  refine .ret ?_
  refine ⟨.bool (b == 0), [], Out.one rfl rfl, (Some'.weak (.nil _)), ?_⟩
  show _ = _; congr 1; rw [eq_comm]; simp only [within, bs] at *; unfold gateOk; first | (rw [decide_eq_true_iff]; omega) | (rw [decide_eq_false_iff_not]; omega) | (rw [Bool.eq_iff_iff, decide_eq_true_iff, beq_iff_eq]; omega) | (rw [Bool.eq_iff_iff, decide_eq_true_iff, bne_iff_ne]; omega) | (rw [Bool.eq_iff_iff, decide_eq_true_iff, within_iff]; omega)
 refine .mb h55 ?_
 have p55 := h55; try simp only [bs] at p55
 iterate 3 refine .pass rfl ?_
 refine .w (.bool false) ?_
 refine .m ?_
 refine .done ?_
 refine .ret ?_
 refine ⟨.bool false, [], Out.one rfl rfl, (Some'.weak (.nil _)), ?_⟩
 show _ = _; congr 1; rw [eq_comm]; simp only [within, bs] at *; unfold gateOk; first | (rw [decide_eq_true_iff]; omega) | (rw [decide_eq_false_iff_not]; omega) | (rw [Bool.eq_iff_iff, decide_eq_true_iff, beq_iff_eq]; omega) | (rw [Bool.eq_iff_iff, decide_eq_true_iff, bne_iff_ne]; omega) | (rw [Bool.eq_iff_iff, decide_eq_true_iff, within_iff]; omega)

set_option maxHeartbeats 1000000 in
set_option maxRecDepth 20000 in
theorem validClosure_spec {N k a b : Int} {vg : Value} {w : World} (hN : 1 ≤ N ∧ N ≤ 5) {p : Nat} (hc : Sl w (.slice (some ⟨p, 0, none⟩) 1 1) 2 1 [.int .i64 N, vg]) : Calls Tryz.prog 64 #[.agg #[.int .i64 k, .int .i64 a, .int .i64 b], .pointer (some ⟨p, 0, none⟩)] w (Post No w fun v _ => v = .bool (!gateOk N k a b)) := by
 refine enter (n := 9) (args := [.agg #[.int .i64 k, .int .i64 a, .int .i64 b], .pointer (some ⟨p, 0, none⟩)]) Tryz.func64 rfl rfl (St.empty _ _) ?_
 refine .sr ?_
 refine .step rfl (.box (us := [.int .i64 k, .int .i64 a, .int .i64 b]) rfl fun b1 => ?_)
 refine .m ?_
 refine .dsr ?_
 refine .fa Tfo_24_0 ?_
 refine .u (.int .i64 N) (.load1 Tone_3 rfl (Cells.env (k := 0) hc rfl (by decide) ⟨rfl, trivial⟩)) ?_
 refine .u (.agg #[.int .i64 k, .int .i64 a, .int .i64 b]) (.loadN (cs := [.int .i64 k, .int .i64 a, .int .i64 b]) Tagg_69 rfl (Cells.blk (.head _) ⟨rfl, rfl, rfl, trivial⟩)) ?_
 refine .c (.bool (gateOk N k a b)) [.int .i64 N, .agg #[.int .i64 k, .int .i64 a, .int .i64 b]] Tcall_65 (fun w hs => IsValidGate_spec hN w) ?_
 refine .w (.bool (!(gateOk N k a b))) ?_
 refine .m ?_
 refine .done ?_
 refine .ret ?_
 refine ⟨.bool (!(gateOk N k a b)), [], Out.one rfl rfl, (Some'.weak (.nil _)), ?_⟩
 rfl

set_option maxHeartbeats 1000000 in
set_option maxRecDepth 20000 in
theorem IndexFuncValid_spec {N : Int} {va vg : Value} {n : Nat} {xs : List Int} {w : World} (hN : 1 ≤ N ∧ N ≤ 5) (ha : Sl w va 3 n (ints xs)) {p : Nat} (hc : Sl w (.slice (some ⟨p, 0, none⟩) 1 1) 2 1 [.int .i64 N, vg]) : Calls Tryz.prog 94 #[va, .func (.func 64) #[] #[.pointer (some ⟨p, 0, none⟩)]] w (Post No w fun v _ => v = .int .i64 (findI (fun i => !gateAt N xs i) n)) := by
 have hxl := ha.len
 have hn := ha.le
 obtain ⟨A, c, rfl, _, _⟩ := ha.form0
 refine enter (n := 19) (args := [.slice A n c, .func (.func 64) #[] #[.pointer (some ⟨p, 0, none⟩)]]) Tryz.func94 rfl rfl (St.empty _ _) ?_
 refine .sr ?_
 refine .m ?_
 refine .done ?_
 refine .seq ?_
 refine .sr ?_
 refine .m ?_
 refine .u (.int .i64 (((n : Nat) : Int))) (.len Tsl_22 rfl) ?_
 refine .m ?_
 refine .done ?_
 refine .block ?_
 refine Run.loop (ι := Nat) [4, 5, 8, 9, 10, 11, 12, 13, 14, 15, 16, 17, 18] (fun k => [(8, .int .i64 (((k : Nat) : Int)))]) (fun k => []) (fun k => k ≤ n ∧ (∀ i, i < k → (!gateAt N xs i) = false)) (fun k => n - k) 0 ?_ ?_ ?_ ?_
 ·exact ⟨Nat.zero_le _, by first | trivial | (intro i hi; omega)⟩
 ·exact ⟨rfl, trivial⟩
 ·exact (Some'.weak (.nil _))
 rintro k fr hinv
 show Run _ _ (over _ _ [(8, .int .i64 (((k : Nat) : Int)))] fr) []
 try dsimp only at hinv
 refine .sr ?_
 refine .w (.bool (decide ((((k : Nat) : Int)) < (((n : Nat) : Int))))) ?_
 refine .done ?_
 refine .seq ?_
 refine .cond (b := decide ((((k : Nat) : Int)) < (((n : Nat) : Int)))) rfl (fun h9 => ?_) (fun h9 => ?_)
 ·have p9 := h9; try simp only [bs] at p9
  have hltk : k < n := by omega
  obtain ⟨b, o, rfl⟩ := ha.opn (by omega)
  refine .skip ?_
  refine .seq ?_
  refine .block ?_
  refine .sr ?_
  iterate 2 refine .m ?_
  refine .dsr ?_
  refine .w (.func (.func 64) #[] #[.pointer (some ⟨p, 0, none⟩)]) ?_
  iterate 2 refine .m ?_
  refine .u (.pointer (some ⟨b, o + k * 3, none⟩)) (.ix k Tsl_22) ?_
  refine .u (.agg #[.int .i64 (ix xs (k * 3)), .int .i64 (ix xs (k * 3 + 1)), .int .i64 (ix xs (k * 3 + 2))]) (.loadN (cs := [.int .i64 (ix xs (k * 3)), .int .i64 (ix xs (k * 3 + 1)), .int .i64 (ix xs (k * 3 + 2))]) Tagg_69 rfl (Cells.arg (k := k * 3) ha rfl (by omega) (pre3 (by omega)))) ?_
  refine Run.q (v := .bool (!gateOk N (ix xs (k * 3)) (ix xs (k * 3 + 1)) (ix xs (k * 3 + 2)))) rfl (OpQ.call (vs := [.agg #[.int .i64 (ix xs (k * 3)), .int .i64 (ix xs (k * 3 + 1)), .int .i64 (ix xs (k * 3 + 2))], .pointer (some ⟨p, 0, none⟩)]) (caps := [.pointer (some ⟨p, 0, none⟩)]) Tcall_64 rfl rfl (fun w hs => validClosure_spec hN (hs.sl hc))) ?_
  refine .done ?_
  refine .cond (b := !gateOk N (ix xs (k * 3)) (ix xs (k * 3 + 1)) (ix xs (k * 3 + 2))) rfl (fun h16 => ?_) (fun h16 => ?_)
  ·have p16 := h16; try simp only [bs] at p16
   refine .seq ?_
   have hres : findI (fun i => !gateAt N xs i) n = k := findI_hit hinv.2 h16 hltk
   refine .region ?_
   iterate 2 refine .m ?_
   refine .done ?_
   refine .ret ?_
   refine ⟨.int .i64 (((k : Nat) : Int)), [], Out.one rfl rfl, (Some'.weak (.nil _)), ?_⟩
   show _ = _; rw [hres]
  have p16 := h16; try simp only [bs] at p16
  refine .skip ?_
  refine .blockEnd ?_
  have hgood : (!gateAt N xs k) = false := h16
  refine .region ?_
  refine .u (.int .i64 ((((k : Nat) : Int)) + 1)) (.add rfl rfl rfl (by omega) (by omega)) ?_
  refine .m ?_
  refine .done ?_
  refine .goal ⟨(by repeat (first | exact Same.refl _ _ | refine Same.put rfl ?_ | refine Same.over rfl rfl ?_)), k + 1, ?_, ?_, ?_, ?_⟩
  ·refine ⟨by omega, ?_⟩
   intro i hi
   rcases Nat.lt_succ_iff_lt_or_eq.1 hi with h | h
   ·exact hinv.2 i h
   ·rw [h]; exact hgood
  ·omega
  ·exact ⟨(by first | rfl | (congr 1; omega) | simp), trivial⟩
  ·exact (Some'.weak (.nil _))
 have p9 := h9; try simp only [bs] at p9
 have hknk : k = n := by omega
 have hres : findI (fun i => !gateAt N xs i) n = -1 := by rw [← hknk]; exact findI_none hinv.2
 refine .exit rfl ?_
 refine .sr ?_
 refine .m ?_
 refine .done ?_
 refine .ret ?_
 refine ⟨.int .i64 (-1), [], Out.one rfl rfl, (Some'.weak (.nil _)), ?_⟩
 show _ = _; rw [hres]

set_option maxHeartbeats 1000000 in
set_option maxRecDepth 20000 in
theorem ContainsFuncValid_spec {N : Int} {va vg : Value} {n : Nat} {xs : List Int} {w : World} (hN : 1 ≤ N ∧ N ≤ 5) (ha : Sl w va 3 n (ints xs)) {p : Nat} (hc : Sl w (.slice (some ⟨p, 0, none⟩) 1 1) 2 1 [.int .i64 N, vg]) : Calls Tryz.prog 63 #[va, .func (.func 64) #[] #[.pointer (some ⟨p, 0, none⟩)]] w (Post No w fun v _ => v = .bool (!allI (gateAt N xs) n)) := by
 refine enter (n := 9) (args := [va, .func (.func 64) #[] #[.pointer (some ⟨p, 0, none⟩)]]) Tryz.func63 rfl rfl (St.empty _ _) ?_
 refine .sr ?_
 refine .m ?_
 refine .dsr ?_
 refine .w va ?_
 refine .w (.func (.func 64) #[] #[.pointer (some ⟨p, 0, none⟩)]) ?_
 refine .c (.int .i64 (findI (fun i => !gateAt N xs i) n)) [va, .func (.func 64) #[] #[.pointer (some ⟨p, 0, none⟩)]] Tcall_94 (fun w hs => IndexFuncValid_spec hN (hs.sl ha) (hs.sl hc)) ?_
 refine .w (.bool (decide ((findI (fun i => !gateAt N xs i) n) ≥ 0))) ?_
 refine .m ?_
 refine .done ?_
 refine .ret ?_
 refine ⟨.bool (decide ((findI (fun i => !gateAt N xs i) n) ≥ 0)), [], Out.one rfl rfl, (Some'.weak (.nil _)), ?_⟩
 show _ = _; rw [findI_ge, allI, Bool.not_not]

set_option maxHeartbeats 1000000 in
set_option maxRecDepth 20000 in
theorem IsValidCircuit_spec {N : Int} {va : Value} {n : Nat} {xs : List Int} {w : World} (ha : Sl w va 3 n (ints xs)) : Calls Tryz.prog 35 #[.agg #[.int .i64 N, va]] w (Post No w fun v _ => v = .bool (circOk N xs n)) := by
 have hxl := ha.len
 have hn := ha.le
 obtain ⟨A, c, rfl, _, _⟩ := ha.form0
 refine enter (n := 19) (args := [.agg #[.int .i64 N, .slice A n c]]) Tryz.func35 rfl rfl (St.empty _ _) ?_
 refine .sr ?_
 refine .step rfl (.box (us := [.int .i64 N, .slice A n c]) rfl fun b1 => ?_)
 refine .m ?_
 refine .dsr ?_
 refine .fa Tfo_24_0 ?_
 refine .u (.int .i64 N) (.load1 Tone_3 rfl (.b (.head _))) ?_
 refine .c (.bool (within N 1 5)) [.int .i64 N, .int .i64 1, .int .i64 5] Tcall_62 (fun w hs => within_spec _ _ _ w) ?_
 rcases Bool.eq_false_or_eq_true (within N 1 5) with h6 | h6
 ·refine .mb h6 ?_
  have p6 := h6; try simp only [bs] at p6
  refine .fa Tfo_24_1 ?_
  refine .u (.slice A n c) (.load1 Tone_22 rfl (.b (.head _))) ?_
  refine .u (.int .i64 (((n : Nat) : Int))) (.len Tsl_22 rfl) ?_
  refine .w (.bool (decide ((((n : Nat) : Int)) ≤ 400))) ?_
  refine .w (.bool (decide ((((n : Nat) : Int)) ≤ 400))) ?_
  rcases Bool.eq_false_or_eq_true (decide ((((n : Nat) : Int)) ≤ 400)) with h12 | h12
  ·refine .mb h12 ?_
   have p12 := h12; try simp only [bs] at p12
   refine .fa Tfo_24_1 ?_
   refine .u (.slice A n c) (.load1 Tone_22 rfl (.b (.head _))) ?_
   refine .u (.func (.func 64) #[] #[.pointer (some ⟨b1, 0, none⟩)]) (.makeFunc (caps := [.pointer (some ⟨b1, 0, none⟩)]) rfl) ?_
   refine .c (.bool (!allI (gateAt N xs) n)) [.slice A n c, .func (.func 64) #[] #[.pointer (some ⟨b1, 0, none⟩)]] Tcall_63 (fun w hs => ContainsFuncValid_spec (within_iff.1 p6) (hs.sl ha) (hs.slBlk (.head _))) ?_
   refine .w (.bool (!(!allI (gateAt N xs) n))) ?_
   refine .w (.bool (!(!allI (gateAt N xs) n))) ?_
   refine .m ?_
   refine .done ?_
   refine .ret ?_
   refine ⟨.bool (!(!allI (gateAt N xs) n)), [], Out.one rfl rfl, (Some'.weak (.nil _)), ?_⟩
   show _ = _; simp only [circOk] at *; simp_all; try omega
  refine .mb h12 ?_
  have p12 := h12; try simp only [bs] at p12
  iterate 5 refine .pass rfl ?_
  refine .w (.bool false) ?_
  refine .m ?_
  refine .done ?_
  refine .ret ?_
  refine ⟨.bool false, [], Out.one rfl rfl, (Some'.weak (.nil _)), ?_⟩
  show _ = _; simp only [circOk] at *; simp_all; try omega
 refine .mb h6 ?_
 have p6 := h6; try simp only [bs] at p6
 iterate 4 refine .pass rfl ?_
 refine .w (.bool false) ?_
 refine .m ?_
 iterate 5 refine .pass rfl ?_
 refine .w (.bool false) ?_
 refine .m ?_
 refine .done ?_
 refine .ret ?_
 refine ⟨.bool false, [], Out.one rfl rfl, (Some'.weak (.nil _)), ?_⟩
 show _ = _; simp only [circOk] at *; simp_all; try omega

set_option maxHeartbeats 1000000 in
set_option maxRecDepth 20000 in
theorem l4Good_spec {N : Int} {va : Value} {n : Nat} {xs : List Int} {w : World} (ha : Sl w va 3 n (ints xs)) : Calls Tryz.prog 38 #[.agg #[.int .i64 N, va]] w (Post No w fun v _ => v = .bool (circOk N xs n)) := by
 have hxl := ha.len
 have hn := ha.le
 obtain ⟨A, c, rfl, _, _⟩ := ha.form0
 refine enter (n := 28) (args := [.agg #[.int .i64 N, .slice A n c]]) Tryz.func38 rfl rfl (St.empty _ _) ?_
 refine .sr ?_
 refine .step rfl (.box (us := [.int .i64 N, .slice A n c]) rfl fun b1 => ?_)
 refine .m ?_
 refine .done ?_
 refine .seq ?_
 refine .sr ?_
 refine .fa Tfo_24_0 ?_
 refine .u (.int .i64 N) (.load1 Tone_3 rfl (.b (.head _))) ?_
 refine .c (.bool (within N 1 5)) [.int .i64 N, .int .i64 1, .int .i64 5] Tcall_68 (fun w hs => l1In_spec _ _ _ w) ?_
 refine .w (.bool (!(within N 1 5))) ?_
 rcases Bool.eq_false_or_eq_true (!(within N 1 5)) with h9 | h9
 ·refine .mb h9 ?_
  have p9 := h9; try simp only [bs] at p9
  iterate 4 refine .pass rfl ?_
  refine .w (.bool true) ?_
  refine .done ?_
  refine .cond (b := true) rfl (fun _ => ?_) (fun h => nomatch h)
  refine .sr ?_
  refine .m ?_
  refine .done ?_
  refine .ret ?_
  refine ⟨.bool false, [], Out.one rfl rfl, (Some'.weak (.nil _)), ?_⟩
  show _ = _; simp only [circOk] at *; simp_all; try omega
 refine .mb h9 ?_
 have p9 := h9; try simp only [bs] at p9
 refine .fa Tfo_24_1 ?_
 refine .u (.slice A n c) (.load1 Tone_22 rfl (.b (.head _))) ?_
 refine .u (.int .i64 (((n : Nat) : Int))) (.len Tsl_22 rfl) ?_
 refine .w (.bool (decide ((((n : Nat) : Int)) > 400))) ?_
 refine .w (.bool (decide ((((n : Nat) : Int)) > 400))) ?_
 refine .done ?_
 refine .cond (b := decide ((((n : Nat) : Int)) > 400)) rfl (fun h14 => ?_) (fun h14 => ?_)
 ·have p14 := h14; try simp only [bs] at p14
  refine .sr ?_
  refine .m ?_
  refine .done ?_
  refine .ret ?_
  refine ⟨.bool false, [], Out.one rfl rfl, (Some'.weak (.nil _)), ?_⟩
  show _ = _; simp only [circOk] at *; simp_all; try omega
 have p14 := h14; try simp only [bs] at p14
 refine .skip ?_
 refine .seq ?_
 refine .seq ?_
 have hwi : within N 1 5 = true := by simpa using p9
 refine .region ?_
 refine .fa Tfo_24_1 ?_
 refine .u (.slice A n c) (.load1 Tone_22 rfl (.b (.head _))) ?_
 refine .u (.int .i64 (((n : Nat) : Int))) (.len Tsl_22 rfl) ?_
 refine .m ?_
 refine .done ?_
 refine .block ?_
 refine Run.loop (ι := Nat) [2, 4, 18, 19, 20, 21, 22, 23, 24, 25, 26, 27] (fun k => [(18, .int .i64 (((k : Nat) : Int)))]) (fun k => [.blk b1 24 [.int .i64 N, .slice A n c]]) (fun k => k ≤ n ∧ (∀ i, i < k → gateAt N xs i = true)) (fun k => n - k) 0 ?_ ?_ ?_ ?_
 ·exact ⟨Nat.zero_le _, by first | trivial | (intro i hi; omega)⟩
 ·exact ⟨rfl, trivial⟩
 ·exact (Some'.weak (.take (.nil _)))
 rintro k fr hinv
 show Run _ _ (over _ _ [(18, .int .i64 (((k : Nat) : Int)))] fr) [.blk b1 24 [.int .i64 N, .slice A n c]]
 try dsimp only at hinv
 refine .sr ?_
 refine .w (.bool (decide ((((k : Nat) : Int)) < (((n : Nat) : Int))))) ?_
 refine .done ?_
 refine .seq ?_
 refine .cond (b := decide ((((k : Nat) : Int)) < (((n : Nat) : Int)))) rfl (fun h19 => ?_) (fun h19 => ?_)
 ·have p19 := h19; try simp only [bs] at p19
  have hltk : k < n := by omega
  obtain ⟨b, o, rfl⟩ := ha.opn (by omega)
  refine .skip ?_
  refine .seq ?_
  refine .block ?_
  refine .sr ?_
  refine .u (.pointer (some ⟨b, o + k * 3, none⟩)) (.ix k Tsl_22) ?_
  refine .u (.agg #[.int .i64 (ix xs (k * 3)), .int .i64 (ix xs (k * 3 + 1)), .int .i64 (ix xs (k * 3 + 2))]) (.loadN (cs := [.int .i64 (ix xs (k * 3)), .int .i64 (ix xs (k * 3 + 1)), .int .i64 (ix xs (k * 3 + 2))]) Tagg_69 rfl (Cells.arg (k := k * 3) ha rfl (by omega) (pre3 (by omega)))) ?_
  refine .step rfl (.alloc (zs := [.int .i64 0, .int .i64 0, .int .i64 0]) Tzero_69 fun b2 => ?_)
  refine .step rfl (.storeAll (us := [.int .i64 (ix xs (k * 3)), .int .i64 (ix xs (k * 3 + 1)), .int .i64 (ix xs (k * 3 + 2))]) Tsize_69 rfl rfl rfl (.here _) rfl ?_)
  refine .dsr ?_
  refine .fa Tfo_24_0 ?_
  refine .u (.int .i64 N) (.load1 Tone_3 rfl (.b (.tail _ (.head _)))) ?_
  refine .u (.agg #[.int .i64 (ix xs (k * 3)), .int .i64 (ix xs (k * 3 + 1)), .int .i64 (ix xs (k * 3 + 2))]) (.loadN (cs := [.int .i64 (ix xs (k * 3)), .int .i64 (ix xs (k * 3 + 1)), .int .i64 (ix xs (k * 3 + 2))]) Tagg_69 rfl (Cells.blk (.head _) ⟨rfl, rfl, rfl, trivial⟩)) ?_
  refine .c (.bool (gateOk N (ix xs (k * 3)) (ix xs (k * 3 + 1)) (ix xs (k * 3 + 2)))) [.int .i64 N, .agg #[.int .i64 (ix xs (k * 3)), .int .i64 (ix xs (k * 3 + 1)), .int .i64 (ix xs (k * 3 + 2))]] Tcall_69 (fun w hs => l4Gate_spec (within_iff.1 hwi) w) ?_
  refine .w (.bool (!(gateOk N (ix xs (k * 3)) (ix xs (k * 3 + 1)) (ix xs (k * 3 + 2))))) ?_
  refine .done ?_
  refine .cond (b := !(gateOk N (ix xs (k * 3)) (ix xs (k * 3 + 1)) (ix xs (k * 3 + 2)))) rfl (fun h26 => ?_) (fun h26 => ?_)
  ·have p26 := h26; try simp only [bs] at p26
   refine .seq ?_
   have hres : allI (gateAt N xs) n = false := allI_false hltk (by simpa [gateAt] using p26)
   refine .region ?_
   refine .m ?_
   refine .done ?_
   refine .ret ?_
   refine ⟨.bool false, [], Out.one rfl rfl, (Some'.weak (.nil _)), ?_⟩
   show _ = _; simp only [circOk] at *; simp_all; try omega
  have p26 := h26; try simp only [bs] at p26
  refine .skip ?_
  refine .blockEnd ?_
  have hgood : gateAt N xs k = true := by simpa [gateAt] using p26
  refine .region ?_
  refine .u (.int .i64 ((((k : Nat) : Int)) + 1)) (.add rfl rfl rfl (by omega) (by omega)) ?_
  refine .m ?_
  refine .done ?_
  refine .goal ⟨(by repeat (first | exact Same.refl _ _ | refine Same.put rfl ?_ | refine Same.over rfl rfl ?_)), k + 1, ?_, ?_, ?_, ?_⟩
  ·refine ⟨by omega, ?_⟩
   intro i hi
   rcases Nat.lt_succ_iff_lt_or_eq.1 hi with h | h
   ·exact hinv.2 i h
   ·rw [h]; exact hgood
  ·omega
  ·exact ⟨(by first | rfl | (congr 1; omega) | simp), trivial⟩
  ·exact (Some'.weak (.skip (.takeEq (by first | rfl | simp) (.nil _))))
 have p19 := h19; try simp only [bs] at p19
 have hknk : k = n := by omega
 have hres : allI (gateAt N xs) n = true := by rw [← hknk]; exact allI_iff.2 hinv.2
 refine .exit rfl ?_
 refine .sr ?_
 refine .m ?_
 refine .done ?_
 refine .ret ?_
 refine ⟨.bool true, [], Out.one rfl rfl, (Some'.weak (.nil _)), ?_⟩
 show _ = _; simp only [circOk] at *; simp_all; try omega

set_option maxHeartbeats 1000000 in
set_option maxRecDepth 20000 in
theorem small_spec (b : Bool) (w : World) : Calls Tryz.prog 41 #[.bool b] w (Post No w fun v _ => v = .int .i64 (if b then 1 else 0)) := by
 refine enter (n := 4) (args := [.bool b]) Tryz.func41 rfl rfl (St.empty _ _) ?_
 refine .sr ?_
 refine .m ?_
 refine .done ?_
 refine .seq ?_
 refine .sr ?_
 refine .m ?_
 refine .done ?_
 refine .cond (b := b) rfl (fun h3 => ?_) (fun h3 => ?_)
 ·have p3 := h3; try simp only [bs] at p3
  refine .sr ?_
  refine .m ?_
  refine .done ?_
  refine .ret ?_
  refine ⟨.int .i64 1, [], Out.one rfl rfl, (Some'.weak (.nil _)), ?_⟩
  show _ = _; first | rw [if_pos h3] | rw [if_neg (by rw [h3]; decide)]
 have p3 := h3; try simp only [bs] at p3
 refine .skip ?_
 refine .sr ?_
 refine .m ?_
 refine .done ?_
 refine .ret ?_
 refine ⟨.int .i64 0, [], Out.one rfl rfl, (Some'.weak (.nil _)), ?_⟩
 show _ = _; first | rw [if_pos h3] | rw [if_neg (by rw [h3]; decide)]

end Go.Proofs.YtgpkpopbajkklaaGreatDoor
/- Walks: names, numbers and kinds of gates in circuit texts. -/
set_option linter.unusedSimpArgs false
set_option linter.unusedVariables false
namespace Go.Proofs.YtgpkpopbajkklaaGreatDoor
open Go Go.RowKit
namespace TxaT
theorem Tcall_62 : callable Tryz.prog 62 = true := by kernel_rfl
theorem Tcall_68 : callable Tryz.prog 68 = true := by kernel_rfl
theorem Tcall_70 : callable Tryz.prog 70 = true := by kernel_rfl
theorem Tone_9 : oneOf Tryz.prog 9 = true := by kernel_rfl
theorem Tsl_40 : sliceOf Tryz.prog 40 = some (9, 1, 16, [sv ([])]) := by kernel_rfl
theorem Tstr_9 : strT Tryz.prog 9 = true := by kernel_rfl
end TxaT
open TxaT
/-- A small letter. -/
def lowB (b : Int) : Bool := decide (97 ≤ b) && decide (b ≤ 122)
/-- A name of a subcircuit. -/
def nameB (l : Bs) : Bool := allI (fun i => lowB (byx l i)) l.length && within (l.length : Nat) 1 8
/-- A digit. -/
def digB (b : Int) : Bool := decide (48 ≤ b) && decide (b ≤ 57)
/-- A number of one or two digits, or -1. -/
def num2 (l : Bs) : Int := match l with
  | [a] => if digB (byx [a] 0) then byx [a] 0 - 48 else -1
  | [a, b] => if digB (byx [a, b] 0) && digB (byx [a, b] 1) && !(byx [a, b] 0 == 48) then 10 * (byx [a, b] 0 - 48) + (byx [a, b] 1 - 48) else -1
  | _ => -1
theorem num2_long {l : Bs} (h : 2 < l.length) : num2 l = -1 := by
  match l, h with
  | _ :: _ :: _ :: _, _ => rfl
/-- The names of the kinds of gates. -/
def gnames : List Bs := [[], [72], [88], [89], [90], [83], [83, 39], [84], [84, 39], [67, 88], [67, 90], [83, 87, 65, 80], [87]]
/-- The kind of gates with a name, or 0. -/
def kindB (l : Bs) : Int := findI (fun i => stx gnames (i + 1) == l) 12 + 1
theorem findI_lt {p : Nat → Bool} {n : Nat} : -1 ≤ findI p n ∧ findI p n < (n : Int) := by
  induction n with
  | zero => simp [findI]
  | succ n ih =>
    rw [findI]
    split
    · omega
    · split <;> omega
theorem kindB_range (l : Bs) : 0 ≤ kindB l ∧ kindB l ≤ 12 := by
  have := findI_lt (p := fun i => stx gnames (i + 1) == l) (n := 12)
  unfold kindB; omega
theorem gnames_size {i : Nat} : (stx gnames i).length ≤ 4 := by
  rcases Nat.lt_or_ge i 13 with h | h
  · have : ∀ j : Fin 13, (stx gnames j).length ≤ 4 := by decide
    exact this ⟨i, h⟩
  · simp [stx, List.getD, gnames, List.getElem?_eq_none (show [([] : Bs), [72], [88], [89], [90], [83], [83, 39], [84], [84, 39], [67, 88], [67, 90], [83, 87, 65, 80], [87]].length ≤ i from h)]

set_option maxHeartbeats 1000000 in
set_option maxRecDepth 20000 in
theorem IsSubcircuitName_spec {l : Bs} (hl : l.length ≤ 9223372036854775807) (w : World) : Calls Tryz.prog 105 #[sv l] w (Post No w fun v _ => v = .bool (nameB l)) := by
 refine enter (n := 23) (args := [sv l]) Tryz.func105 rfl rfl (St.empty _ _) ?_
 refine .sr ?_
 refine .m ?_
 refine .done ?_
 refine .seq ?_
 refine .sr ?_
 refine .m ?_
 refine .done ?_
 refine .block ?_
 refine Run.loop (ι := Nat) [2, 3, 4, 5, 6, 7, 8, 9, 10, 11, 12, 13, 14, 15, 16, 17, 18, 19] (fun k => [(3, .int .i64 (((k : Nat) : Int)))]) (fun k => []) (fun k => k ≤ l.length ∧ ∀ i, i < k → lowB (byx l i) = true) (fun k => l.length - k) 0 ?_ ?_ ?_ ?_
 ·exact ⟨Nat.zero_le _, fun i hi => by omega⟩
 ·exact ⟨rfl, trivial⟩
 ·exact (Some'.weak (.nil _))
 rintro k fr hinv
 show Run _ _ (over _ _ [(3, .int .i64 (((k : Nat) : Int)))] fr) []
 try dsimp only at hinv
 refine .seq ?_
 refine .sr ?_
 refine .m ?_
 refine .w (sv l) ?_
 refine .u (.int .i64 (((l.length : Nat) : Int))) (.lenS Tstr_9 rfl) ?_
 refine .w (.bool (decide ((((k : Nat) : Int)) < (((l.length : Nat) : Int))))) ?_
 refine .done ?_
 refine .cond (b := decide ((((k : Nat) : Int)) < (((l.length : Nat) : Int)))) rfl (fun h7 => ?_) (fun h7 => ?_)
 ·have p7 := h7; try simp only [bs] at p7
  have hlt : k < l.length := by omega
  refine .skip ?_
  refine .seq ?_
  refine .block ?_
  refine .sr ?_
  refine .w (sv l) ?_
  refine .m ?_
  refine .u (.int .u8 (byx l k)) (.indexS (j := k) Tstr_9 rfl rfl (by first | rfl | omega) (by omega)) ?_
  refine .w (.bool (decide ((byx l k) < 97))) ?_
  rcases Bool.eq_false_or_eq_true (decide ((byx l k) < 97)) with h14 | h14
  ·refine .mb h14 ?_
   have p14 := h14; try simp only [bs] at p14
   iterate 4 refine .pass rfl ?_
   refine .w (.bool true) ?_
   refine .done ?_
   refine .cond (b := true) rfl (fun _ => ?_) (fun h => nomatch h)
   refine .seq ?_
   have hbad : nameB l = false := by rw [nameB, allI_false hlt (by show lowB (byx l k) = false; unfold lowB; rw [Bool.and_eq_false_iff, decide_eq_false_iff_not, decide_eq_false_iff_not]; omega)]; rfl
   refine .region ?_
   refine .m ?_
   refine .done ?_
   refine .ret ?_
   refine ⟨.bool false, [], Out.one rfl rfl, (Some'.weak (.nil _)), ?_⟩
   show _ = _; first | rw [hbad] | rw [nameB, hall]; rfl
  refine .mb h14 ?_
  have p14 := h14; try simp only [bs] at p14
  refine .w (sv l) ?_
  refine .m ?_
  refine .u (.int .u8 (byx l k)) (.indexS (j := k) Tstr_9 rfl rfl (by first | rfl | omega) (by omega)) ?_
  refine .w (.bool (decide ((byx l k) > 122))) ?_
  refine .w (.bool (decide ((byx l k) > 122))) ?_
  refine .done ?_
  refine .cond (b := decide ((byx l k) > 122)) rfl (fun h19 => ?_) (fun h19 => ?_)
  ·have p19 := h19; try simp only [bs] at p19
   refine .seq ?_
   have hbad : nameB l = false := by rw [nameB, allI_false hlt (by show lowB (byx l k) = false; unfold lowB; rw [Bool.and_eq_false_iff, decide_eq_false_iff_not, decide_eq_false_iff_not]; omega)]; rfl
   refine .region ?_
   refine .m ?_
   refine .done ?_
   refine .ret ?_
   refine ⟨.bool false, [], Out.one rfl rfl, (Some'.weak (.nil _)), ?_⟩
   show _ = _; first | rw [hbad] | rw [nameB, hall]; rfl
  have p19 := h19; try simp only [bs] at p19
  have hgood : lowB (byx l k) = true := by unfold lowB; rw [Bool.and_eq_true, decide_eq_true_iff, decide_eq_true_iff]; omega
  refine .skip ?_
  refine .blockEnd ?_
  refine .region ?_
  refine .m ?_
  refine .u (.int .i64 ((((k : Nat) : Int)) + 1)) (.add rfl rfl rfl (by omega) (by omega)) ?_
  refine .m ?_
  refine .done ?_
  refine .goal ⟨(by repeat (first | exact Same.refl _ _ | refine Same.put rfl ?_ | refine Same.over rfl rfl ?_)), k + 1, ?_, ?_, ?_, ?_⟩
  ·refine ⟨by omega, ?_⟩
   intro i hi
   rcases Nat.lt_succ_iff_lt_or_eq.1 hi with h | h
   ·exact hinv.2 i h
   ·rw [h]; exact hgood
  ·omega
  ·exact ⟨(by first | rfl | (congr 1; omega) | simp), trivial⟩
  ·exact (Some'.weak (.nil _))
 have p7 := h7; try simp only [bs] at p7
 have hkn : k = l.length := by omega
 have hall : allI (fun i => lowB (byx l i)) l.length = true := by rw [← hkn]; exact allI_iff.2 hinv.2
 refine .exit rfl ?_
 refine .sr ?_
 refine .w (sv l) ?_
 refine .u (.int .i64 (((l.length : Nat) : Int))) (.lenS Tstr_9 rfl) ?_
 refine .c (.bool (within (((l.length : Nat) : Int)) 1 8)) [.int .i64 (((l.length : Nat) : Int)), .int .i64 1, .int .i64 8] Tcall_62 (fun w hs => within_spec _ _ _ w) ?_
 refine .m ?_
 refine .done ?_
 refine .ret ?_
 refine ⟨.bool (within (((l.length : Nat) : Int)) 1 8), [], Out.one rfl rfl, (Some'.weak (.nil _)), ?_⟩
 show _ = _; first | rw [hbad] | rw [nameB, hall]; rfl

set_option maxHeartbeats 1000000 in
set_option maxRecDepth 20000 in
theorem l5Name_spec {l : Bs} (hl : l.length ≤ 9223372036854775807) (w : World) : Calls Tryz.prog 81 #[sv l] w (Post No w fun v _ => v = .bool (nameB l)) := by
 refine enter (n := 23) (args := [sv l]) Tryz.func81 rfl rfl (St.empty _ _) ?_
 refine .sr ?_
 refine .m ?_
 refine .done ?_
 refine .seq ?_
 refine .sr ?_
 refine .m ?_
 refine .done ?_
 refine .block ?_
 refine Run.loop (ι := Nat) [2, 3, 4, 5, 6, 7, 8, 9, 10, 11, 12, 13, 14, 15, 16, 17, 18, 19] (fun k => [(3, .int .i64 (((k : Nat) : Int)))]) (fun k => []) (fun k => k ≤ l.length ∧ ∀ i, i < k → lowB (byx l i) = true) (fun k => l.length - k) 0 ?_ ?_ ?_ ?_
 ·exact ⟨Nat.zero_le _, fun i hi => by omega⟩
 ·exact ⟨rfl, trivial⟩
 ·exact (Some'.weak (.nil _))
 rintro k fr hinv
 show Run _ _ (over _ _ [(3, .int .i64 (((k : Nat) : Int)))] fr) []
 try dsimp only at hinv
 refine .seq ?_
 refine .sr ?_
 refine .m ?_
 refine .w (sv l) ?_
 refine .u (.int .i64 (((l.length : Nat) : Int))) (.lenS Tstr_9 rfl) ?_
 refine .w (.bool (decide ((((k : Nat) : Int)) < (((l.length : Nat) : Int))))) ?_
 refine .done ?_
 refine .cond (b := decide ((((k : Nat) : Int)) < (((l.length : Nat) : Int)))) rfl (fun h7 => ?_) (fun h7 => ?_)
 ·have p7 := h7; try simp only [bs] at p7
  have hlt : k < l.length := by omega
  refine .skip ?_
  refine .seq ?_
  refine .block ?_
  refine .sr ?_
  refine .w (sv l) ?_
  refine .m ?_
  refine .u (.int .u8 (byx l k)) (.indexS (j := k) Tstr_9 rfl rfl (by first | rfl | omega) (by omega)) ?_
  refine .w (.bool (decide ((byx l k) < 97))) ?_
  rcases Bool.eq_false_or_eq_true (decide ((byx l k) < 97)) with h14 | h14
  ·refine .mb h14 ?_
   have p14 := h14; try simp only [bs] at p14
   iterate 4 refine .pass rfl ?_
   refine .w (.bool true) ?_
   refine .done ?_
   refine .cond (b := true) rfl (fun _ => ?_) (fun h => nomatch h)
   refine .seq ?_
   have hbad : nameB l = false := by rw [nameB, allI_false hlt (by show lowB (byx l k) = false; unfold lowB; rw [Bool.and_eq_false_iff, decide_eq_false_iff_not, decide_eq_false_iff_not]; omega)]; rfl
   refine .region ?_
   refine .m ?_
   refine .done ?_
   refine .ret ?_
   refine ⟨.bool false, [], Out.one rfl rfl, (Some'.weak (.nil _)), ?_⟩
   show _ = _; first | rw [hbad] | rw [nameB, hall]; rfl
  refine .mb h14 ?_
  have p14 := h14; try simp only [bs] at p14
  refine .w (sv l) ?_
  refine .m ?_
  refine .u (.int .u8 (byx l k)) (.indexS (j := k) Tstr_9 rfl rfl (by first | rfl | omega) (by omega)) ?_
  refine .w (.bool (decide ((byx l k) > 122))) ?_
  refine .w (.bool (decide ((byx l k) > 122))) ?_
  refine .done ?_
  refine .cond (b := decide ((byx l k) > 122)) rfl (fun h19 => ?_) (fun h19 => ?_)
  ·have p19 := h19; try simp only [bs] at p19
   refine .seq ?_
   have hbad : nameB l = false := by rw [nameB, allI_false hlt (by show lowB (byx l k) = false; unfold lowB; rw [Bool.and_eq_false_iff, decide_eq_false_iff_not, decide_eq_false_iff_not]; omega)]; rfl
   refine .region ?_
   refine .m ?_
   refine .done ?_
   refine .ret ?_
   refine ⟨.bool false, [], Out.one rfl rfl, (Some'.weak (.nil _)), ?_⟩
   show _ = _; first | rw [hbad] | rw [nameB, hall]; rfl
  have p19 := h19; try simp only [bs] at p19
  have hgood : lowB (byx l k) = true := by unfold lowB; rw [Bool.and_eq_true, decide_eq_true_iff, decide_eq_true_iff]; omega
  refine .skip ?_
  refine .blockEnd ?_
  refine .region ?_
  refine .m ?_
  refine .u (.int .i64 ((((k : Nat) : Int)) + 1)) (.add rfl rfl rfl (by omega) (by omega)) ?_
  refine .m ?_
  refine .done ?_
  refine .goal ⟨(by repeat (first | exact Same.refl _ _ | refine Same.put rfl ?_ | refine Same.over rfl rfl ?_)), k + 1, ?_, ?_, ?_, ?_⟩
  ·refine ⟨by omega, ?_⟩
   intro i hi
   rcases Nat.lt_succ_iff_lt_or_eq.1 hi with h | h
   ·exact hinv.2 i h
   ·rw [h]; exact hgood
  ·omega
  ·exact ⟨(by first | rfl | (congr 1; omega) | simp), trivial⟩
  ·exact (Some'.weak (.nil _))
 have p7 := h7; try simp only [bs] at p7
 have hkn : k = l.length := by omega
 have hall : allI (fun i => lowB (byx l i)) l.length = true := by rw [← hkn]; exact allI_iff.2 hinv.2
 refine .exit rfl ?_
 refine .sr ?_
 refine .w (sv l) ?_
 refine .u (.int .i64 (((l.length : Nat) : Int))) (.lenS Tstr_9 rfl) ?_
 refine .c (.bool (within (((l.length : Nat) : Int)) 1 8)) [.int .i64 (((l.length : Nat) : Int)), .int .i64 1, .int .i64 8] Tcall_68 (fun w hs => l1In_spec _ _ _ w) ?_
 refine .m ?_
 refine .done ?_
 refine .ret ?_
 refine ⟨.bool (within (((l.length : Nat) : Int)) 1 8), [], Out.one rfl rfl, (Some'.weak (.nil _)), ?_⟩
 show _ = _; first | rw [hbad] | rw [nameB, hall]; rfl

set_option maxHeartbeats 1000000 in
set_option maxRecDepth 20000 in
theorem l4Name_spec {k : Nat} (hk : k < 13) (w : World) : Calls Tryz.prog 70 #[.int .i64 ((k : Nat) : Int)] w (Post No w fun v _ => v = sv (stx gnames k)) := by
 refine enter (n := 7) (args := [.int .i64 (((k : Nat) : Int))]) Tryz.func70 rfl rfl (St.empty _ _) ?_
 refine .sr ?_
 refine .w (sv ([])) ?_
 refine .dsr ?_
 refine .step rfl (.buildSlice (us := [sv ([]), sv ([72]), sv ([88]), sv ([89]), sv ([90]), sv ([83]), sv ([83, 39]), sv ([84]), sv ([84, 39]), sv ([67, 88]), sv ([67, 90]), sv ([83, 87, 65, 80]), sv ([87])]) Tsl_40 (by decide) (by decide) ⟨rfl, [sv ([])], _, rfl, rfl, rfl, ⟨rfl, [sv ([72])], _, rfl, rfl, rfl, ⟨rfl, [sv ([88])], _, rfl, rfl, rfl, ⟨rfl, [sv ([89])], _, rfl, rfl, rfl, ⟨rfl, [sv ([90])], _, rfl, rfl, rfl, ⟨rfl, [sv ([83])], _, rfl, rfl, rfl, ⟨rfl, [sv ([83, 39])], _, rfl, rfl, rfl, ⟨rfl, [sv ([84])], _, rfl, rfl, rfl, ⟨rfl, [sv ([84, 39])], _, rfl, rfl, rfl, ⟨rfl, [sv ([67, 88])], _, rfl, rfl, rfl, ⟨rfl, [sv ([67, 90])], _, rfl, rfl, rfl, ⟨rfl, [sv ([83, 87, 65, 80])], _, rfl, rfl, rfl, ⟨rfl, [sv ([87])], _, rfl, rfl, rfl, rfl⟩⟩⟩⟩⟩⟩⟩⟩⟩⟩⟩⟩⟩ rfl fun b1 => ?_)
 refine .m ?_
 refine .u (.pointer (some ⟨b1, k, none⟩)) (.ix k Tsl_40) ?_
 refine .u (sv (stx gnames k)) (.load1 Tone_9 rfl (Cells.own0 (cs := strs gnames) (.head _) (preS (by show k < 13; omega)))) ?_
 refine .w (sv (stx gnames k)) ?_
 refine .done ?_
 refine .ret ?_
 refine ⟨sv (stx gnames k), [], Out.one rfl rfl, (Some'.weak (.nil _)), ?_⟩
 rfl

set_option maxHeartbeats 1000000 in
set_option maxRecDepth 20000 in
theorem l5Kind_spec {l : Bs} (w : World) : Calls Tryz.prog 101 #[sv l] w (Post No w fun v _ => v = .int .i64 (kindB l)) := by
 refine enter (n := 13) (args := [sv l]) Tryz.func101 rfl rfl (St.empty _ _) ?_
 refine .sr ?_
 refine .m ?_
 refine .done ?_
 refine .seq ?_
 refine .sr ?_
 refine .m ?_
 refine .done ?_
 refine .block ?_
 refine Run.loop (ι := Nat) [2, 3, 4, 5, 6, 7, 8, 9, 10, 11, 12] (fun k => [(3, .int .i64 (((k : Nat) : Int)))]) (fun k => []) (fun k => 1 ≤ k ∧ k ≤ 13 ∧ ∀ i, i + 1 < k → (stx gnames (i + 1) == l) = false) (fun k => 13 - k) 1 ?_ ?_ ?_ ?_
 ·exact ⟨by omega, by omega, fun i hi => by omega⟩
 ·exact ⟨rfl, trivial⟩
 ·exact (Some'.weak (.nil _))
 rintro k fr hinv
 show Run _ _ (over _ _ [(3, .int .i64 (((k : Nat) : Int)))] fr) []
 try dsimp only at hinv
 refine .seq ?_
 refine .sr ?_
 refine .m ?_
 refine .w (.bool (decide ((((k : Nat) : Int)) ≤ 12))) ?_
 refine .done ?_
 refine .cond (b := decide ((((k : Nat) : Int)) ≤ 12)) rfl (fun h5 => ?_) (fun h5 => ?_)
 ·have p5 := h5; try simp only [bs] at p5
  obtain ⟨hi1, hi2, hi3⟩ := hinv
  have hlt : k < 13 := by omega
  have hinv := And.intro hi1 (And.intro hi2 hi3)
  refine .skip ?_
  refine .seq ?_
  refine .block ?_
  refine .sr ?_
  refine .m ?_
  refine .c (sv (stx gnames k)) [.int .i64 (((k : Nat) : Int))] Tcall_70 (fun w hs => l4Name_spec (by omega) w) ?_
  refine .w (sv l) ?_
  refine .u (.bool ((stx gnames k) == l)) (.eqS rfl rfl) ?_
  refine .done ?_
  refine .cond (b := (stx gnames k) == l) rfl (fun h11 => ?_) (fun h11 => ?_)
  ·have p11 := h11; try simp only [bs] at p11
   refine .seq ?_
   have hz : kindB l = k := by
    obtain ⟨j, rfl⟩ : ∃ j, k = j + 1 := ⟨k - 1, by omega⟩
    rw [kindB, findI_hit (k := j) (fun i hi => hi3 i (by omega)) h11 (by omega)]; omega
   refine .region ?_
   iterate 2 refine .m ?_
   refine .done ?_
   refine .ret ?_
   refine ⟨.int .i64 (((k : Nat) : Int)), [], Out.one rfl rfl, (Some'.weak (.nil _)), ?_⟩
   exact congrArg _ hz.symm
  have p11 := h11; try simp only [bs] at p11
  refine .skip ?_
  refine .blockEnd ?_
  refine .region ?_
  refine .m ?_
  refine .u (.int .i64 ((((k : Nat) : Int)) + 1)) (.add rfl rfl rfl (by omega) (by omega)) ?_
  refine .m ?_
  refine .done ?_
  refine .goal ⟨(by repeat (first | exact Same.refl _ _ | refine Same.put rfl ?_ | refine Same.over rfl rfl ?_)), k + 1, ?_, ?_, ?_, ?_⟩
  ·refine ⟨by omega, by omega, fun i hi => ?_⟩
   rcases Nat.lt_succ_iff_lt_or_eq.1 hi with h | h
   ·exact hinv.2.2 i h
   ·have e : i + 1 = k := h
    rw [e]; exact h11
  ·omega
  ·exact ⟨(by first | rfl | (congr 1; omega) | simp), trivial⟩
  ·exact (Some'.weak (.nil _))
 have p5 := h5; try simp only [bs] at p5
 obtain ⟨hi1, hi2, hi3⟩ := hinv
 have hz : kindB l = 0 := by rw [kindB, findI_none fun i hi => hi3 i (by omega)]; rfl
 refine .exit rfl ?_
 refine .sr ?_
 refine .m ?_
 refine .done ?_
 refine .ret ?_
 refine ⟨.int .i64 0, [], Out.one rfl rfl, (Some'.weak (.nil _)), ?_⟩
 exact congrArg _ hz.symm

end Go.Proofs.YtgpkpopbajkklaaGreatDoor
/-
  DERIVED: THE SHELF's CONTRACTS AT THIS DUMP, IN PLAIN WORDS (tools/lay-plain.mjs out of 'TryzShelf.lean', which tools/lay-shelf.mjs wrote): THE SAME DECLARATIONS UNDER THE SAME NAMES: 'import', 'namespace', 'open', 'def', 'theorem' AND NOTHING ELSE: no command of the shelf's: FOR A HAND-IN. Each laying: the table of numbers ('.._ren') and one theorem, a field a fact of the dump's own or the kernel's comparison; each contract: ONE APPLICATION.
-/
namespace Go.Proofs
open Go.Shelf
def Tryz.lays172_ren : Go.Shelf.Ren := ⟨fun | 172 => 141 | 244 => 144 | 245 => 145 | 247 => 146 | 279 => 147 | 280 => 148 | 281 => 149 | 282 => 150 | 287 => 151 | 316 => 152 | 171 => 36 | 205 => 153 | 321 => 154 | 322 => 155 | 243 => 66 | 246 => 96 | 283 => 112 | 284 => 113 | 285 => 114 | 286 => 115 | 129 => 124 | 317 => 123 | 318 => 125 | 319 => 126 | 320 => 127 | 337 => 134 | 338 => 135 | n => n, fun | 9 => 9 | 3 => 3 | 75 => 155 | 76 => 156 | 4 => 4 | 5 => 5 | 167 => 167 | 37 => 30 | 0 => 0 | 85 => 168 | 2 => 2 | 168 => 170 | 53 => 71 | 175 => 173 | 46 => 140 | 210 => 177 | 127 => 180 | 145 => 183 | 143 => 181 | 21 => 21 | 171 => 135 | 173 => 138 | 212 => 145 | 51 => 146 | 20 => 20 | 213 => 147 | 232 => 158 | 233 => 159 | 80 => 74 | n => n, fun | 15 => 7 | 16 => 8 | 17 => 1 | 18 => 3 | 19 => 4 | n => n⟩
def Tryz.laysM246_ren : Go.Shelf.Ren := ⟨fun | 246 => 96 | 283 => 112 | 284 => 113 | 285 => 114 | 286 => 115 | 129 => 124 | 317 => 123 | 318 => 125 | 319 => 126 | 320 => 127 | 337 => 134 | 338 => 135 | n => n, fun | 2 => 2 | 3 => 3 | 9 => 9 | 4 => 4 | 171 => 135 | 0 => 0 | 53 => 71 | 37 => 30 | 5 => 5 | 173 => 138 | 212 => 145 | 51 => 146 | 20 => 20 | 213 => 147 | 46 => 140 | 232 => 158 | 233 => 159 | n => n, fun | 17 => 1 | 18 => 3 | 19 => 4 | n => n⟩
def Tryz.laysM243_ren : Go.Shelf.Ren := ⟨fun | 243 => 66 | 246 => 96 | 283 => 112 | 284 => 113 | 285 => 114 | 286 => 115 | 129 => 124 | 317 => 123 | 318 => 125 | 319 => 126 | 320 => 127 | 337 => 134 | 338 => 135 | n => n, fun | 3 => 3 | 9 => 9 | 2 => 2 | 4 => 4 | 171 => 135 | 0 => 0 | 53 => 71 | 37 => 30 | 5 => 5 | 173 => 138 | 212 => 145 | 51 => 146 | 20 => 20 | 213 => 147 | 46 => 140 | 232 => 158 | 233 => 159 | n => n, fun | 17 => 1 | 18 => 3 | 19 => 4 | n => n⟩
def Tryz.laysM171_ren : Go.Shelf.Ren := ⟨fun | 171 => 36 | 243 => 66 | 246 => 96 | 283 => 112 | 284 => 113 | 285 => 114 | 286 => 115 | 129 => 124 | 317 => 123 | 318 => 125 | 319 => 126 | 320 => 127 | 337 => 134 | 338 => 135 | n => n, fun | 3 => 3 | 9 => 9 | 2 => 2 | 4 => 4 | 171 => 135 | 0 => 0 | 53 => 71 | 37 => 30 | 5 => 5 | 173 => 138 | 212 => 145 | 51 => 146 | 20 => 20 | 213 => 147 | 46 => 140 | 232 => 158 | 233 => 159 | n => n, fun | 17 => 1 | 18 => 3 | 19 => 4 | n => n⟩
theorem Tryz.laysM171 : Go.Proofs.LaysM.n171 Tryz.prog Tryz.laysM171_ren := {
  mixed := by kernel_rfl
  f129 := Tryz.func124.trans (congrArg some (by kernel_rfl))
  f171 := Tryz.func36.trans (congrArg some (by kernel_rfl))
  f243 := Tryz.func66.trans (congrArg some (by kernel_rfl))
  f246 := Tryz.func96.trans (congrArg some (by kernel_rfl))
  f283 := Tryz.func112.trans (congrArg some (by kernel_rfl))
  f284 := Tryz.func113.trans (congrArg some (by kernel_rfl))
  f285 := Tryz.func114.trans (congrArg some (by kernel_rfl))
  f286 := Tryz.func115.trans (congrArg some (by kernel_rfl))
  f317 := Tryz.func123.trans (congrArg some (by kernel_rfl))
  f318 := Tryz.func125.trans (congrArg some (by kernel_rfl))
  f319 := Tryz.func126.trans (congrArg some (by kernel_rfl))
  f320 := Tryz.func127.trans (congrArg some (by kernel_rfl))
  f337 := Tryz.func134.trans (congrArg some (by kernel_rfl))
  f338 := Tryz.func135.trans (congrArg some (by kernel_rfl))
  t0 := Tryz.underlying0
  a0 := Tryz.isAgg0
  z0 := Tryz.sizeOf0
  v0 := Tryz.zeroValue0
  t2 := Tryz.underlying2
  a2 := Tryz.isAgg2
  z2 := Tryz.sizeOf2
  v2 := Tryz.zeroValue2
  t3 := Tryz.underlying3
  a3 := Tryz.isAgg3
  z3 := Tryz.sizeOf3
  v3 := Tryz.zeroValue3
  t4 := Tryz.underlying4
  a4 := Tryz.isAgg4
  z4 := Tryz.sizeOf4
  v4 := Tryz.zeroValue4
  t5 := Tryz.underlying5
  a5 := Tryz.isAgg5
  z5 := Tryz.sizeOf5
  v5 := Tryz.zeroValue5
  t9 := Tryz.underlying9
  a9 := Tryz.isAgg9
  z9 := Tryz.sizeOf9
  v9 := Tryz.zeroValue9
  t20 := Tryz.underlying20
  a20 := Tryz.isAgg20
  z20 := Tryz.sizeOf20
  v20 := Tryz.zeroValue20
  t37 := Tryz.underlying30
  a37 := Tryz.isAgg30
  z37 := Tryz.sizeOf30
  v37 := Tryz.zeroValue30
  t46 := Tryz.underlying140
  a46 := Tryz.isAgg140
  z46 := Tryz.sizeOf140
  v46 := Tryz.zeroValue140
  t51 := Tryz.underlying146
  a51 := Tryz.isAgg146
  z51 := Tryz.sizeOf146
  v51 := Tryz.zeroValue146
  t53 := Tryz.underlying71
  a53 := Tryz.isAgg71
  z53 := Tryz.sizeOf71
  v53 := Tryz.zeroValue71
  t171 := Tryz.underlying135
  a171 := Tryz.isAgg135
  z171 := Tryz.sizeOf135
  v171 := Tryz.zeroValue135
  t173 := Tryz.underlying138
  a173 := Tryz.isAgg138
  z173 := Tryz.sizeOf138
  v173 := Tryz.zeroValue138
  t212 := Tryz.underlying145
  a212 := Tryz.isAgg145
  z212 := Tryz.sizeOf145
  v212 := Tryz.zeroValue145
  t213 := Tryz.underlying147
  a213 := Tryz.isAgg147
  z213 := Tryz.sizeOf147
  t232 := Tryz.underlying158
  a232 := Tryz.isAgg158
  z232 := Tryz.sizeOf158
  v232 := Tryz.zeroValue158
  t233 := Tryz.underlying159
  a233 := Tryz.isAgg159
  z233 := Tryz.sizeOf159
  v233 := Tryz.zeroValue159
  g17 := by kernel_rfl
  g18 := by kernel_rfl
  g19 := by kernel_rfl
  i0 := by kernel_rfl
  i2 := by kernel_rfl
  i3 := by kernel_rfl
  i4 := by kernel_rfl
  i5 := by kernel_rfl
  i9 := by kernel_rfl
  i20 := by kernel_rfl
  i37 := by kernel_rfl
  i46 := by kernel_rfl
  i51 := by kernel_rfl
  i53 := by kernel_rfl
  i171 := by kernel_rfl
  i173 := by kernel_rfl
  i212 := by kernel_rfl
  i232 := by kernel_rfl
  i233 := by kernel_rfl
  m17 := by kernel_rfl
  m18 := by kernel_rfl
  m19 := by kernel_rfl }
open Go.RowKit Go.Sort Go.Lib in
/-- strconv.Itoa: "Itoa is equivalent to FormatInt(int64(i), 10).": i's DECIMAL NUMERAL ('Lib.itoa': a '-' where i is negative, then the digits), FOR EVERY int. The world behind the call: the world before it, new blocks behind the heap (the library's 'var a [24]byte'), draws. (LAID: no walk: one application.) -/
theorem Tryz.strconv_Itoa (n : Int) (h0 : -9223372036854775808 ≤ n) (h1 : n ≤ 9223372036854775807) (w : World) (htab : Lib.TabIs Tryz.prog w "internal/strconv.uint64pow10" .u64 Lib.pow10Tab) :
    Calls Tryz.prog 36 #[.int .i64 n] w fun e w' => e = .returned (.string ⟨(Lib.itoa n).toArray⟩) ∧ ∃ k os, w' = grow (w.drewN k) os := Any.strconv_Itoa Tryz.laysM171 n h0 h1 w htab
def Tryz.laysC172_ren : Go.Shelf.Ren := ⟨fun | 172 => 141 | 244 => 144 | 245 => 145 | 247 => 146 | 279 => 147 | 280 => 148 | 281 => 149 | 282 => 150 | 287 => 151 | 316 => 152 | 171 => 36 | 205 => 153 | 321 => 154 | 322 => 155 | 243 => 66 | 246 => 96 | 283 => 112 | 284 => 113 | 285 => 114 | 286 => 115 | 129 => 124 | 317 => 123 | 318 => 125 | 319 => 126 | 320 => 127 | 337 => 134 | 338 => 135 | n => n, fun | 9 => 9 | 3 => 3 | 75 => 155 | 76 => 156 | 4 => 4 | 5 => 5 | 167 => 167 | 37 => 30 | 0 => 0 | 85 => 168 | 2 => 2 | 168 => 170 | 53 => 71 | 175 => 173 | 46 => 140 | 210 => 177 | 127 => 180 | 145 => 183 | 143 => 181 | 21 => 21 | 171 => 135 | 173 => 138 | 212 => 145 | 51 => 146 | 20 => 20 | 213 => 147 | 232 => 158 | 233 => 159 | 80 => 74 | n => n, fun | 15 => 7 | 16 => 8 | 17 => 1 | 18 => 3 | 19 => 4 | n => n⟩
theorem Tryz.laysC172 : Go.Proofs.LaysC.n172 Tryz.prog Tryz.laysC172_ren := {
  mixed := by kernel_rfl
  f129 := Tryz.func124.trans (congrArg some (by kernel_rfl))
  f171 := Tryz.func36.trans (congrArg some (by kernel_rfl))
  f172 := Tryz.func141.trans (congrArg some (by kernel_rfl))
  f205 := Tryz.func153.trans (congrArg some (by kernel_rfl))
  f243 := Tryz.func66.trans (congrArg some (by kernel_rfl))
  f244 := Tryz.func144.trans (congrArg some (by kernel_rfl))
  f245 := Tryz.func145.trans (congrArg some (by kernel_rfl))
  f246 := Tryz.func96.trans (congrArg some (by kernel_rfl))
  f247 := Tryz.func146.trans (congrArg some (by kernel_rfl))
  f279 := Tryz.func147.trans (congrArg some (by kernel_rfl))
  f280 := Tryz.func148.trans (congrArg some (by kernel_rfl))
  f281 := Tryz.func149.trans (congrArg some (by kernel_rfl))
  f282 := Tryz.func150.trans (congrArg some (by kernel_rfl))
  f283 := Tryz.func112.trans (congrArg some (by kernel_rfl))
  f284 := Tryz.func113.trans (congrArg some (by kernel_rfl))
  f285 := Tryz.func114.trans (congrArg some (by kernel_rfl))
  f286 := Tryz.func115.trans (congrArg some (by kernel_rfl))
  f287 := Tryz.func151.trans (congrArg some (by kernel_rfl))
  f316 := Tryz.func152.trans (congrArg some (by kernel_rfl))
  f317 := Tryz.func123.trans (congrArg some (by kernel_rfl))
  f318 := Tryz.func125.trans (congrArg some (by kernel_rfl))
  f319 := Tryz.func126.trans (congrArg some (by kernel_rfl))
  f320 := Tryz.func127.trans (congrArg some (by kernel_rfl))
  f321 := Tryz.func154.trans (congrArg some (by kernel_rfl))
  f322 := Tryz.func155.trans (congrArg some (by kernel_rfl))
  f337 := Tryz.func134.trans (congrArg some (by kernel_rfl))
  f338 := Tryz.func135.trans (congrArg some (by kernel_rfl))
  t0 := Tryz.underlying0
  a0 := Tryz.isAgg0
  z0 := Tryz.sizeOf0
  v0 := Tryz.zeroValue0
  t2 := Tryz.underlying2
  a2 := Tryz.isAgg2
  z2 := Tryz.sizeOf2
  v2 := Tryz.zeroValue2
  t3 := Tryz.underlying3
  a3 := Tryz.isAgg3
  z3 := Tryz.sizeOf3
  v3 := Tryz.zeroValue3
  t4 := Tryz.underlying4
  a4 := Tryz.isAgg4
  z4 := Tryz.sizeOf4
  v4 := Tryz.zeroValue4
  t5 := Tryz.underlying5
  a5 := Tryz.isAgg5
  z5 := Tryz.sizeOf5
  v5 := Tryz.zeroValue5
  t9 := Tryz.underlying9
  a9 := Tryz.isAgg9
  z9 := Tryz.sizeOf9
  v9 := Tryz.zeroValue9
  t20 := Tryz.underlying20
  a20 := Tryz.isAgg20
  z20 := Tryz.sizeOf20
  v20 := Tryz.zeroValue20
  t21 := Tryz.underlying21
  a21 := Tryz.isAgg21
  z21 := Tryz.sizeOf21
  v21 := Tryz.zeroValue21
  t37 := Tryz.underlying30
  a37 := Tryz.isAgg30
  z37 := Tryz.sizeOf30
  v37 := Tryz.zeroValue30
  t46 := Tryz.underlying140
  a46 := Tryz.isAgg140
  z46 := Tryz.sizeOf140
  v46 := Tryz.zeroValue140
  t51 := Tryz.underlying146
  a51 := Tryz.isAgg146
  z51 := Tryz.sizeOf146
  v51 := Tryz.zeroValue146
  t53 := Tryz.underlying71
  a53 := Tryz.isAgg71
  z53 := Tryz.sizeOf71
  v53 := Tryz.zeroValue71
  t75 := Tryz.underlying155
  a75 := Tryz.isAgg155
  z75 := Tryz.sizeOf155
  v75 := Tryz.zeroValue155
  t76 := Tryz.underlying156
  a76 := Tryz.isAgg156
  z76 := Tryz.sizeOf156
  v76 := Tryz.zeroValue156
  t85 := Tryz.underlying168
  a85 := Tryz.isAgg168
  z85 := Tryz.sizeOf168
  v85 := Tryz.zeroValue168
  t127 := Tryz.underlying180
  a127 := Tryz.isAgg180
  z127 := Tryz.sizeOf180
  v127 := Tryz.zeroValue180
  t143 := Tryz.underlying181
  a143 := Tryz.isAgg181
  z143 := Tryz.sizeOf181
  v143 := Tryz.zeroValue181
  t145 := Tryz.underlying183
  a145 := Tryz.isAgg183
  z145 := Tryz.sizeOf183
  v145 := Tryz.zeroValue183
  t167 := Tryz.underlying167
  a167 := Tryz.isAgg167
  z167 := Tryz.sizeOf167
  v167 := Tryz.zeroValue167
  t168 := Tryz.underlying170
  a168 := Tryz.isAgg170
  z168 := Tryz.sizeOf170
  v168 := Tryz.zeroValue170
  t171 := Tryz.underlying135
  a171 := Tryz.isAgg135
  z171 := Tryz.sizeOf135
  v171 := Tryz.zeroValue135
  t173 := Tryz.underlying138
  a173 := Tryz.isAgg138
  z173 := Tryz.sizeOf138
  v173 := Tryz.zeroValue138
  t175 := Tryz.underlying173
  a175 := Tryz.isAgg173
  z175 := Tryz.sizeOf173
  v175 := Tryz.zeroValue173
  t210 := Tryz.underlying177
  a210 := Tryz.isAgg177
  z210 := Tryz.sizeOf177
  v210 := Tryz.zeroValue177
  t212 := Tryz.underlying145
  a212 := Tryz.isAgg145
  z212 := Tryz.sizeOf145
  v212 := Tryz.zeroValue145
  t213 := Tryz.underlying147
  a213 := Tryz.isAgg147
  z213 := Tryz.sizeOf147
  t232 := Tryz.underlying158
  a232 := Tryz.isAgg158
  z232 := Tryz.sizeOf158
  v232 := Tryz.zeroValue158
  t233 := Tryz.underlying159
  a233 := Tryz.isAgg159
  z233 := Tryz.sizeOf159
  v233 := Tryz.zeroValue159
  g15 := by kernel_rfl
  g16 := by kernel_rfl
  g17 := by kernel_rfl
  g18 := by kernel_rfl
  g19 := by kernel_rfl
  t80 := Tryz.underlying74
  a80 := Tryz.isAgg74
  z80 := Tryz.sizeOf74
  v80 := Tryz.zeroValue74
  i0 := by kernel_rfl
  i2 := by kernel_rfl
  i3 := by kernel_rfl
  i4 := by kernel_rfl
  i5 := by kernel_rfl
  i9 := by kernel_rfl
  i20 := by kernel_rfl
  i21 := by kernel_rfl
  i37 := by kernel_rfl
  i46 := by kernel_rfl
  i51 := by kernel_rfl
  i53 := by kernel_rfl
  i75 := by kernel_rfl
  i76 := by kernel_rfl
  i80 := by kernel_rfl
  i85 := by kernel_rfl
  i127 := by kernel_rfl
  i143 := by kernel_rfl
  i145 := by kernel_rfl
  i167 := by kernel_rfl
  i168 := by kernel_rfl
  i171 := by kernel_rfl
  i173 := by kernel_rfl
  i175 := by kernel_rfl
  i210 := by kernel_rfl
  i212 := by kernel_rfl
  i232 := by kernel_rfl
  i233 := by kernel_rfl
  m15 := by kernel_rfl
  m16 := by kernel_rfl
  m17 := by kernel_rfl
  m18 := by kernel_rfl
  m19 := by kernel_rfl
  c0 := by kernel_rfl
  c2 := by kernel_rfl
  c3 := by kernel_rfl
  c4 := by kernel_rfl
  c5 := by kernel_rfl
  c9 := by kernel_rfl
  c20 := by kernel_rfl
  c21 := by kernel_rfl
  c37 := by kernel_rfl
  c46 := by kernel_rfl
  c51 := by kernel_rfl
  c53 := by kernel_rfl
  c75 := by kernel_rfl
  c76 := by kernel_rfl
  c80 := by kernel_rfl
  c85 := by kernel_rfl
  c127 := by kernel_rfl
  c143 := by kernel_rfl
  c145 := by kernel_rfl
  c167 := by kernel_rfl
  c168 := by kernel_rfl
  c171 := by kernel_rfl
  c173 := by kernel_rfl
  c175 := by kernel_rfl
  c210 := by kernel_rfl
  c212 := by kernel_rfl
  c213 := by kernel_rfl
  c232 := by kernel_rfl
  c233 := by kernel_rfl }
open Go.RowKit in
/-- strconv.Atoi, AT EVERY STRING THAT SPELLS AN int ('Lib.atoiAll .. = .ok v'; of whatever length: leading zeros count): v, AND NO ERROR. The world: as it was, or with the one new row that '[]byte(..)' lays. (LAID: no walk: one application.) -/
theorem Tryz.strconv_Atoi_ok (s : ByteArray) (hmax : s.size ≤ 9223372036854775806) (v : Int) (h : Lib.atoiAll s.data.toList = .ok v) (w : World) :
    Calls Tryz.prog 141 #[.string s] w fun e w' => e = .returned (.tuple #[.int .i64 v, .nilIface]) ∧ (w' = w ∨ ∃ t, w' = Lib.bytesWorld w 5 t) := Any.strconv_Atoi_ok Tryz.laysC172 s hmax v h w
open Go.RowKit in
/-- strconv.Atoi, AT EVERY STRING THAT IS NO DECIMAL NUMERAL ('.syntax'): 0, AND AN ERROR THAT IS NOT nil: a *NumError in a new block N: {Func: "Atoi", Num: s's bytes, Err: what the variable ErrSyntax holds}. Of what was there nothing has turned. (LAID: no walk: one application.) -/
theorem Tryz.strconv_Atoi_syntax (s : ByteArray) (hlim : s.size ≤ 281474976710656) (h : Lib.atoiAll s.data.toList = .«syntax») (ev : Value) (w : World) (hv : w.cell? ⟨7, 0, none⟩ = some ev) (hev : ev = .nilIface ∨ ∃ te pe, ev = .iface te pe) :
    Calls Tryz.prog 141 #[.string s] w fun e w' => ∃ N, e = .returned (.tuple #[.int .i64 (0), .iface 170 (.pointer (some ⟨N, 0, none⟩))]) ∧ w.heap.size ≤ N ∧ w'.heap[N]? = some (.cells #[.string ⟨#[65, 116, 111, 105]⟩, .string s, ev] 177 (0, 0)) ∧ Below w.heap.size w w' := Any.strconv_Atoi_syntax Tryz.laysC172 s hlim h ev w hv hev
open Go.RowKit in
/-- strconv.Atoi, AT EVERY NUMERAL THAT NO int HOLDS ('.range'): THE GREATEST OR THE LEAST int, BY THE SIGN ('Lib.atoiSat'), AND AN ERROR THAT IS NOT nil: a *NumError in a new block N: {Func: "Atoi", Num: s's bytes, Err: what the variable ErrRange holds}. Of what was there nothing has turned. (LAID: no walk: one application.) -/
theorem Tryz.strconv_Atoi_range (s : ByteArray) (hlim : s.size ≤ 281474976710656) (h : Lib.atoiAll s.data.toList = .range) (ev : Value) (w : World) (hv : w.cell? ⟨8, 0, none⟩ = some ev) (hev : ev = .nilIface ∨ ∃ te pe, ev = .iface te pe) :
    Calls Tryz.prog 141 #[.string s] w fun e w' => ∃ N, e = .returned (.tuple #[.int .i64 (Lib.atoiSat s.data.toList), .iface 170 (.pointer (some ⟨N, 0, none⟩))]) ∧ w.heap.size ≤ N ∧ w'.heap[N]? = some (.cells #[.string ⟨#[65, 116, 111, 105]⟩, .string s, ev] 177 (0, 0)) ∧ Below w.heap.size w w' := Any.strconv_Atoi_range Tryz.laysC172 s hlim h ev w hv hev
def Tryz.lays207_ren : Go.Shelf.Ren := ⟨fun | 207 => 86 | n => n, fun | 9 => 9 | 4 => 4 | 3 => 3 | n => n, fun | n => n⟩
def Tryz.lays100_ren : Go.Shelf.Ren := ⟨fun | 100 => 55 | 207 => 86 | n => n, fun | 9 => 9 | 4 => 4 | 3 => 3 | n => n, fun | n => n⟩
theorem Tryz.lays100 : Go.Proofs.Lays.n100 Tryz.prog Tryz.lays100_ren := {
  mixed := by kernel_rfl
  f100 := Tryz.func55.trans (congrArg some (by kernel_rfl))
  f207 := Tryz.func86.trans (congrArg some (by kernel_rfl))
  t3 := Tryz.underlying3
  a3 := Tryz.isAgg3
  z3 := Tryz.sizeOf3
  v3 := Tryz.zeroValue3
  t4 := Tryz.underlying4
  a4 := Tryz.isAgg4
  z4 := Tryz.sizeOf4
  v4 := Tryz.zeroValue4
  t9 := Tryz.underlying9
  a9 := Tryz.isAgg9
  z9 := Tryz.sizeOf9
  v9 := Tryz.zeroValue9 }
open Go.RowKit Go.Lib in
/-- strings.HasSuffix: "HasSuffix reports whether the string s ends with suffix.": IT RETURNS 'Lib.hasSuffix s suffix'; the world is as it was. ('hs': no Go string is longer: a caller has it of every string that it was handed.) (LAID: no walk: one application.) -/
theorem Tryz.strings_HasSuffix (s p : ByteArray) (w : World) (hs : s.size ≤ 9223372036854775807) :
    Calls Tryz.prog 55 #[.string s, .string p] w fun e w' => e = .returned (.bool (Lib.hasSuffix s.data.toList p.data.toList)) ∧ w' = w := Any.strings_HasSuffix Tryz.lays100 s p w hs
def Tryz.lays102_ren : Go.Shelf.Ren := ⟨fun | 102 => 88 | 209 => 103 | 207 => 86 | n => n, fun | 9 => 9 | 4 => 4 | 3 => 3 | n => n, fun | n => n⟩
theorem Tryz.lays102 : Go.Proofs.Lays.n102 Tryz.prog Tryz.lays102_ren := {
  mixed := by kernel_rfl
  f102 := Tryz.func88.trans (congrArg some (by kernel_rfl))
  f207 := Tryz.func86.trans (congrArg some (by kernel_rfl))
  f209 := Tryz.func103.trans (congrArg some (by kernel_rfl))
  t3 := Tryz.underlying3
  a3 := Tryz.isAgg3
  z3 := Tryz.sizeOf3
  v3 := Tryz.zeroValue3
  t4 := Tryz.underlying4
  a4 := Tryz.isAgg4
  z4 := Tryz.sizeOf4
  v4 := Tryz.zeroValue4
  t9 := Tryz.underlying9
  a9 := Tryz.isAgg9
  z9 := Tryz.sizeOf9
  v9 := Tryz.zeroValue9 }
open Go.RowKit Go.Lib in
/-- strings.TrimSuffix: "TrimSuffix returns s without the provided trailing suffix string. If s doesn't end with suffix, s is returned unchanged.": IT RETURNS 'Lib.trimSuffix s suffix'; the world is as it was. (LAID: no walk: one application.) -/
theorem Tryz.strings_TrimSuffix (s p : ByteArray) (w : World) (hs : s.size ≤ 9223372036854775807) :
    Calls Tryz.prog 88 #[.string s, .string p] w fun e w' => e = .returned (.string ⟨(Lib.trimSuffix s.data.toList p.data.toList).toArray⟩) ∧ w' = w := Any.strings_TrimSuffix Tryz.lays102 s p w hs
def Tryz.lays221_ren : Go.Shelf.Ren := ⟨fun | 221 => 102 | 268 => 116 | 138 => 117 | 143 => 118 | 195 => 128 | 197 => 129 | 218 => 130 | 219 => 131 | 260 => 136 | 217 => 137 | 225 => 138 | 224 => 139 | 267 => 140 | 266 => 142 | 314 => 143 | n => n, fun | 9 => 9 | 3 => 3 | 31 => 40 | 4 => 4 | 0 => 0 | 105 => 149 | 21 => 21 | 5 => 5 | 46 => 140 | 119 => 160 | 139 => 163 | 138 => 162 | 146 => 164 | 51 => 146 | n => n, fun | 1 => 2 | 3 => 5 | 4 => 6 | n => n⟩
def Tryz.lays146_ren : Go.Shelf.Ren := ⟨fun | 146 => 87 | 221 => 102 | 268 => 116 | 138 => 117 | 143 => 118 | 195 => 128 | 197 => 129 | 218 => 130 | 219 => 131 | 260 => 136 | 217 => 137 | 225 => 138 | 224 => 139 | 267 => 140 | 266 => 142 | 314 => 143 | n => n, fun | 9 => 9 | 31 => 40 | 3 => 3 | 4 => 4 | 0 => 0 | 105 => 149 | 21 => 21 | 5 => 5 | 46 => 140 | 119 => 160 | 139 => 163 | 138 => 162 | 146 => 164 | 51 => 146 | n => n, fun | 1 => 2 | 3 => 5 | 4 => 6 | n => n⟩
theorem Tryz.lays146 : Go.Proofs.Lays.n146 Tryz.prog Tryz.lays146_ren := {
  mixed := by kernel_rfl
  f138 := Tryz.func117.trans (congrArg some (by kernel_rfl))
  f143 := Tryz.func118.trans (congrArg some (by kernel_rfl))
  f146 := Tryz.func87.trans (congrArg some (by kernel_rfl))
  f195 := Tryz.func128.trans (congrArg some (by kernel_rfl))
  f197 := Tryz.func129.trans (congrArg some (by kernel_rfl))
  f217 := Tryz.func137.trans (congrArg some (by kernel_rfl))
  f218 := Tryz.func130.trans (congrArg some (by kernel_rfl))
  f219 := Tryz.func131.trans (congrArg some (by kernel_rfl))
  f221 := Tryz.func102.trans (congrArg some (by kernel_rfl))
  f224 := Tryz.func139.trans (congrArg some (by kernel_rfl))
  f225 := Tryz.func138.trans (congrArg some (by kernel_rfl))
  f260 := Tryz.func136.trans (congrArg some (by kernel_rfl))
  f266 := Tryz.func142.trans (congrArg some (by kernel_rfl))
  f267 := Tryz.func140.trans (congrArg some (by kernel_rfl))
  f268 := Tryz.func116.trans (congrArg some (by kernel_rfl))
  f314 := Tryz.func143.trans (congrArg some (by kernel_rfl))
  t0 := Tryz.underlying0
  a0 := Tryz.isAgg0
  z0 := Tryz.sizeOf0
  v0 := Tryz.zeroValue0
  t3 := Tryz.underlying3
  a3 := Tryz.isAgg3
  z3 := Tryz.sizeOf3
  v3 := Tryz.zeroValue3
  t4 := Tryz.underlying4
  a4 := Tryz.isAgg4
  z4 := Tryz.sizeOf4
  v4 := Tryz.zeroValue4
  t5 := Tryz.underlying5
  a5 := Tryz.isAgg5
  z5 := Tryz.sizeOf5
  v5 := Tryz.zeroValue5
  t9 := Tryz.underlying9
  a9 := Tryz.isAgg9
  z9 := Tryz.sizeOf9
  v9 := Tryz.zeroValue9
  t21 := Tryz.underlying21
  a21 := Tryz.isAgg21
  z21 := Tryz.sizeOf21
  v21 := Tryz.zeroValue21
  t31 := Tryz.underlying40
  a31 := Tryz.isAgg40
  z31 := Tryz.sizeOf40
  v31 := Tryz.zeroValue40
  t46 := Tryz.underlying140
  a46 := Tryz.isAgg140
  z46 := Tryz.sizeOf140
  v46 := Tryz.zeroValue140
  t51 := Tryz.underlying146
  a51 := Tryz.isAgg146
  z51 := Tryz.sizeOf146
  v51 := Tryz.zeroValue146
  t105 := Tryz.underlying149
  a105 := Tryz.isAgg149
  z105 := Tryz.sizeOf149
  v105 := Tryz.zeroValue149
  t119 := Tryz.underlying160
  a119 := Tryz.isAgg160
  z119 := Tryz.sizeOf160
  t138 := Tryz.underlying162
  a138 := Tryz.isAgg162
  z138 := Tryz.sizeOf162
  v138 := Tryz.zeroValue162
  t139 := Tryz.underlying163
  a139 := Tryz.isAgg163
  z139 := Tryz.sizeOf163
  v139 := Tryz.zeroValue163
  t146 := Tryz.underlying164
  a146 := Tryz.isAgg164
  z146 := Tryz.sizeOf164
  v146 := Tryz.zeroValue164
  g1 := by kernel_rfl
  g3 := by kernel_rfl
  g4 := by kernel_rfl }
open Go.RowKit Go.Lib in
/-- strings.Split. (LAID: no walk: one application.) -/
theorem Tryz.strings_Split (s sep : ByteArray) (m : Int) (w : World) (hs : s.size < 4294967281) (hm : w.cell? ⟨2, 0, none⟩ = some (.int .i64 m)) (h1 : 1 ≤ sep.size) :
    Calls Tryz.prog 87 #[.string s, .string sep] w fun e w' =>
      e = .returned (.slice (some ⟨w.heap.size, 0, none⟩) (Lib.countB s sep + 1) (Lib.countB s sep + 1)) ∧ w' = w.alloc (.cells ((Lib.splitB sep 0 (Lib.countB s sep) s).map Value.string).toArray 9) := Any.strings_Split Tryz.lays146 (by kernel_rfl) s sep m w hs hm h1
def Tryz.laysM146_ren : Go.Shelf.Ren := ⟨fun | 146 => 87 | 221 => 102 | 268 => 116 | 138 => 117 | 143 => 118 | 195 => 128 | 197 => 129 | 218 => 130 | 219 => 131 | 260 => 136 | 217 => 137 | 225 => 138 | 224 => 139 | 267 => 140 | 266 => 142 | 314 => 143 | n => n, fun | 9 => 9 | 31 => 40 | 3 => 3 | 4 => 4 | 0 => 0 | 105 => 149 | 21 => 21 | 5 => 5 | 46 => 140 | 119 => 160 | 139 => 163 | 138 => 162 | 146 => 164 | 51 => 146 | n => n, fun | 1 => 2 | 3 => 5 | 4 => 6 | n => n⟩
theorem Tryz.laysM146 : Go.Proofs.LaysM.n146 Tryz.prog Tryz.laysM146_ren := {
  mixed := by kernel_rfl
  f138 := Tryz.func117.trans (congrArg some (by kernel_rfl))
  f143 := Tryz.func118.trans (congrArg some (by kernel_rfl))
  f146 := Tryz.func87.trans (congrArg some (by kernel_rfl))
  f195 := Tryz.func128.trans (congrArg some (by kernel_rfl))
  f197 := Tryz.func129.trans (congrArg some (by kernel_rfl))
  f217 := Tryz.func137.trans (congrArg some (by kernel_rfl))
  f218 := Tryz.func130.trans (congrArg some (by kernel_rfl))
  f219 := Tryz.func131.trans (congrArg some (by kernel_rfl))
  f221 := Tryz.func102.trans (congrArg some (by kernel_rfl))
  f224 := Tryz.func139.trans (congrArg some (by kernel_rfl))
  f225 := Tryz.func138.trans (congrArg some (by kernel_rfl))
  f260 := Tryz.func136.trans (congrArg some (by kernel_rfl))
  f266 := Tryz.func142.trans (congrArg some (by kernel_rfl))
  f267 := Tryz.func140.trans (congrArg some (by kernel_rfl))
  f268 := Tryz.func116.trans (congrArg some (by kernel_rfl))
  f314 := Tryz.func143.trans (congrArg some (by kernel_rfl))
  t0 := Tryz.underlying0
  a0 := Tryz.isAgg0
  z0 := Tryz.sizeOf0
  v0 := Tryz.zeroValue0
  t3 := Tryz.underlying3
  a3 := Tryz.isAgg3
  z3 := Tryz.sizeOf3
  v3 := Tryz.zeroValue3
  t4 := Tryz.underlying4
  a4 := Tryz.isAgg4
  z4 := Tryz.sizeOf4
  v4 := Tryz.zeroValue4
  t5 := Tryz.underlying5
  a5 := Tryz.isAgg5
  z5 := Tryz.sizeOf5
  v5 := Tryz.zeroValue5
  t9 := Tryz.underlying9
  a9 := Tryz.isAgg9
  z9 := Tryz.sizeOf9
  v9 := Tryz.zeroValue9
  t21 := Tryz.underlying21
  a21 := Tryz.isAgg21
  z21 := Tryz.sizeOf21
  v21 := Tryz.zeroValue21
  t31 := Tryz.underlying40
  a31 := Tryz.isAgg40
  z31 := Tryz.sizeOf40
  v31 := Tryz.zeroValue40
  t46 := Tryz.underlying140
  a46 := Tryz.isAgg140
  z46 := Tryz.sizeOf140
  v46 := Tryz.zeroValue140
  t51 := Tryz.underlying146
  a51 := Tryz.isAgg146
  z51 := Tryz.sizeOf146
  v51 := Tryz.zeroValue146
  t105 := Tryz.underlying149
  a105 := Tryz.isAgg149
  z105 := Tryz.sizeOf149
  v105 := Tryz.zeroValue149
  t119 := Tryz.underlying160
  a119 := Tryz.isAgg160
  z119 := Tryz.sizeOf160
  t138 := Tryz.underlying162
  a138 := Tryz.isAgg162
  z138 := Tryz.sizeOf162
  v138 := Tryz.zeroValue162
  t139 := Tryz.underlying163
  a139 := Tryz.isAgg163
  z139 := Tryz.sizeOf163
  v139 := Tryz.zeroValue163
  t146 := Tryz.underlying164
  a146 := Tryz.isAgg164
  z146 := Tryz.sizeOf164
  v146 := Tryz.zeroValue164
  g1 := by kernel_rfl
  g3 := by kernel_rfl
  g4 := by kernel_rfl
  i0 := by kernel_rfl
  i3 := by kernel_rfl
  i4 := by kernel_rfl
  i5 := by kernel_rfl
  i9 := by kernel_rfl
  i21 := by kernel_rfl
  i31 := by kernel_rfl
  i46 := by kernel_rfl
  i51 := by kernel_rfl
  i105 := by kernel_rfl
  i138 := by kernel_rfl
  i139 := by kernel_rfl
  i146 := by kernel_rfl
  m1 := by kernel_rfl
  s1_3 := fun w h => Go.Proofs.cell_of_shapedOpen_int (zero := #[.int .i64 0]) (t := 3) h (of_decide_eq_true (by kernel_rfl)) (by kernel_rfl) rfl (by kernel_rfl) (by kernel_rfl) Tryz.underlying3
  m3 := by kernel_rfl
  m4 := by kernel_rfl }
def Tryz.laysSlN30_f120_ren : Go.Shelf.Ren := ⟨fun | 30 => 120 | n => n, fun | 25 => 40 | 26 => 9 | 3 => 3 | 0 => 0 | 4 => 4 | n => n, fun | n => n⟩
theorem Tryz.laysSlN30_f120 : Go.Proofs.SlLaysN.n30 Tryz.prog Tryz.laysSlN30_f120_ren := {
  mixed := by kernel_rfl
  f30 := ⟨Tryz.f120.name, by decide, Tryz.func120.trans (congrArg some (by kernel_rfl))⟩
  t0 := Tryz.underlying0
  a0 := Tryz.isAgg0
  z0 := Tryz.sizeOf0
  v0 := Tryz.zeroValue0
  t3 := Tryz.underlying3
  a3 := Tryz.isAgg3
  z3 := Tryz.sizeOf3
  v3 := Tryz.zeroValue3
  t4 := Tryz.underlying4
  a4 := Tryz.isAgg4
  z4 := Tryz.sizeOf4
  v4 := Tryz.zeroValue4
  t25 := Tryz.underlying40
  a25 := Tryz.isAgg40
  z25 := Tryz.sizeOf40
  v25 := Tryz.zeroValue40
  t26 := Tryz.underlying9
  a26 := Tryz.isAgg9
  z26 := Tryz.sizeOf9
  v26 := Tryz.zeroValue9 }
open Go.Lib in
/-- slices.Index at []string: "Index returns the index of the first occurrence of v in s, or -1 if not present.": IT RETURNS 'Lib.idxOfS (the elements) v'; the world is as it was. 'zs': what the cells behind the slice's address hold (its spare capacity too, if you have it); 'zs.take n': its elements. (LAID AT THE INSTANCE 'slices.Index[[]string,string]': no walk: one application.) -/
theorem Tryz.slices_Index_string (b off n c : Nat) (zs : List ByteArray) (x : ByteArray) (w : World) (hz : n ≤ zs.length) (hbig : n ≤ 9223372036854775807) (hc : ∀ j, j < zs.length → w.cell? ⟨b, off + j, none⟩ = some (.string (zs.getD j ByteArray.empty))) :
    Calls Tryz.prog 120 #[.slice (some ⟨b, off, none⟩) n c, .string x] w fun e w' => e = .returned (.int .i64 (Lib.idxOfS (zs.take n) x)) ∧ w' = w := AnyG.slices_Index_string Tryz.laysSlN30_f120 b off n c zs x w hz hbig hc
end Go.Proofs
/- The library's functions on strings, in the words of the walks (the shelf's contracts, laid); what the package's variables hold. -/
set_option linter.unusedSimpArgs false
set_option linter.unusedVariables false
namespace Go.Proofs.YtgpkpopbajkklaaGreatDoor
open Go Go.RowKit
/-- A string cut at each byte c. -/
def splitC (c : UInt8) : Bs → List Bs
  | [] => [[]]
  | b :: r => if b = c then [] :: splitC c r else match splitC c r with
    | [] => [[b]]
    | h :: t => (b :: h) :: t
theorem splitC_ne (c : UInt8) : ∀ l : Bs, splitC c l ≠ []
  | [] => by simp [splitC]
  | b :: r => by
    rw [splitC]
    split
    · simp
    · split <;> simp
theorem splitC_none {c : UInt8} : ∀ {l : Bs}, c ∉ l → splitC c l = [l]
  | [], _ => rfl
  | b :: r, h => by
    simp only [List.mem_cons, not_or] at h
    rw [splitC, if_neg (Ne.symm h.1), splitC_none h.2]
theorem splitC_hit {c : UInt8} {r : Bs} : ∀ {a : Bs}, c ∉ a → splitC c (a ++ c :: r) = a :: splitC c r
  | [], _ => by simp [splitC]
  | b :: a, h => by
    simp only [List.mem_cons, not_or] at h
    rw [List.cons_append, splitC, if_neg (Ne.symm h.1), splitC_hit h.2]
theorem index_one (c : UInt8) : ∀ l : Bs, (Lib.index l [c] = -1 ∧ c ∉ l) ∨ ∃ a r, l = a ++ c :: r ∧ c ∉ a ∧ Lib.index l [c] = (a.length : Int)
  | [] => .inl ⟨by simp [Lib.index], by simp⟩
  | b :: l => by
    by_cases hb : c = b
    · subst hb
      exact .inr ⟨[], l, rfl, by simp, by simp [Lib.index]⟩
    · have hp : ¬ ([c].isPrefixOf (b :: l) = true) := by simp [List.isPrefixOf, hb]
      rcases index_one c l with ⟨h1, h2⟩ | ⟨a, r, rfl, h2, h3⟩
      · refine .inl ⟨?_, by simp [hb, h2]⟩
        rw [Lib.index, if_neg hp, h1]; rfl
      · refine .inr ⟨b :: a, r, rfl, by simp [hb, h2], ?_⟩
        rw [Lib.index, if_neg hp, h3, if_neg (by simp)]
        simp
theorem splitK_one (c : UInt8) : ∀ (k : Nat) (l : Bs), Lib.count l [c] = k → Lib.splitK [c] 0 k l = splitC c l
  | 0, l, hk => by
    rcases index_one c l with ⟨_, h2⟩ | ⟨a, r, rfl, h2, h3⟩
    · rw [splitC_none h2]; rfl
    · have := Lib.count_hit (by simp) h3; omega
  | k + 1, l, hk => by
    rcases index_one c l with ⟨h1, h2⟩ | ⟨a, r, rfl, h2, h3⟩
    · have := Lib.count_miss h1; omega
    · have h4 := Lib.count_hit (by simp) h3
      have e : (a ++ c :: r).drop (a.length + [c].length) = r := by simp
      rw [e] at h4
      rw [Lib.splitK, if_neg (by rw [h3]; simp), h3, splitC_hit h2]
      have e2 : ((a.length : Int)).toNat = a.length := by omega
      rw [e2, e, Nat.add_zero, splitK_one c k r (by omega)]
      simp
theorem splitB_one (c : UInt8) (l : Bs) : (Lib.splitB ⟨#[c]⟩ 0 (Lib.countB ⟨l.toArray⟩ ⟨#[c]⟩) ⟨l.toArray⟩).map Value.string = strs (splitC c l) := by
  have h := Lib.splitB_data ⟨#[c]⟩ 0 (Lib.countB ⟨l.toArray⟩ ⟨#[c]⟩) ⟨l.toArray⟩
  have e : Lib.splitK [c] 0 (Lib.countB ⟨l.toArray⟩ ⟨#[c]⟩) l = splitC c l := splitK_one c _ l rfl
  have h2 : (Lib.splitB ⟨#[c]⟩ 0 (Lib.countB ⟨l.toArray⟩ ⟨#[c]⟩) ⟨l.toArray⟩).map (·.data.toList) = splitC c l := h.trans e
  rw [← h2, strs, List.map_map]
  rfl
theorem countB_one (c : UInt8) (l : Bs) : Lib.countB ⟨l.toArray⟩ ⟨#[c]⟩ + 1 = (splitC c l).length := by
  have h := Lib.splitB_all ⟨#[c]⟩ (by simp [ByteArray.size]) 0 _ (⟨l.toArray⟩ : ByteArray) rfl
  have h2 := congrArg List.length (splitB_one c l)
  rw [List.length_map, strs_length, h] at h2
  exact h2
theorem splitC_length (c : UInt8) : ∀ l : Bs, (splitC c l).length ≤ l.length + 1
  | [] => by simp [splitC]
  | b :: r => by
    have := splitC_length c r
    rw [splitC]
    split
    · simp; omega
    · split
      · simp
      · rename_i h t he
        rw [he] at this
        simp at this ⊢; omega

/-- What the package's variables hold. -/
structure Gl (w : World) : Prop where
  tab : Lib.TabIs Tryz.prog w "internal/strconv.uint64pow10" .u64 Lib.pow10Tab
  es : ∃ t p, w.cell? ⟨7, 0, none⟩ = some (.iface t p)
  er : ∃ t p, w.cell? ⟨8, 0, none⟩ = some (.iface t p)
  ml : ∃ m, w.cell? ⟨2, 0, none⟩ = some (.int .i64 m)
  nm : Sl w (.slice (some ⟨0, 0, none⟩) 13 13) 1 13 (strs gnames)
theorem St.cellKeep {w0 w : World} {H : List Res} {a : Addr} {v : Value} (hs : St No w0 w H) (h : w0.cell? a = some v) : w.cell? a = some v := by
  have hb : a.block < w0.heap.size := Lib.lt_of_cell h
  rw [World.cell?_of_block (w := w0) (hs.keep a.block hb (fun x => x))]; exact h
theorem Gl.go {w0 w : World} {H : List Res} (h : Gl w0) (hs : St No w0 w H) : Gl w := by
  refine ⟨?_, ?_, ?_, ?_, hs.sl h.nm⟩
  · have h1 := h.tab
    unfold Lib.TabIs World.var? at h1 ⊢
    obtain ⟨g, hg, h2⟩ := Option.bind_eq_some_iff.1 h1
    rw [hg, Option.bind_some]
    split at h2
    · rename_i cs t m hc
      have hlt : g < w0.heap.size := (Array.getElem?_eq_some_iff.1 hc).1
      rw [hs.keep g hlt (fun x => x), hc]; exact h2
    · cases h2
  · obtain ⟨t, p, h1⟩ := h.es; exact ⟨t, p, hs.cellKeep h1⟩
  · obtain ⟨t, p, h1⟩ := h.er; exact ⟨t, p, hs.cellKeep h1⟩
  · obtain ⟨m, h1⟩ := h.ml; exact ⟨m, hs.cellKeep h1⟩
theorem St.ofBelow {w w' : World} (h : Below w.heap.size w w') : St No w w' [] :=
  ⟨h.os, h.tape, h.output, h.size, fun k hk _ => h.block k hk, (fun _ h => nomatch h), (fun _ h => nomatch h), List.Pairwise.nil⟩
theorem St.ofSame {w : World} : St No w w [] := St.empty _ _
theorem below_grow (w : World) (k : Nat) (os : Array Obj) : Below w.heap.size w (Sort.grow (w.drewN k) os) := by
  refine ⟨rfl, rfl, rfl, ?_, fun j hj => ?_⟩
  · show w.heap.size ≤ (w.heap ++ os).size
    rw [Array.size_append]; omega
  · show (w.heap ++ os)[j]? = w.heap[j]?
    rw [Array.getElem?_append_left hj]

theorem Split_spec {l : Bs} (c : UInt8) {w : World} (hg : Gl w) (hl : l.length ≤ 4294967280) : Calls Tryz.prog 87 #[sv l, sv [c]] w
    (Post No w fun v H => ∃ b, v = .slice (some ⟨b, 0, none⟩) (splitC c l).length (splitC c l).length ∧ H = [.own v 9 1 (splitC c l).length (strs (splitC c l))]) := by
  obtain ⟨m, hm⟩ := hg.ml
  refine (Tryz.strings_Split ⟨l.toArray⟩ ⟨#[c]⟩ m w (by rw [sv_size]; omega) hm (by simp [ByteArray.size])).mono fun e w' ⟨he, hw⟩ => ?_
  rw [countB_one] at he
  refine ⟨_, _, he, ?_, w.heap.size, rfl, rfl⟩
  rw [splitB_one] at hw
  have hlen := splitC_length c l
  have h1 := (St.empty No w).alloc 9 (strs (splitC c l)).toArray
  rw [← hw] at h1
  refine St.turn (r := .blk w.heap.size 9 (strs (splitC c l))) h1 rfl rfl rfl (Nat.le_refl _) (fun _ _ _ => rfl) ?_ (fun k hk => .inl (by simpa [Res.has, Value.ownBlock] using hk))
  refine ⟨by simp, .inr ⟨w.heap.size, (splitC c l).length, (strs (splitC c l)).toArray, rfl, Nat.zero_le _, ?_, Nat.le_refl _, by simp only [maxLen]; omega, by simp, by rw [List.toList_toArray, List.take_of_length_le (by simp)]⟩⟩
  have h2 : w'.heap[w.heap.size]? = some (.cells (strs (splitC c l)).toArray 9 (0, 0)) := h1.holds _ (.head _)
  exact h2
theorem HasSuffix_spec {l m : Bs} {w : World} (hl : l.length ≤ 9223372036854775807) : Calls Tryz.prog 55 #[sv l, sv m] w (Post No w fun v _ => v = .bool (m.isSuffixOf l)) := by
  refine (Tryz.strings_HasSuffix ⟨l.toArray⟩ ⟨m.toArray⟩ w (by rw [sv_size]; omega)).mono ?_
  rintro e w' ⟨he, rfl⟩
  exact ⟨_, [], he, St.ofSame, rfl⟩
theorem TrimSuffix_spec {l m : Bs} {w : World} (hl : l.length ≤ 9223372036854775807) : Calls Tryz.prog 88 #[sv l, sv m] w (Post No w fun v _ => v = sv (Lib.trimSuffix l m)) := by
  refine (Tryz.strings_TrimSuffix ⟨l.toArray⟩ ⟨m.toArray⟩ w (by rw [sv_size]; omega)).mono ?_
  rintro e w' ⟨he, rfl⟩
  exact ⟨_, [], he, St.ofSame, rfl⟩
theorem Itoa_spec {n : Int} {w : World} (hg : Gl w) (h0 : -9223372036854775808 ≤ n) (h1 : n ≤ 9223372036854775807) : Calls Tryz.prog 36 #[.int .i64 n] w (Post No w fun v _ => v = sv (Lib.itoa n)) := by
  refine (Tryz.strconv_Itoa n h0 h1 w hg.tab).mono ?_
  rintro e w' ⟨he, k, os, rfl⟩
  exact ⟨_, [], he, St.ofBelow (below_grow w k os), rfl⟩
/-- What Atoi hands back: the number, and whether there is no error. -/
def atoiV (l : Bs) : Int := match Lib.atoiAll l with
  | .ok v => v
  | .syntax => 0
  | .range => Lib.atoiSat l
def atoiOk (l : Bs) : Bool := match Lib.atoiAll l with
  | .ok _ => true
  | _ => false
theorem atoiV_bounds (l : Bs) : -9223372036854775808 ≤ atoiV l ∧ atoiV l ≤ 9223372036854775807 := by
  unfold atoiV
  split
  · rename_i v h; exact Lib.atoiAll_bounds h
  · omega
  · exact Lib.atoiSat_bounds l
theorem Atoi_spec {l : Bs} {w : World} (hg : Gl w) (hl : l.length ≤ 281474976710656) : Calls Tryz.prog 141 #[sv l] w
    (Post No w fun v H => ∃ e, v = .tuple #[.int .i64 (atoiV l), e] ∧ ((atoiOk l = true ∧ e = .nilIface) ∨ (atoiOk l = false ∧ ∃ t p, e = .iface t p)) ∧ H = []) := by
  have hmax : (⟨l.toArray⟩ : ByteArray).size ≤ 281474976710656 := by rw [sv_size]; exact hl
  cases h : Lib.atoiAll l with
  | ok v =>
    refine (Tryz.strconv_Atoi_ok ⟨l.toArray⟩ (by omega) v h w).mono ?_
    rintro e w' ⟨he, hw⟩
    refine ⟨_, [], he, ?_, _, by simp only [atoiV, h], .inl ⟨by simp only [atoiOk, h], rfl⟩, rfl⟩
    rcases hw with rfl | ⟨t, rfl⟩
    · exact St.ofSame
    · exact St.ofBelow (Lib.bytesWorld_below w _ t)
  | «syntax» =>
    obtain ⟨t, p, hc⟩ := hg.es
    refine (Tryz.strconv_Atoi_syntax ⟨l.toArray⟩ hmax h _ w hc (.inr ⟨t, p, rfl⟩)).mono ?_
    rintro e w' ⟨N, he, _, _, hb⟩
    exact ⟨_, [], he, St.ofBelow hb, _, by simp only [atoiV, h]; rfl, .inr ⟨by simp only [atoiOk, h], _, _, rfl⟩, rfl⟩
  | range =>
    obtain ⟨t, p, hc⟩ := hg.er
    refine (Tryz.strconv_Atoi_range ⟨l.toArray⟩ hmax h _ w hc (.inr ⟨t, p, rfl⟩)).mono ?_
    rintro e w' ⟨N, he, _, _, hb⟩
    exact ⟨_, [], he, St.ofBelow hb, _, by simp only [atoiV, h]; rfl, .inr ⟨by simp only [atoiOk, h], _, _, rfl⟩, rfl⟩

end Go.Proofs.YtgpkpopbajkklaaGreatDoor
/- Walks: numbers in circuit texts. -/
set_option linter.unusedSimpArgs false
set_option linter.unusedVariables false
namespace Go.Proofs.YtgpkpopbajkklaaGreatDoor
open Go Go.RowKit
namespace TxbT
theorem Tcall_132 : callable Tryz.prog 132 = true := by kernel_rfl
theorem Tcall_141 : callable Tryz.prog 141 = true := by kernel_rfl
theorem Tcall_36 : callable Tryz.prog 36 = true := by kernel_rfl
theorem Tstr_9 : strT Tryz.prog 9 = true := by kernel_rfl
end TxbT
open TxbT
def ifaceT (P : Program) (t : TypeId) : Bool := match P.underlying t with
  | some (.interface _) => true
  | _ => false
theorem OpY.eqNilErr {E : Env} {f : Fr} {H : List Res} {d : Option Tmp} {ty : TypeId} {pos : String} {after : Array Edge} {gd : Option (Nat × Bool)} {t t' : TypeId} {x : Operand} {e : Value} {b : Bool} (ht : ifaceT E.P t = true) (hx : f.eval x = e)
    (he : (b = true ∧ e = .nilIface) ∨ (b = false ∧ ∃ t p, e = .iface t p)) : OpY E ⟨d, .binOp .eql t x (.const .nilIface) t', ty, pos, after, gd⟩ f H (.bool b) := by
  intro w _
  have hy : f.eval (.const .nilIface) = .nilIface := rfl
  unfold ifaceT at ht
  split at ht
  · rename_i ms hu
    rcases he with ⟨rfl, rfl⟩ | ⟨rfl, t2, p, rfl⟩
    · have h0 : ∀ d : Nat, (Op.equalIn (d + 1) t .nilIface .nilIface).run E.P w = .ok true w := fun d => by simp [Op.equalIn, run_underlying hu]
      have h : (Op.equal t .nilIface .nilIface).run E.P w = .ok true w := by simp [Op.equal, Op.maxDepth, h0 9999]
      simp [execOp, hx, hy, eqGuard, binOp, h]
    · have h0 : ∀ d : Nat, (Op.equalIn (d + 1) t (.iface t2 p) .nilIface).run E.P w = .ok false w := fun d => by simp [Op.equalIn, run_underlying hu]
      have h : (Op.equal t (.iface t2 p) .nilIface).run E.P w = .ok false w := by simp [Op.equal, Op.maxDepth, h0 9999]
      simp [execOp, hx, hy, eqGuard, binOp, h]
  · cases ht
/-- Is the string the very text of the number that it spells? -/
def pB (l : Bs) : Bool := atoiOk l && (Lib.itoa (atoiV l) == l)
theorem dec1 {n : Nat} (h : n < 10) : Lib.decDigits n = [UInt8.ofNat (48 + n)] := by rw [Lib.decDigits, dif_pos h]
theorem dec2 {n : Nat} (h : 10 ≤ n) (h2 : n < 100) : Lib.decDigits n = [UInt8.ofNat (48 + n / 10), UInt8.ofNat (48 + n % 10)] := by
  rw [Lib.decDigits, dif_neg (by omega), dec1 (by omega)]; rfl
theorem itoa_of {n : Nat} : Lib.itoa (n : Int) = Lib.decDigits n := by
  rw [Lib.itoa, if_neg (by omega), Int.toNat_natCast]
theorem u8_back {a : UInt8} (h : 48 ≤ a.toNat) : UInt8.ofNat (48 + (a.toNat - 48)) = a := by
  have : 48 + (a.toNat - 48) = a.toNat := by omega
  rw [this]; simp
theorem atoi1 (a : UInt8) : Lib.atoiAll [a] = if 48 ≤ a.toNat ∧ a.toNat ≤ 57 then .ok ((a.toNat - 48 : Nat) : Int) else .syntax := by
  by_cases h : a.toNat = 43 ∨ a.toNat = 45
  · rw [if_neg (by omega)]
    simp [Lib.atoiAll, h, Lib.parseMag]
  · by_cases h2 : 48 ≤ a.toNat ∧ a.toNat ≤ 57
    · rw [if_pos h2]
      have h3 : ¬ a.toNat = 45 := by omega
      have h4 : ¬ (18446744073709551616 ≤ a.toNat - 48) := by omega
      have h5 : ¬ (9223372036854775808 ≤ a.toNat - 48) := by omega
      have h6 : ¬ a.toNat = 43 := by omega
      simp [Lib.atoiAll, Lib.parseMag, Lib.parseUint10, h2, h3, h4, h5, h6]
    · rw [if_neg h2]
      simp [Lib.atoiAll, h, Lib.parseMag, Lib.parseUint10, h2]
theorem mag2 (a b : UInt8) : Lib.parseMag [a, b] = if (48 ≤ a.toNat ∧ a.toNat ≤ 57) ∧ (48 ≤ b.toNat ∧ b.toNat ≤ 57) then .ok ((a.toNat - 48) * 10 + (b.toNat - 48)) else .syntax := by
  by_cases h2 : 48 ≤ a.toNat ∧ a.toNat ≤ 57
  · have h3 : ¬ (18446744073709551616 ≤ a.toNat - 48) := by omega
    have h4 : ¬ (1844674407370955162 ≤ a.toNat - 48) := by omega
    by_cases h5 : 48 ≤ b.toNat ∧ b.toNat ≤ 57
    · have h6 : ¬ (18446744073709551616 ≤ (a.toNat - 48) * 10 + (b.toNat - 48)) := by omega
      rw [if_pos ⟨h2, h5⟩]
      simp [Lib.parseMag, Lib.parseUint10, h2, h3, h4, h5, h6]
    · rw [if_neg (by simp [h5])]
      simp [Lib.parseMag, Lib.parseUint10, h2, h3, h4, h5]
  · rw [if_neg (by simp [h2])]
    simp [Lib.parseMag, Lib.parseUint10, h2]
theorem mag1 (b : UInt8) : Lib.parseMag [b] = if 48 ≤ b.toNat ∧ b.toNat ≤ 57 then .ok (b.toNat - 48) else .syntax := by
  by_cases h2 : 48 ≤ b.toNat ∧ b.toNat ≤ 57
  · have h3 : ¬ (18446744073709551616 ≤ b.toNat - 48) := by omega
    rw [if_pos h2]; simp [Lib.parseMag, Lib.parseUint10, h2, h3]
  · rw [if_neg h2]; simp [Lib.parseMag, Lib.parseUint10, h2]
theorem atoi2 (a b : UInt8) : Lib.atoiAll [a, b] = if 48 ≤ b.toNat ∧ b.toNat ≤ 57 then (if 48 ≤ a.toNat ∧ a.toNat ≤ 57 then .ok (((a.toNat - 48) * 10 + (b.toNat - 48) : Nat) : Int) else if a.toNat = 43 then .ok ((b.toNat - 48 : Nat) : Int) else if a.toNat = 45 then .ok (-((b.toNat - 48 : Nat) : Int)) else .syntax) else .syntax := by
  by_cases hs : a.toNat = 43 ∨ a.toNat = 45
  · by_cases hb : 48 ≤ b.toNat ∧ b.toNat ≤ 57
    · have h1 : ¬ (9223372036854775808 ≤ b.toNat - 48) := by omega
      have h2 : ¬ (9223372036854775808 < b.toNat - 48) := by omega
      rw [if_pos hb, if_neg (by omega)]
      rcases id hs with h | h
      · rw [if_pos h]
        simp only [Lib.atoiAll, if_pos hs, mag1, if_pos hb]
        simp [h, h1]
      · rw [if_neg (by omega), if_pos h]
        simp only [Lib.atoiAll, if_pos hs, mag1, if_pos hb]
        simp [h, h2]
    · rw [if_neg hb]
      simp only [Lib.atoiAll, if_pos hs, mag1, if_neg hb]
  · by_cases hb : (48 ≤ a.toNat ∧ a.toNat ≤ 57) ∧ (48 ≤ b.toNat ∧ b.toNat ≤ 57)
    · have h1 : ¬ (9223372036854775808 ≤ (a.toNat - 48) * 10 + (b.toNat - 48)) := by omega
      have h3 : ¬ a.toNat = 45 := by omega
      rw [if_pos hb.2, if_pos hb.1]
      simp only [Lib.atoiAll, if_neg hs, mag2, if_pos hb]
      simp [h1, h3]
    · simp only [Lib.atoiAll, if_neg hs, mag2, if_neg hb]
      split
      · rw [if_neg (fun h => hb ⟨h, by assumption⟩), if_neg (by omega), if_neg (by omega)]
      · rfl
theorem u8_eq_iff {a : UInt8} {n : Nat} (h : n < 256) : UInt8.ofNat n = a ↔ n = a.toNat := by
  constructor
  · rintro rfl; simp; omega
  · rintro rfl; simp
theorem pB_num {l : Bs} (h : l.length ≤ 2) : (pB l && decide (0 ≤ atoiV l)) = decide (0 ≤ num2 l) ∧ (0 ≤ num2 l → atoiV l = num2 l) := by
  match l, h with
  | [], _ => simp [pB, atoiOk, atoiV, Lib.atoiAll, num2]
  | [a], _ =>
    have hx : byx [a] 0 = (a.toNat : Int) := rfl
    by_cases hd : 48 ≤ a.toNat ∧ a.toNat ≤ 57
    · have hv : atoiV [a] = ((a.toNat - 48 : Nat) : Int) := by rw [atoiV, atoi1, if_pos hd]
      have ho : atoiOk [a] = true := by rw [atoiOk, atoi1, if_pos hd]
      have hn : num2 [a] = ((a.toNat - 48 : Nat) : Int) := by
        simp only [num2, hx, digB]
        rw [if_pos (by simp; omega)]; omega
      rw [pB, ho, hv, hn, itoa_of, dec1 (by omega), u8_back hd.1]
      simp
    · have ho : atoiOk [a] = false := by rw [atoiOk, atoi1, if_neg hd]
      have hn : num2 [a] = -1 := by
        simp only [num2, hx, digB]
        rw [if_neg (by simp; omega)]
      rw [pB, ho, hn]; simp
  | [a, b], _ =>
    have hx : byx [a, b] 0 = (a.toNat : Int) := rfl
    have hy : byx [a, b] 1 = (b.toNat : Int) := rfl
    by_cases hb : 48 ≤ b.toNat ∧ b.toNat ≤ 57
    · by_cases ha : 48 ≤ a.toNat ∧ a.toNat ≤ 57
      · have hv : atoiV [a, b] = (((a.toNat - 48) * 10 + (b.toNat - 48) : Nat) : Int) := by rw [atoiV, atoi2, if_pos hb, if_pos ha]
        have ho : atoiOk [a, b] = true := by rw [atoiOk, atoi2, if_pos hb, if_pos ha]
        by_cases h0 : a.toNat = 48
        · have hn : num2 [a, b] = -1 := by
            simp only [num2, hx, hy, digB]
            rw [if_neg (by simp; omega)]
          rw [pB, ho, hv, hn, itoa_of, dec1 (by omega)]; simp
        · have hn : num2 [a, b] = (((a.toNat - 48) * 10 + (b.toNat - 48) : Nat) : Int) := by
            simp only [num2, hx, hy, digB]
            rw [if_pos (by simp; omega)]; omega
          have e1 : UInt8.ofNat (48 + ((a.toNat - 48) * 10 + (b.toNat - 48)) / 10) = a := (u8_eq_iff (by omega)).2 (by omega)
          have e2 : UInt8.ofNat (48 + ((a.toNat - 48) * 10 + (b.toNat - 48)) % 10) = b := (u8_eq_iff (by omega)).2 (by omega)
          rw [pB, ho, hv, hn, itoa_of, dec2 (by omega) (by omega), e1, e2]; simp <;> omega
      · have hn : num2 [a, b] = -1 := by
          simp only [num2, hx, hy, digB]
          rw [if_neg (by simp; omega)]
        by_cases h43 : a.toNat = 43
        · have hv : atoiV [a, b] = ((b.toNat - 48 : Nat) : Int) := by rw [atoiV, atoi2, if_pos hb, if_neg ha, if_pos h43]
          rw [pB, hv, hn, itoa_of, dec1 (by omega)]; simp
        · by_cases h45 : a.toNat = 45
          · have hv : atoiV [a, b] = -((b.toNat - 48 : Nat) : Int) := by rw [atoiV, atoi2, if_pos hb, if_neg ha, if_neg h43, if_pos h45]
            by_cases hz : b.toNat = 48
            · have hv2 : atoiV [a, b] = ((0 : Nat) : Int) := by rw [hv, hz]; rfl
              rw [pB, hv2, hn, itoa_of, dec1 (by omega)]; simp
            · rw [hn, hv, show decide (0 ≤ -((b.toNat - 48 : Nat) : Int)) = false from decide_eq_false (by omega)]; simp
          · have ho : atoiOk [a, b] = false := by rw [atoiOk, atoi2, if_pos hb, if_neg ha, if_neg h43, if_neg h45]
            rw [pB, ho, hn]; simp
    · have ho : atoiOk [a, b] = false := by rw [atoiOk, atoi2, if_neg hb]
      have hn : num2 [a, b] = -1 := by
        simp only [num2, hx, hy, digB]
        rw [if_neg (by simp; omega)]
      rw [pB, ho, hn]; simp

set_option maxHeartbeats 1000000 in
set_option maxRecDepth 20000 in
theorem parseInt_spec {l : Bs} {w : World} (hg : Gl w) (hl : l.length ≤ 281474976710656) : Calls Tryz.prog 132 #[sv l] w (Post No w fun v _ => v = .tuple #[.int .i64 (atoiV l), .bool (pB l)]) := by
 refine enter (n := 20) (args := [sv l]) Tryz.func132 rfl rfl (St.empty _ _) ?_
 refine .sr ?_
 iterate 2 refine .m ?_
 refine .dsr ?_
 refine .w (sv l) ?_
 refine .step rfl (.c [sv l] Tcall_141 (fun w hs => Atoi_spec (hg.go hs) hl) ?_)
 rintro _ _ ⟨e1, rfl, he1, rfl⟩
 show Run _ _ (putF _ _ _ (.tuple #[.int .i64 (atoiV l), e1])) []
 refine .w (.tuple #[.int .i64 (atoiV l), e1]) ?_
 refine .w (.int .i64 (atoiV l)) ?_
 refine .w e1 ?_
 refine .m ?_
 refine .w e1 ?_
 refine .dsr ?_
 refine .m ?_
 refine .w e1 ?_
 refine .u (.bool (atoiOk l)) (.eqNilErr (by kernel_rfl) rfl he1) ?_
 rcases Bool.eq_false_or_eq_true (atoiOk l) with h14 | h14
 ·refine .mb h14 ?_
  have p14 := h14; try simp only [bs] at p14
  refine .m ?_
  refine .c (sv (Lib.itoa (atoiV l))) [.int .i64 (atoiV l)] Tcall_36 (fun w hs => Itoa_spec (hg.go hs) (atoiV_bounds l).1 (atoiV_bounds l).2) ?_
  refine .w (sv l) ?_
  refine .u (.bool ((Lib.itoa (atoiV l)) == l)) (.eqS rfl rfl) ?_
  refine .w (.bool ((Lib.itoa (atoiV l)) == l)) ?_
  iterate 2 refine .m ?_
  refine .done ?_
  refine .ret ?_
  refine ⟨.tuple #[.int .i64 (atoiV l), .bool ((Lib.itoa (atoiV l)) == l)], [], Out.two rfl rfl rfl, (Some'.weak (.nil _)), ?_⟩
  show _ = _; simp only [pB, h14]; rfl
 refine .mb h14 ?_
 have p14 := h14; try simp only [bs] at p14
 iterate 4 refine .pass rfl ?_
 refine .w (.bool false) ?_
 iterate 2 refine .m ?_
 refine .done ?_
 refine .ret ?_
 refine ⟨.tuple #[.int .i64 (atoiV l), .bool false], [], Out.two rfl rfl rfl, (Some'.weak (.nil _)), ?_⟩
 show _ = _; simp only [pB, h14]; rfl

set_option maxHeartbeats 1000000 in
set_option maxRecDepth 20000 in
theorem textNumber_spec {l : Bs} {w : World} (hg : Gl w) (hl : l.length ≤ 281474976710656) : Calls Tryz.prog 119 #[sv l] w (Post No w fun v H => ∃ n, v = .tuple #[.int .i64 n, .bool (decide (0 ≤ num2 l))] ∧ (0 ≤ num2 l → n = num2 l) ∧ H = []) := by
 refine enter (n := 22) (args := [sv l]) Tryz.func119 rfl rfl (St.empty _ _) ?_
 refine .sr ?_
 iterate 2 refine .m ?_
 refine .dsr ?_
 refine .w (sv l) ?_
 refine .c (.tuple #[.int .i64 (atoiV l), .bool (pB l)]) [sv l] Tcall_132 (fun w hs => parseInt_spec (hg.go hs) hl) ?_
 refine .w (.tuple #[.int .i64 (atoiV l), .bool (pB l)]) ?_
 refine .w (.int .i64 (atoiV l)) ?_
 refine .w (.bool (pB l)) ?_
 iterate 2 refine .m ?_
 refine .dsr ?_
 iterate 2 refine .m ?_
 rcases Bool.eq_false_or_eq_true (pB l) with h13 | h13
 ·refine .mb h13 ?_
  have p13 := h13; try simp only [bs] at p13
  refine .w (sv l) ?_
  refine .u (.int .i64 (((l.length : Nat) : Int))) (.lenS Tstr_9 rfl) ?_
  refine .w (.bool (decide ((((l.length : Nat) : Int)) ≤ 2))) ?_
  refine .w (.bool (decide ((((l.length : Nat) : Int)) ≤ 2))) ?_
  rcases Bool.eq_false_or_eq_true (decide ((((l.length : Nat) : Int)) ≤ 2)) with h18 | h18
  ·refine .mb h18 ?_
   have p18 := h18; try simp only [bs] at p18
   refine .m ?_
   refine .w (.bool (decide ((atoiV l) ≥ 0))) ?_
   refine .w (.bool (decide ((atoiV l) ≥ 0))) ?_
   iterate 2 refine .m ?_
   refine .done ?_
   refine .ret ?_
   refine ⟨.tuple #[.int .i64 (atoiV l), .bool (decide ((atoiV l) ≥ 0))], [], Out.two rfl rfl rfl, (Some'.weak (.nil _)), ?_⟩
   refine ⟨atoiV l, ?_, ?_, rfl⟩
   ·show _ = _
    rcases Nat.lt_or_ge 2 l.length with hlen | hlen
    ·have h1 := num2_long hlen
     rw [h1]; simp_all
     try omega
    ·have h1 := (pB_num hlen).1
     rw [← h1]; simp_all
     try omega
   ·intro h0
    rcases Nat.lt_or_ge 2 l.length with hlen | hlen
    ·rw [num2_long hlen] at h0; omega
    ·exact (pB_num hlen).2 h0
  refine .mb h18 ?_
  have p18 := h18; try simp only [bs] at p18
  iterate 2 refine .pass rfl ?_
  refine .w (.bool false) ?_
  iterate 2 refine .m ?_
  refine .done ?_
  refine .ret ?_
  refine ⟨.tuple #[.int .i64 (atoiV l), .bool false], [], Out.two rfl rfl rfl, (Some'.weak (.nil _)), ?_⟩
  refine ⟨atoiV l, ?_, ?_, rfl⟩
  ·show _ = _
   rcases Nat.lt_or_ge 2 l.length with hlen | hlen
   ·have h1 := num2_long hlen
    rw [h1]; simp_all
    try omega
   ·have h1 := (pB_num hlen).1
    rw [← h1]; simp_all
    try omega
  ·intro h0
   rcases Nat.lt_or_ge 2 l.length with hlen | hlen
   ·rw [num2_long hlen] at h0; omega
   ·exact (pB_num hlen).2 h0
 refine .mb h13 ?_
 have p13 := h13; try simp only [bs] at p13
 iterate 3 refine .pass rfl ?_
 refine .w (.bool false) ?_
 refine .m ?_
 iterate 2 refine .pass rfl ?_
 refine .w (.bool false) ?_
 iterate 2 refine .m ?_
 refine .done ?_
 refine .ret ?_
 refine ⟨.tuple #[.int .i64 (atoiV l), .bool false], [], Out.two rfl rfl rfl, (Some'.weak (.nil _)), ?_⟩
 refine ⟨atoiV l, ?_, ?_, rfl⟩
 ·show _ = _
  rcases Nat.lt_or_ge 2 l.length with hlen | hlen
  ·have h1 := num2_long hlen
   rw [h1]; simp_all
   try omega
  ·have h1 := (pB_num hlen).1
   rw [← h1]; simp_all
   try omega
 ·intro h0
  rcases Nat.lt_or_ge 2 l.length with hlen | hlen
  ·rw [num2_long hlen] at h0; omega
  ·exact (pB_num hlen).2 h0

end Go.Proofs.YtgpkpopbajkklaaGreatDoor
